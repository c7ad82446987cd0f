/- D without fuel: what D answers in the limit, in continuation style. -/
import Derived.Test.YthmgennimcjlpaaPb
import Derived.KernelRfl
import Derived.Test.YthmgennimcjlpaaProg
section
set_option linter.unusedVariables false
set_option linter.unusedSimpArgs false
namespace Go.D

open Classical in
noncomputable def lim {α : Type} (m : Nat → Option α) : Option α :=
  if h : ∃ r k0, ∀ k, k0 ≤ k → m k = some r then some h.choose else none

theorem lim_some {α : Type} {m : Nat → Option α} {r : α} (h : lim m = some r) : ∃ k0, ∀ k, k0 ≤ k → m k = some r := by
  unfold lim at h
  split at h
  · rename_i hx
    injection h with h; subst h
    exact hx.choose_spec
  · exact absurd h (by simp)

theorem lim_eq {α : Type} {m : Nat → Option α} {r : α} (h : ∃ k0, ∀ k, k0 ≤ k → m k = some r) : lim m = some r := by
  have hx : ∃ r k0, ∀ k, k0 ≤ k → m k = some r := ⟨r, h⟩
  unfold lim
  rw [dif_pos hx]
  obtain ⟨k0, h0⟩ := h
  obtain ⟨k1, h1⟩ := hx.choose_spec
  have e0 := h0 (max k0 k1) (Nat.le_max_left _ _)
  have e1 := h1 (max k0 k1) (Nat.le_max_right _ _)
  rw [← e0, ← e1]

theorem lim_const {α : Type} (o : Option α) : lim (fun _ => o) = o := by
  cases o with
  | some r => exact lim_eq ⟨0, fun _ _ => rfl⟩
  | none =>
    cases h : lim (fun _ : Nat => (none : Option α)) with
    | none => rfl
    | some r => obtain ⟨k0, h0⟩ := lim_some h; exact absurd (h0 k0 (Nat.le_refl _)) (by simp)

theorem lim_succ {α : Type} (m : Nat → Option α) : lim (fun k => m (k + 1)) = lim m := by
  cases h : lim m with
  | some r =>
    obtain ⟨k0, h0⟩ := lim_some h
    exact lim_eq ⟨k0, fun k hk => h0 _ (by omega)⟩
  | none =>
    cases h1 : lim (fun k => m (k + 1)) with
    | none => rfl
    | some r =>
      obtain ⟨k0, h0⟩ := lim_some h1
      have : lim m = some r := lim_eq ⟨k0 + 1, fun k hk => by have := h0 (k - 1) (by omega); rwa [Nat.sub_add_cancel (by omega)] at this⟩
      rw [h] at this
      exact this.symm

noncomputable def callL (P : Program) (pol : FuncId → FPol) : CallF := fun lo f args σ => lim fun k => callK P pol k lo f args σ

noncomputable def iterL (body : Frame → Store → Option St) (a : Frame) (σ : Store) : Option St := lim fun k => iter body k a σ

theorem iterL_eq (body : Frame → Store → Option St) (a : Frame) (σ : Store) : iterL body a σ = match body a σ with
    | some (.normal, a', σ') => iterL body a' σ'
    | r => r := by
  unfold iterL
  rw [← lim_succ]
  simp only [iter]
  cases body a σ with
  | none => exact lim_const none
  | some r =>
    obtain ⟨ex, a', σ'⟩ := r
    cases ex with
    | normal => rfl
    | exit i => exact lim_const _
    | ret => exact lim_const _

/-! ### Continuation style -/
def pickV (c x y : DV) : Option DV := match c with
  | .p (.bool b) => some (if b then x else y)
  | _ => none
def boxV (v : DV) : Option (List DV) := if v.cells.all DV.one then some v.cells else none
def nilCheckV : DV → Option DV
  | .ptr r off => some (.ptr r off)
  | .pptr cs off => some (.pptr cs off)
  | _ => none
def extractV (x : DV) (i : Nat) : Option DV := match x with
  | .tuple vs => vs[i]?
  | _ => none
def pureV (call : CallF) (f : FuncId) (args : List DV) (σ : Store) : Option DV :=
  if (args.map view).all rowFree then
    match call 0 f (args.map view) [] with
    | some (v, σ') => thawAll 0 σ' v
    | none => none
  else
    match call σ.length f (args.map view) σ with
    | some (v, σ') => thawAll σ.length σ' v
    | none => none
def pureFn (call : CallF) (g : DV) (args : List DV) (σ : Store) : Option DV := match g with
  | .fn f caps => pureV call f (args ++ caps) σ
  | _ => none
def plainFn (call : CallF) (lo : Nat) (g : DV) (args : List DV) (σ : Store) : Option (DV × Store) := match g with
  | .fn f caps => call lo f (args ++ caps) σ
  | _ => none

theorem pureCall_eq (call : CallF) (f : FuncId) (args : List DV) (σ : Store) : pureCall call f args σ = (pureV call f args σ).map (·, σ) := by
  unfold pureCall pureV
  split
  · cases call 0 f (args.map view) [] <;> rfl
  · cases call σ.length f (args.map view) σ <;> rfl

section
variable {β : Type}

def opK (P : Program) (pl : FPol) (call : CallF) (lo : Nat) (a : Frame) (o : Oper) (σ : Store) (K : DV → Store → Option β) : Option β :=
  match o.op with
  | .move x | .assign x => K (ev a x) σ
  | .pick c x y => (pickV (ev a c) (ev a x) (ev a y)).bind fun v => K v σ
  | .alloc t => (zeroOf P t).bind fun z => K (.ptr σ.length 0) (σ ++ [.mix z])
  | .box _ x => (boxV (ev a x)).bind fun cs => K (.ptr σ.length 0) (σ ++ [.mix cs])
  | .build t ps => (build P t (ps.toList.map fun q => (q.1, ev a q.2))).bind fun v => K v σ
  | .buildSlice t n ps => (buildSlice P (pl.asRow o.dst) t n (ps.toList.map fun q => (q.1, ev a q.2)) σ).bind fun r => K r.1 r.2
  | .load t x => (loadP P pl o.dst t (ev a x) σ).bind fun v => K v σ
  | .store t x y => (store P lo t (ev a x) (ev a y) σ).bind fun σ' => K .undef σ'
  | .nilCheck x => (nilCheckV (ev a x)).bind fun v => K v σ
  | .binOp op t x y _ => (binOp P op t (ev a x) (ev a y)).bind fun v => K v σ
  | .unOp op _ x => (unOp op (ev a x)).bind fun v => K v σ
  | .convert s d x => (convert P s d (ev a x)).bind fun v => K v σ
  | .makeFunc (.func f) first caps => if first.size = 0 then K (.fn f (caps.toList.map (ev a))) σ else none
  | .makeMap _ none => K (.map σ.length) (σ ++ [.map []])
  | .makeSlice t l c => (makeSlice P (pl.isMixed o.dst) t (ev a l) (ev a c) σ).bind fun r => K r.1 r.2
  | .slice t x l h m => (sliceOp P t (ev a x) (l.map (ev a)) (h.map (ev a)) (m.map (ev a))).bind fun v => K v σ
  | .fieldAddr t x i => (fieldAddr P t (ev a x) i).bind fun v => K v σ
  | .field t x i => (field P t (ev a x) i).bind fun v => K v σ
  | .indexAddr t x i => (indexAddr P t (ev a x) (ev a i)).bind fun v => K v σ
  | .index t x i => (index P t (ev a x) (ev a i)).bind fun v => K v σ
  | .lookup t x i ok => (lookup P t (ev a x) (ev a i) ok σ).bind fun v => K v σ
  | .mapUpdate t m k v => (mapUpdate P lo t (ev a m) (ev a k) (ev a v) σ).bind fun σ' => K .undef σ'
  | .extract x i => (extractV (ev a x) i).bind fun v => K v σ
  | .call c =>
    match c.callee with
    | .builtin .len => if c.args.size = 1 ∧ c.argTypes.size = 1 then (len P (c.argTypes.getD 0 0) (ev a (c.args.getD 0 (.const undef))) σ).bind fun v => K v σ else none
    | .builtin .append => if c.args.size = 2 ∧ c.argTypes.size = 2 then (append P lo (pl.isMixed o.dst) (c.argTypes.getD 0 0) (c.argTypes.getD 1 0) (ev a (c.args.getD 0 (.const undef))) (ev a (c.args.getD 1 (.const undef))) σ).bind fun r => K r.1 r.2 else none
    | .builtin .max => (maxMin true (c.args.toList.map (ev a))).bind fun v => K v σ
    | .builtin .min => (maxMin false (c.args.toList.map (ev a))).bind fun v => K v σ
    | .builtin _ => none
    | .value g => if pl.isPlain o.dst then (plainFn call lo (ev a g) (c.args.toList.map (ev a)) σ).bind fun r => K r.1 r.2
      else (pureFn call (ev a g) (c.args.toList.map (ev a)) σ).bind fun v => K v σ
    | .invoke _ _ => none
  | _ => none

theorem bind_map' {α γ : Type} (m : Option α) (f : α → γ) (K : γ → Option β) : (m.map f).bind K = m.bind fun v => K (f v) := by cases m <;> rfl

theorem opK_eq (P : Program) (pl : FPol) (call : CallF) (lo : Nat) (a : Frame) (o : Oper) (σ : Store) (K : DV → Store → Option β) : opK P pl call lo a o σ K = (op P pl call lo a o σ).bind fun r => K r.1 r.2 := by
  cases ho : o.op <;> simp only [opK, op, ho, bind_map', Option.bind_some, Option.bind_none]
  case pick c x y =>
    unfold pickV
    generalize ev a c = g
    cases g with
    | p v => cases v <;> rfl
    | _ => rfl
  case box => unfold boxV; split <;> rfl
  case nilCheck x =>
    unfold nilCheckV
    generalize ev a x = g
    cases g <;> rfl
  case extract x i =>
    unfold extractV
    generalize ev a x = g
    cases g <;> simp only [bind_map', Option.bind_none]
  case makeFunc f first caps => cases f <;> first | rfl | (simp only []; split <;> rfl)
  case makeMap t n => cases n <;> rfl
  case call c =>
    cases hc : c.callee <;> try rfl
    case builtin b =>
      cases b <;> try rfl
      all_goals first | exact bind_map' _ _ _ | (by_cases h : c.args.size = 1 ∧ c.argTypes.size = 1 <;> simp only [h, and_self, if_true, if_false, bind_map', Option.bind_none]; done) | (by_cases h : c.args.size = 2 ∧ c.argTypes.size = 2 <;> simp only [h, and_self, if_true, if_false, bind_map', Option.bind_none]; done)
    case value g =>
      show (if pl.isPlain o.dst then _ else _) = Option.bind (match ev a g with
        | DV.fn f caps => if pl.isPlain o.dst = true then call lo f (List.map (ev a) c.args.toList ++ caps) σ else pureCall call f (List.map (ev a) c.args.toList ++ caps) σ
        | _ => none) _
      unfold plainFn pureFn
      cases pl.isPlain o.dst <;> cases ev a g <;> first | rfl | (simp only [pureCall_eq, bind_map', Bool.false_eq_true, if_false, if_true]; done) | (simp only [pureCall_eq, bind_map', Bool.false_eq_true, if_false, if_true]; rfl)

def guardVal (all : Array Oper) (a : Frame) (j : Nat) : DV := match (all[j]?).bind (·.dst) with
  | some t => a.getD t .undef
  | none => .undef
def guardK (g : DV) (want : Bool) (m : Option (DV × Store)) (σ : Store) (K : DV → Store → Option β) : Option β := match g with
  | .p (.bool b) => if (b == want) = true then m.bind (fun r => K r.1 r.2) else K .skip σ
  | .tuple [] => K .skip σ
  | _ => none

def opsK (P : Program) (pl : FPol) (call : CallF) (all : Array Oper) (lows : Bool → Store → Nat) : List Oper → List Bool → Frame → Store → (Frame → Store → Option β) → Option β
  | [], _, a, σ, K => K a σ
  | o :: os, cs, a, σ, K => match o.guard with
    | none => opK P pl call (lows (cs.headD true) σ) a o σ fun v σ' => opsK P pl call all lows os cs.tail (put a o.dst v) σ' K
    | some (j, want) => guardK (guardVal all a j) want (opK P pl call (lows (cs.headD true) σ) a o σ fun v σ' => some (v, σ')) σ fun v σ' => opsK P pl call all lows os cs.tail (put a o.dst v) σ' K

theorem wantedD_guard {all : Array Oper} {a : Frame} {o : Oper} {j : Nat} {want : Bool} (h : o.guard = some (j, want)) :
    wantedD all a o = match guardVal all a j with | .p (.bool b) => some (b == want) | .tuple [] => some false | _ => none := by
  unfold wantedD guardVal
  rw [h]
  simp only []
  cases (all[j]?).bind (·.dst) <;> rfl

theorem opsK_eq (P : Program) (pl : FPol) (call : CallF) (all : Array Oper) (lows : Bool → Store → Nat) : ∀ (os : List Oper) (cs : List Bool) (a : Frame) (σ : Store) (K : Frame → Store → Option β),
    opsK P pl call all lows os cs a σ K = (opsD P pl call all lows os cs a σ).bind fun r => K r.1 r.2
  | [], cs, a, σ, K => rfl
  | o :: os, cs, a, σ, K => by
    simp only [opsK, opsD]
    cases hg : o.guard with
    | none =>
      have hw : wantedD all a o = some true := by unfold wantedD; rw [hg]
      rw [hw]
      simp only [opK_eq]
      cases op P pl call (lows (cs.headD true) σ) a o σ with
      | none => rfl
      | some r => exact opsK_eq P pl call all lows os cs.tail _ _ K
    | some g =>
      obtain ⟨j, want⟩ := g
      rw [wantedD_guard hg]
      simp only [opK_eq]
      generalize guardVal all a j = g
      cases g with
      | p v =>
        cases v with
        | bool b =>
          simp only [guardK]
          by_cases hb : (b == want) = true
          · rw [if_pos hb, hb]
            cases op P pl call (lows (cs.headD true) σ) a o σ with
            | none => rfl
            | some r => exact opsK_eq P pl call all lows os cs.tail _ _ K
          · rw [if_neg hb]
            have hb : (b == want) = false := by simpa using hb
            rw [hb]
            exact opsK_eq P pl call all lows os cs.tail _ _ K
        | _ => rfl
      | tuple vs =>
        cases vs with
        | nil => exact opsK_eq P pl call all lows os cs.tail _ _ K
        | cons v vs => rfl
      | _ => rfl

/-- The same with the frames and stores it went through. -/
def opsKT (P : Program) (pl : FPol) (call : CallF) (all : Array Oper) (lows : Bool → Store → Nat) : List Oper → List Bool → Frame → Store → List (Frame × Store) → (Frame → Store → List (Frame × Store) → Option β) → Option β
  | [], _, a, σ, tr, K => K a σ (tr ++ [(a, σ)])
  | o :: os, cs, a, σ, tr, K => match o.guard with
    | none => opK P pl call (lows (cs.headD true) σ) a o σ fun v σ' => opsKT P pl call all lows os cs.tail (put a o.dst v) σ' (tr ++ [(a, σ)]) K
    | some (j, want) => guardK (guardVal all a j) want (opK P pl call (lows (cs.headD true) σ) a o σ fun v σ' => some (v, σ')) σ fun v σ' => opsKT P pl call all lows os cs.tail (put a o.dst v) σ' (tr ++ [(a, σ)]) K

theorem opsKT_eq (P : Program) (pl : FPol) (call : CallF) (all : Array Oper) (lows : Bool → Store → Nat) : ∀ (os : List Oper) (cs : List Bool) (a : Frame) (σ : Store) (tr : List (Frame × Store)) (K : Frame → Store → List (Frame × Store) → Option β),
    opsKT P pl call all lows os cs a σ tr K = (opsD P pl call all lows os cs a σ).bind fun r => K r.1 r.2 (tr ++ traceD P pl call all lows os cs a σ)
  | [], cs, a, σ, tr, K => rfl
  | o :: os, cs, a, σ, tr, K => by
    simp only [opsKT, opsD, traceD]
    cases hg : o.guard with
    | none =>
      have hw : wantedD all a o = some true := by unfold wantedD; rw [hg]
      rw [hw]
      simp only [opK_eq]
      cases op P pl call (lows (cs.headD true) σ) a o σ with
      | none => rfl
      | some r =>
        refine (opsKT_eq P pl call all lows os cs.tail _ _ (tr ++ [(a, σ)]) K).trans ?_
        simp only [List.append_assoc, List.singleton_append]
    | some g =>
      obtain ⟨j, want⟩ := g
      rw [wantedD_guard hg]
      simp only [opK_eq]
      generalize guardVal all a j = g
      cases g with
      | p v =>
        cases v with
        | bool b =>
          simp only [guardK]
          by_cases hb : (b == want) = true
          · rw [if_pos hb, hb]
            cases op P pl call (lows (cs.headD true) σ) a o σ with
            | none => rfl
            | some r =>
              refine (opsKT_eq P pl call all lows os cs.tail _ _ (tr ++ [(a, σ)]) K).trans ?_
              simp only [List.append_assoc, List.singleton_append]
          · rw [if_neg hb]
            have hb : (b == want) = false := by simpa using hb
            rw [hb]
            refine (opsKT_eq P pl call all lows os cs.tail _ _ (tr ++ [(a, σ)]) K).trans ?_
            simp only [List.append_assoc, List.singleton_append]
        | _ => rfl
      | tuple vs =>
        cases vs with
        | nil =>
          refine (opsKT_eq P pl call all lows os cs.tail _ _ (tr ++ [(a, σ)]) K).trans ?_
          simp only [List.append_assoc, List.singleton_append]
        | cons v vs => rfl
      | _ => rfl

def condK (c : DV) (x y : Option β) : Option β := match c with
  | .p (.bool true) => x
  | .p (.bool false) => y
  | _ => none

def roundsK (run : List DV → Store → (Ex → Store → Option β) → Option β) : List (List DV) → Store → (Ex → Store → Option β) → Option β
  | [], σ, K => K .normal σ
  | xs :: rest, σ, K => run xs σ fun ex σ' => match ex with
    | .normal => roundsK run rest σ' K
    | ex => K ex σ'
end

noncomputable def loopWith {β : Type} (body : Frame → Store → Option St) (a : Frame) (σ : Store) (K : Ex → Frame → Store → Option β) : Option β :=
  (iterL body a σ).bind fun r => K r.1 r.2.1 r.2.2

noncomputable def codeK (P : Program) (pl : FPol) (call : CallF) (lo : Nat) : Code → {β : Type} → Ann → Frame → Store → (Ex → Frame → Store → Option β) → Option β
  | .skip, _, _, a, σ, K => K .normal a σ
  | .region _ ops draw, _, _, a, σ, K => if draw then (if pl.rload.isEmpty then opsK P pl call ops (lowOf lo) ops.toList (flags pl ops) a σ (K .normal) else opsKT P pl call ops (lowOf lo) ops.toList (flags pl ops) a σ [] fun a' σ' tr => bif stableB P pl ops.toList tr then K .normal a' σ' else none) else opsK P pl call ops (fun _ _ => lo) ops.toList [] a σ (K .normal)
  | .seq x y, _, an, a, σ, K => codeK P pl call lo x an.left a σ fun ex a' σ' => match ex with
    | .normal => codeK P pl call lo y an.right a' σ' K
    | ex => K ex a' σ'
  | .cond c x y, _, an, a, σ, K => condK (ev a c) (codeK P pl call lo x an.left a σ K) (codeK P pl call lo y an.right a σ K)
  | .block id x, _, an, a, σ, K => codeK P pl call lo x an.left a σ fun ex a' σ' => match ex with
    | .normal => K .normal (an.cut a') σ'
    | .exit i => if i = id then K .normal (an.cut a') σ' else K (.exit i) a' σ'
    | .ret => K .ret a' σ'
  | .loop x, _, an, a, σ, K => loopWith (fun a σ => codeK P pl call lo x an.left (an.cut a) σ fun ex a σ => some (ex, a, σ)) (an.cut a) σ K
  | .exit id, _, _, a, σ, K => K (.exit id) a σ
  | .ret, _, _, a, σ, K => K .ret a σ
  | .rangeFunc g ps x y, _, an, a, σ, K => match ev a g with
    | .fn f caps => match (pl.seq f).bind fun kind => seqList kind caps with
      | some xss =>
        if xss.all (·.length == ps.size) && !hasRange x && !hasRange y then
          roundsK (fun xs σ K' => codeK P pl call lo x .nil (putAll ps.toList xs a) σ fun ex a1 σ1 => match ex with
            | .normal => codeK P pl call lo y an.left a1 σ1 fun ex _ σ2 => K' ex σ2
            | _ => none) xss σ fun ex σ' => K ex a σ'
        else none
      | none => none
    | _ => none
  | _, _, _, _, _, _ => none

end Go.D
end
/- D without fuel is sound: what the continuation style answers, the evaluator answers with enough fuel. -/
section
set_option linter.unusedVariables false
set_option linter.unusedSimpArgs false
namespace Go.D

variable {P : Program} {pol : FuncId → FPol}

/-- From some fuel on. -/
def Evt {α : Type} (m : Nat → Option α) (r : α) : Prop := ∃ k0, ∀ k, k0 ≤ k → m k = some r

theorem pureV_evt {f : FuncId} {args : List DV} {σ : Store} {v : DV} (h : pureV (callL P pol) f args σ = some v) : Evt (fun k => pureV (callK P pol k) f args σ) v := by
  unfold pureV at h
  split at h
  · rename_i hc
    split at h
    · rename_i v1 σ1 h1
      obtain ⟨k0, h0⟩ := lim_some h1
      refine ⟨k0, fun k hk => ?_⟩
      show pureV _ _ _ _ = _
      unfold pureV
      rw [if_pos hc, h0 k hk]
      exact h
    · exact absurd h (by simp)
  · rename_i hc
    split at h
    · rename_i v1 σ1 h1
      obtain ⟨k0, h0⟩ := lim_some h1
      refine ⟨k0, fun k hk => ?_⟩
      show pureV _ _ _ _ = _
      unfold pureV
      rw [if_neg hc, h0 k hk]
      exact h
    · exact absurd h (by simp)

theorem op_evt {pl : FPol} {lo : Nat} {a : Frame} {o : Oper} {σ : Store} {r : DV × Store} (h : op P pl (callL P pol) lo a o σ = some r) : Evt (fun k => op P pl (callK P pol k) lo a o σ) r := by
  unfold op at h
  cases ho : o.op with
  | call c =>
    simp only [ho] at h
    cases hc : c.callee with
    | value g =>
      simp only [hc] at h
      cases hg : ev a g with
      | fn f caps =>
        simp only [hg] at h
        by_cases hp : pl.isPlain o.dst = true
        · rw [if_pos hp] at h
          obtain ⟨k0, h0⟩ := lim_some h
          refine ⟨k0, fun k hk => ?_⟩
          simp only [op, ho, hc, hg, if_pos hp]
          exact h0 k hk
        · rw [if_neg hp, pureCall_eq] at h
          obtain ⟨v, hv, rfl⟩ := Option.map_eq_some_iff.1 h
          obtain ⟨k0, h0⟩ := pureV_evt hv
          refine ⟨k0, fun k hk => ?_⟩
          simp only [op, ho, hc, hg, if_neg hp, pureCall_eq]
          have := h0 k hk
          simp only [this, Option.map_some]
      | _ => simp [hg] at h
    | builtin b => cases b <;> exact ⟨0, fun k _ => by unfold op; simp only [ho, hc]; simpa only [hc] using h⟩
    | invoke r m => exact ⟨0, fun k _ => by unfold op; simp only [ho, hc]; simpa only [hc] using h⟩
  | makeFunc f first caps => cases f <;> exact ⟨0, fun k _ => by unfold op; simpa only [ho] using h⟩
  | makeMap t n => cases n <;> exact ⟨0, fun k _ => by unfold op; simpa only [ho] using h⟩
  | _ => exact ⟨0, fun k _ => by unfold op; simpa only [ho] using h⟩

theorem opsD_evt {pl : FPol} {all : Array Oper} {lows : Bool → Store → Nat} : ∀ {os : List Oper} {cs : List Bool} {a : Frame} {σ : Store} {r : Frame × Store}, opsD P pl (callL P pol) all lows os cs a σ = some r → Evt (fun k => opsD P pl (callK P pol k) all lows os cs a σ) r
  | [], cs, a, σ, r, h => ⟨0, fun _ _ => h⟩
  | o :: os, cs, a, σ, r, h => by
    simp only [opsD] at h
    split at h
    · rename_i hw
      split at h
      · rename_i v σ1 h1
        obtain ⟨k0, h0⟩ := op_evt h1
        obtain ⟨k1, h2⟩ := opsD_evt h
        refine ⟨max k0 k1, fun k hk => ?_⟩
        simp only [opsD, hw, h0 k (by omega), h2 k (by omega)]
      · exact absurd h (by simp)
    · rename_i hw
      obtain ⟨k1, h2⟩ := opsD_evt h
      exact ⟨k1, fun k hk => by simp only [opsD, hw, h2 k hk]⟩
    · exact absurd h (by simp)

theorem traceD_evt {pl : FPol} {all : Array Oper} {lows : Bool → Store → Nat} : ∀ {os : List Oper} {cs : List Bool} {a : Frame} {σ : Store} {r : Frame × Store}, opsD P pl (callL P pol) all lows os cs a σ = some r → ∃ k0, ∀ k, k0 ≤ k → traceD P pl (callK P pol k) all lows os cs a σ = traceD P pl (callL P pol) all lows os cs a σ
  | [], cs, a, σ, r, h => ⟨0, fun _ _ => rfl⟩
  | o :: os, cs, a, σ, r, h => by
    simp only [opsD] at h
    split at h
    · rename_i hw
      split at h
      · rename_i v σ1 h1
        obtain ⟨k0, h0⟩ := op_evt h1
        obtain ⟨k1, h2⟩ := traceD_evt h
        refine ⟨max k0 k1, fun k hk => ?_⟩
        simp only [traceD, hw, h0 k (by omega), h1, h2 k (by omega)]
      · exact absurd h (by simp)
    · rename_i hw
      obtain ⟨k1, h2⟩ := traceD_evt h
      exact ⟨k1, fun k hk => by simp only [traceD, hw, h2 k hk]⟩
    · exact absurd h (by simp)

theorem bind_some' {α γ : Type} {m : Option α} {K : α → Option γ} {r : γ} (h : m.bind K = some r) : ∃ x, m = some x ∧ K x = some r := Option.bind_eq_some_iff.1 h

theorem region_evt {β : Type} {pl : FPol} {lo id : Nat} {ops : Array Oper} {draw : Bool} {an : Ann} {a : Frame} {σ : Store} {K : Ex → Frame → Store → Option β} {r : β} (h : codeK P pl (callL P pol) lo (.region id ops draw) an a σ K = some r) :
    ∃ a' σ', K .normal a' σ' = some r ∧ Evt (fun k => region P pl (callK P pol k) lo ops draw a σ) (a', σ') := by
  unfold codeK at h
  cases draw with
  | true =>
    simp only [if_true, opsK_eq] at h
    split at h
    · rename_i he
      obtain ⟨⟨a', σ'⟩, h1, h2⟩ := bind_some' h
      obtain ⟨k0, h0⟩ := opsD_evt h1
      exact ⟨a', σ', h2, k0, fun k hk => by simp only [region, if_true, he, Bool.true_or]; exact h0 k hk⟩
    · rw [opsKT_eq] at h
      obtain ⟨⟨a', σ'⟩, h1, h2⟩ := bind_some' h
      simp only [List.nil_append] at h2
      obtain ⟨k0, h0⟩ := opsD_evt h1
      obtain ⟨k1, h3⟩ := traceD_evt h1
      cases hs : stableB P pl ops.toList (traceD P pl (callL P pol) ops (lowOf lo) ops.toList (flags pl ops) a σ) with
      | false => rw [hs] at h2; exact absurd h2 (by simp)
      | true =>
        rw [hs] at h2
        refine ⟨a', σ', h2, max k0 k1, fun k hk => ?_⟩
        simp only [region, if_true, h3 k (by omega), hs, Bool.or_true]
        exact h0 k (by omega)
  | false =>
    simp only [Bool.false_eq_true, if_false, opsK_eq] at h
    obtain ⟨⟨a', σ'⟩, h1, h2⟩ := bind_some' h
    obtain ⟨k0, h0⟩ := opsD_evt h1
    exact ⟨a', σ', h2, k0, fun k hk => by simp only [region, Bool.false_eq_true, if_false]; exact h0 k hk⟩

theorem mask_mask : ∀ (m : List Bool) (a : Frame), mask m (mask m a) = mask m a
  | _, [] => by simp [mask]
  | [], v :: a => by simp [mask, mask_mask [] a]
  | b :: m, v :: a => by cases b <;> simp [mask, mask_mask m a]

theorem cut_cut (an : Ann) (a : Frame) : an.cut (an.cut a) = an.cut a := by
  cases an with
  | keep m an => exact mask_mask m a
  | _ => rfl

theorem codeK_evt {pl : FPol} {lo : Nat} : ∀ (c : Code) {β : Type} {an : Ann} {a : Frame} {σ : Store} {K : Ex → Frame → Store → Option β} {r : β}, codeK P pl (callL P pol) lo c an a σ K = some r →
    ∃ ex a' σ', K ex a' σ' = some r ∧ Evt (fun k => code P pl (callK P pol k) k lo c an a σ) (ex, a', σ') := by
  intro c
  induction c with
  | skip =>
    intro β an a σ K r h
    exact ⟨_, a, σ, h, 0, fun _ _ => rfl⟩
  | region id ops draw =>
    intro β an a σ K r h
    obtain ⟨a', σ', h1, k0, h2⟩ := region_evt h
    exact ⟨.normal, a', σ', h1, k0, fun k hk => by simp only [code, h2 k hk, Option.map_some]⟩
  | seq x y ihx ihy =>
    intro β an a σ K r h
    unfold codeK at h
    obtain ⟨ex, a1, σ1, h1, k0, h0⟩ := ihx h
    cases ex with
    | normal =>
      obtain ⟨ex2, a2, σ2, h2, k1, h3⟩ := ihy h1
      exact ⟨ex2, a2, σ2, h2, max k0 k1, fun k hk => by simp only [code, h0 k (by omega), h3 k (by omega)]⟩
    | exit i => exact ⟨_, a1, σ1, h1, k0, fun k hk => by simp only [code, h0 k hk]⟩
    | ret => exact ⟨_, a1, σ1, h1, k0, fun k hk => by simp only [code, h0 k hk]⟩
  | cond c x y ihx ihy =>
    intro β an a σ K r h
    unfold codeK condK at h
    split at h
    · rename_i hc
      obtain ⟨ex, a1, σ1, h1, k0, h0⟩ := ihx h
      exact ⟨ex, a1, σ1, h1, k0, fun k hk => by simp only [code, hc]; exact h0 k hk⟩
    · rename_i hc
      obtain ⟨ex, a1, σ1, h1, k0, h0⟩ := ihy h
      exact ⟨ex, a1, σ1, h1, k0, fun k hk => by simp only [code, hc]; exact h0 k hk⟩
    · exact absurd h (by simp)
  | block id x ih =>
    intro β an a σ K r h
    unfold codeK at h
    obtain ⟨ex, a1, σ1, h1, k0, h0⟩ := ih h
    cases ex with
    | normal => exact ⟨_, _, σ1, h1, k0, fun k hk => by simp only [code, h0 k hk]⟩
    | exit i =>
      simp only [] at h1
      by_cases hi : i = id
      · rw [if_pos hi] at h1
        exact ⟨_, _, σ1, h1, k0, fun k hk => by simp only [code, h0 k hk, if_pos hi]⟩
      · rw [if_neg hi] at h1
        exact ⟨_, _, σ1, h1, k0, fun k hk => by simp only [code, h0 k hk, if_neg hi]⟩
    | ret => exact ⟨_, a1, σ1, h1, k0, fun k hk => by simp only [code, h0 k hk]⟩
  | loop x ih =>
    intro β an a σ K r h
    unfold codeK loopWith at h
    obtain ⟨⟨ex, a', σ'⟩, h1, h2⟩ := bind_some' h
    obtain ⟨j, hj⟩ := lim_some h1
    have hj := hj j (Nat.le_refl _)
    have key : ∀ (j : Nat) (a : Frame) (σ : Store), iter (fun a σ => codeK P pl (callL P pol) lo x an.left (an.cut a) σ fun ex a σ => some (ex, a, σ)) j a σ = some (ex, a', σ') →
        ∃ k0, ∀ k n, k0 ≤ k → k0 ≤ n → iter (fun a σ => code P pl (callK P pol k) k lo x an.left (an.cut a) σ) n a σ = some (ex, a', σ') := by
      intro j
      induction j with
      | zero => intro a σ h; exact absurd h (by simp [iter])
      | succ j ihj =>
        intro a σ h
        simp only [iter] at h
        split at h
        · rename_i a1 σ1 hb
          obtain ⟨ex2, a2, σ2, e, k0, h0⟩ := ih hb
          injection e with e; injection e with e1 e2; injection e2 with e2 e3; subst e1; subst e2; subst e3
          obtain ⟨k1, h3⟩ := ihj a2 σ2 h
          refine ⟨max k0 k1 + 1, fun k n hk hn => ?_⟩
          match n, hn with
          | n + 1, hn => simp only [iter, h0 k (by omega), h3 k n (by omega) (by omega)]
        · rename_i hne
          obtain ⟨ex2, a2, σ2, e, k0, h0⟩ := ih h
          injection e with e; injection e with e1 e2; injection e2 with e2 e3; subst e1; subst e2; subst e3
          refine ⟨k0 + 1, fun k n hk hn => ?_⟩
          match n, hn with
          | n + 1, hn =>
            simp only [iter, h0 k (by omega)]
            cases ex2 with
            | normal => exact absurd h (hne a2 σ2)
            | exit i => rfl
            | ret => rfl
    obtain ⟨k0, h0⟩ := key j _ σ hj
    refine ⟨ex, a', σ', h2, k0 + 1, fun k hk => ?_⟩
    simp only [code]
    have := h0 k k (by omega) (by omega)
    match k, hk with
    | k + 1, hk =>
      simp only [iter, cut_cut] at this ⊢
      exact this
  | exit id =>
    intro β an a σ K r h
    exact ⟨_, a, σ, h, 0, fun _ _ => rfl⟩
  | ret =>
    intro β an a σ K r h
    exact ⟨_, a, σ, h, 0, fun _ _ => rfl⟩
  | rangeFunc g ps x y ihx ihy =>
    intro β an a σ K r h
    unfold codeK at h
    split at h
    · rename_i f caps hg
      split at h
      · rename_i xss hx
        split at h
        · rename_i hc
          have key : ∀ (xss : List (List DV)) (σ : Store), roundsK (fun xs σ K' => codeK P pl (callL P pol) lo x .nil (putAll ps.toList xs a) σ fun ex a1 σ1 => match ex with
              | .normal => codeK P pl (callL P pol) lo y an.left a1 σ1 fun ex _ σ2 => K' ex σ2
              | _ => none) xss σ (fun ex σ' => K ex a σ') = some r →
              ∃ ex σ', K ex a σ' = some r ∧ Evt (fun k => roundsD (roundWith (fun a σ => code P pl (callK P pol k) k lo x .nil a σ) (fun a σ => code P pl (callK P pol k) k lo y an.left a σ) ps.toList a) xss σ) (ex, σ') := by
            intro xss
            induction xss with
            | nil => intro σ h; exact ⟨.normal, σ, h, 0, fun _ _ => rfl⟩
            | cons xs xss ihr =>
              intro σ h
              simp only [roundsK] at h
              obtain ⟨ex1, a1, σ1, h1, k0, h0⟩ := ihx h
              cases ex1 with
              | normal =>
                obtain ⟨ex2, a2, σ2, h2, k1, h3⟩ := ihy h1
                have hrw : ∀ k, max k0 k1 ≤ k → roundWith (fun a σ => code P pl (callK P pol k) k lo x .nil a σ) (fun a σ => code P pl (callK P pol k) k lo y an.left a σ) ps.toList a xs σ = some (ex2, σ2) := fun k hk => by
                  simp only [roundWith, h0 k (by omega), h3 k (by omega)]
                cases ex2 with
                | normal =>
                  obtain ⟨ex3, σ3, h4, k2, h5⟩ := ihr σ2 h2
                  refine ⟨ex3, σ3, h4, max (max k0 k1) k2, fun k hk => ?_⟩
                  simp only [roundsD, hrw k (by omega), h5 k (by omega)]
                | exit i => exact ⟨_, σ2, h2, max k0 k1, fun k hk => by simp only [roundsD, hrw k (by omega)]⟩
                | ret => exact ⟨_, σ2, h2, max k0 k1, fun k hk => by simp only [roundsD, hrw k (by omega)]⟩
              | exit i => exact absurd h1 (by simp)
              | ret => exact absurd h1 (by simp)
          obtain ⟨ex, σ', h1, k0, h0⟩ := key xss σ h
          refine ⟨ex, a, σ', h1, k0, fun k hk => ?_⟩
          simp only [code, hg, hx, if_pos hc]
          have := h0 k hk
          simp only at this
          rw [this]
          rfl
        · exact absurd h (by simp)
      · exact absurd h (by simp)
    · exact absurd h (by simp)
  | _ =>
    intro β an a σ K r h
    unfold codeK at h
    exact absurd h (by simp)

/-- What stands behind a function's code. -/
def finK (P : Program) (rs : List ResultVar) : Ex → Frame → Store → Option (DV × Store)
  | .normal, a, σ | .ret, a, σ => (resultsOf P a σ rs).bind fun vs => some (wrap vs, σ)
  | _, _, _ => none

theorem callL_of {f lo : Nat} {fn : Func} {c : Code} {args : List DV} {σ : Store} {r : DV × Store} (hf : P.funcs[f]? = some fn) (hname : (fn.name == "runtime.NumGoroutine") = false) (hb : fn.body = some c) (hd : drawsOk c = true)
    (h : codeK P (pol f) (callL P pol) lo c (pol f).ann (args ++ List.replicate (fn.ntmps - args.length) .undef) σ (finK P fn.results.toList) = some r) : callL P pol lo f args σ = some r := by
  obtain ⟨ex, a', σ', h1, k0, h0⟩ := codeK_evt c h
  refine lim_eq ⟨k0 + 1, fun k hk => ?_⟩
  match k, hk with
  | k + 1, hk =>
    have h0 := h0 k (by omega)
    simp only at h0
    simp only [callK, hf, hname, hb, hd, Bool.true_eq_false, if_false, h0]
    cases ex with
    | normal => obtain ⟨vs, hv, he⟩ := bind_some' h1; simp only [hv, Option.map_some]; exact he
    | ret => obtain ⟨vs, hv, he⟩ := bind_some' h1; simp only [hv, Option.map_some]; exact he
    | exit i => exact absurd h1 (by simp [finK])

/-! ### Loops, round by round -/
theorem codeK_bind {pl : FPol} {call : CallF} {lo : Nat} : ∀ (c : Code) {β γ : Type} {an : Ann} {a : Frame} {σ : Store} {K : Ex → Frame → Store → Option β} {J : β → Option γ},
    (codeK P pl call lo c an a σ K).bind J = codeK P pl call lo c an a σ fun ex a σ => (K ex a σ).bind J := by
  have hroundsK : ∀ {β γ : Type} {run : {β : Type} → List DV → Store → (Ex → Store → Option β) → Option β} (hr : ∀ {β γ : Type} xs σ (K : Ex → Store → Option β) (J : β → Option γ), (run xs σ K).bind J = run xs σ fun ex σ => (K ex σ).bind J) (J : β → Option γ) (K : Ex → Store → Option β) (xss : List (List DV)) (σ : Store),
      (roundsK run xss σ K).bind J = roundsK run xss σ fun ex σ => (K ex σ).bind J := by
    intro β γ run hr J K xss
    induction xss with
    | nil => intro σ; rfl
    | cons xs xss ih =>
      intro σ
      simp only [roundsK, hr]
      congr 1
      funext ex σ'
      cases ex with
      | normal => exact ih σ'
      | exit i => rfl
      | ret => rfl
  intro c
  induction c with
  | skip => intros; rfl
  | region id ops draw =>
    intro β γ an a σ K J
    cases draw with
    | false => simp only [codeK, opsK_eq, Option.bind_assoc, Bool.false_eq_true, if_false]
    | true =>
      simp only [codeK, opsK_eq, if_true]
      split
      · simp only [Option.bind_assoc]
      · simp only [opsKT_eq, Option.bind_assoc, List.nil_append]
        congr 1
        funext r
        cases stableB P pl ops.toList (traceD P pl call ops (lowOf lo) ops.toList (flags pl ops) a σ) <;> rfl
  | seq x y ihx ihy =>
    intro β γ an a σ K J
    simp only [codeK, ihx]
    congr 1
    funext ex a' σ'
    cases ex with
    | normal => exact ihy
    | exit i => rfl
    | ret => rfl
  | cond c x y ihx ihy =>
    intro β γ an a σ K J
    simp only [codeK, ← ihx, ← ihy]
    unfold condK
    split <;> rfl
  | block id x ih =>
    intro β γ an a σ K J
    simp only [codeK, ih]
    congr 1
    funext ex a' σ'
    cases ex with
    | normal => rfl
    | exit i => simp only []; split <;> rfl
    | ret => rfl
  | loop x ih =>
    intro β γ an a σ K J
    simp only [codeK, loopWith, Option.bind_assoc]
  | exit id => intros; rfl
  | ret => intros; rfl
  | rangeFunc g ps x y ihx ihy =>
    intro β γ an a σ K J
    simp only [codeK]
    split
    · split
      · split
        · refine hroundsK (run := fun {β} xs σ K' => codeK P pl call lo x .nil (putAll ps.toList xs a) σ fun ex a1 σ1 => match ex with
              | .normal => codeK P pl call lo y an.left a1 σ1 fun ex _ σ2 => K' ex σ2
              | _ => none) (fun xs σ K J => ?_) J _ _ _
          rw [ihx]
          congr 1
          funext ex a1 σ1
          cases ex with
          | normal => exact ihy
          | exit i => rfl
          | ret => rfl
        · rfl
      · rfl
    · rfl
  | _ => intros; rfl

theorem loop_eq {β : Type} {pl : FPol} {call : CallF} {lo : Nat} {x : Code} {an : Ann} {a : Frame} {σ : Store} {K : Ex → Frame → Store → Option β} :
    codeK P pl call lo (.loop x) an a σ K = codeK P pl call lo x an.left (an.cut a) σ fun ex a' σ' => match ex with
      | .normal => codeK P pl call lo (.loop x) an a' σ' K
      | ex => K ex a' σ' := by
  have hcut : ∀ a σ, iterL (fun a σ => codeK P pl call lo x an.left (an.cut a) σ fun ex a σ => some (ex, a, σ)) (an.cut a) σ = iterL (fun a σ => codeK P pl call lo x an.left (an.cut a) σ fun ex a σ => some (ex, a, σ)) a σ := by
    intro a σ
    rw [iterL_eq, iterL_eq _ a]
    simp only [cut_cut]
  have h1 : codeK P pl call lo (.loop x) an a σ K = (iterL (fun a σ => codeK P pl call lo x an.left (an.cut a) σ fun ex a σ => some (ex, a, σ)) a σ).bind fun r => K r.1 r.2.1 r.2.2 := by
    simp only [codeK, loopWith, hcut]
  rw [h1, iterL_eq]
  have h2 : ∀ (J : St → Option β), (codeK P pl call lo x an.left (an.cut a) σ fun ex a σ => some (ex, a, σ)).bind J = codeK P pl call lo x an.left (an.cut a) σ fun ex a σ => J (ex, a, σ) := by
    intro J
    rw [codeK_bind]
    rfl
  refine Eq.trans ?_ (h2 fun r => match r.1 with
    | .normal => codeK P pl call lo (.loop x) an r.2.1 r.2.2 K
    | ex => K ex r.2.1 r.2.2)
  generalize (codeK P pl call lo x an.left (an.cut a) σ fun ex a σ => some (ex, a, σ)) = o
  cases o with
  | none => rfl
  | some r =>
    obtain ⟨ex, a', σ'⟩ := r
    cases ex with
    | normal => simp only [Option.bind_some, codeK, loopWith, hcut]
    | exit i => rfl
    | ret => rfl

end Go.D
end
/- More fuel answers the same. -/
section
set_option linter.unusedVariables false
set_option linter.unusedSimpArgs false
namespace Go.D

variable {P : Program}

def CallLe (c c' : CallF) : Prop := ∀ lo f args σ r, c lo f args σ = some r → c' lo f args σ = some r

theorem pureCall_le {c c' : CallF} (h : CallLe c c') {f : FuncId} {args : List DV} {σ : Store} {r : DV × Store} (hr : pureCall c f args σ = some r) : pureCall c' f args σ = some r := by
  unfold pureCall at hr ⊢
  split at hr
  · rename_i hc
    rw [if_pos hc]
    split at hr
    · rename_i v1 σ1 h1
      rw [h _ _ _ _ _ h1]; exact hr
    · exact absurd hr (by simp)
  · rename_i hc
    rw [if_neg hc]
    split at hr
    · rename_i v1 σ1 h1
      rw [h _ _ _ _ _ h1]; exact hr
    · exact absurd hr (by simp)

theorem op_le {c c' : CallF} (h : CallLe c c') {pl : FPol} {lo : Nat} {a : Frame} {o : Oper} {σ : Store} {r : DV × Store} (hr : op P pl c lo a o σ = some r) : op P pl c' lo a o σ = some r := by
  unfold op at hr
  cases ho : o.op with
  | call q =>
    simp only [ho] at hr
    cases hc : q.callee with
    | value g =>
      simp only [hc] at hr
      cases hg : ev a g with
      | fn f caps =>
        simp only [hg] at hr
        simp only [op, ho, hc, hg]
        by_cases hp : pl.isPlain o.dst = true
        · rw [if_pos hp] at hr ⊢
          exact h _ _ _ _ _ hr
        · rw [if_neg hp] at hr ⊢
          exact pureCall_le h hr
      | _ => simp [hg] at hr
    | builtin b => cases b <;> (unfold op; simp only [ho, hc]; simpa only [hc] using hr)
    | invoke r m => unfold op; simp only [ho, hc]; simpa only [hc] using hr
  | makeFunc f first caps => cases f <;> (unfold op; simpa only [ho] using hr)
  | makeMap t n => cases n <;> (unfold op; simpa only [ho] using hr)
  | _ => unfold op; simpa only [ho] using hr

theorem opsD_le {c c' : CallF} (h : CallLe c c') {pl : FPol} {all : Array Oper} {lows : Bool → Store → Nat} : ∀ {os : List Oper} {cs : List Bool} {a : Frame} {σ : Store} {r : Frame × Store}, opsD P pl c all lows os cs a σ = some r → opsD P pl c' all lows os cs a σ = some r
  | [], cs, a, σ, r, hr => hr
  | o :: os, cs, a, σ, r, hr => by
    simp only [opsD] at hr ⊢
    split at hr
    · rename_i hw
      split at hr
      · rename_i v σ1 h1
        simp only [hw, op_le h h1]
        exact opsD_le h hr
      · exact absurd hr (by simp)
    · rename_i hw
      try simp only [hw]
      exact opsD_le h hr
    · exact absurd hr (by simp)

theorem traceD_le {c c' : CallF} (h : CallLe c c') {pl : FPol} {all : Array Oper} {lows : Bool → Store → Nat} : ∀ {os : List Oper} {cs : List Bool} {a : Frame} {σ : Store} {r : Frame × Store}, opsD P pl c all lows os cs a σ = some r → traceD P pl c all lows os cs a σ = traceD P pl c' all lows os cs a σ
  | [], cs, a, σ, r, hr => rfl
  | o :: os, cs, a, σ, r, hr => by
    simp only [opsD] at hr
    simp only [traceD]
    split at hr
    · rename_i hw
      split at hr
      · rename_i v σ1 h1
        simp only [hw, h1, op_le h h1, traceD_le h hr]
      · exact absurd hr (by simp)
    · rename_i hw
      simp only [hw, traceD_le h hr]
    · exact absurd hr (by simp)

theorem iter_le {b b' : Frame → Store → Option St} (h : ∀ a σ r, b a σ = some r → b' a σ = some r) : ∀ (k k' : Nat) (a : Frame) (σ : Store) (r : St), k ≤ k' → iter b k a σ = some r → iter b' k' a σ = some r
  | 0, k', a, σ, r, hk, hr => absurd hr (by simp [iter])
  | k + 1, 0, a, σ, r, hk, hr => absurd hk (by omega)
  | k + 1, k' + 1, a, σ, r, hk, hr => by
    simp only [iter] at hr ⊢
    split at hr
    · rename_i a1 σ1 h1
      rw [h _ _ _ h1]
      exact iter_le h k k' a1 σ1 r (by omega) hr
    · rename_i hne
      have h2 := h _ _ _ hr
      rw [h2]
      obtain ⟨ex, a1, σ1⟩ := r
      cases ex with
      | normal => exact absurd hr (hne a1 σ1)
      | exit i => rfl
      | ret => rfl

theorem roundsD_le {b b' : List DV → Store → Option (Ex × Store)} (h : ∀ xs σ r, b xs σ = some r → b' xs σ = some r) : ∀ (xss : List (List DV)) (σ : Store) (r : Ex × Store), roundsD b xss σ = some r → roundsD b' xss σ = some r
  | [], σ, r, hr => hr
  | xs :: xss, σ, r, hr => by
    simp only [roundsD] at hr ⊢
    split at hr
    · rename_i σ1 h1
      rw [h _ _ _ h1]
      exact roundsD_le h xss σ1 r hr
    · rename_i hne
      have h2 := h _ _ _ hr
      rw [h2]
      obtain ⟨ex, σ1⟩ := r
      cases ex with
      | normal => exact absurd hr (hne σ1)
      | exit i => rfl
      | ret => rfl

theorem code_le {c c' : CallF} (h : CallLe c c') {pl : FPol} {k k' lo : Nat} (hk : k ≤ k') : ∀ (x : Code) (an : Ann) (a : Frame) (σ : Store) (r : St), code P pl c k lo x an a σ = some r → code P pl c' k' lo x an a σ = some r := by
  intro x
  induction x with
  | region id ops draw =>
    intro an a σ r hr
    simp only [code] at hr ⊢
    obtain ⟨⟨a1, σ1⟩, h1, rfl⟩ := Option.map_eq_some_iff.1 hr
    have : region P pl c' lo ops draw a σ = some (a1, σ1) := by
      unfold region at h1 ⊢
      cases draw with
      | true =>
        simp only [if_true] at h1 ⊢
        split at h1
        · rename_i hst
          have hst2 : (pl.rload.isEmpty || stableB P pl ops.toList (traceD P pl c' ops (lowOf lo) ops.toList (flags pl ops) a σ)) = true := by
            rw [← traceD_le h h1]; exact hst
          rw [if_pos hst2]
          exact opsD_le h h1
        · exact absurd h1 (by simp)
      | false => simp only [Bool.false_eq_true, if_false] at h1 ⊢; exact opsD_le h h1
    rw [this]; rfl
  | seq x y ihx ihy =>
    intro an a σ r hr
    simp only [code] at hr ⊢
    split at hr
    · rename_i a1 σ1 h1
      rw [ihx _ _ _ _ h1]
      exact ihy _ _ _ _ hr
    · rename_i hne
      have h2 := ihx _ _ _ _ hr
      rw [h2]
      obtain ⟨ex, a1, σ1⟩ := r
      cases ex with
      | normal => exact absurd hr (hne a1 σ1)
      | exit i => rfl
      | ret => rfl
  | cond q x y ihx ihy =>
    intro an a σ r hr
    simp only [code] at hr ⊢
    split at hr
    · rename_i hc; (try simp only [hc]); exact ihx _ _ _ _ hr
    · rename_i hc; (try simp only [hc]); exact ihy _ _ _ _ hr
    · exact absurd hr (by simp)
  | block id x ih =>
    intro an a σ r hr
    simp only [code] at hr ⊢
    split at hr
    · rename_i h1; rw [ih _ _ _ _ h1]; exact hr
    · rename_i h1; rw [ih _ _ _ _ h1]; exact hr
    · rename_i h1; rw [ih _ _ _ _ h1]; exact hr
    · exact absurd hr (by simp)
  | loop x ih =>
    intro an a σ r hr
    simp only [code] at hr ⊢
    exact iter_le (fun a σ r hr => ih _ _ _ _ hr) _ _ _ _ _ hk hr
  | rangeFunc g ps x y ihx ihy =>
    intro an a σ r hr
    simp only [code] at hr ⊢
    split at hr
    · rename_i f caps hg
      try simp only [hg]
      split at hr
      · rename_i xss hx
        try simp only [hx]
        split at hr
        · rename_i hc
          rw [if_pos hc]
          obtain ⟨⟨ex, σ1⟩, h1, rfl⟩ := Option.map_eq_some_iff.1 hr
          rw [roundsD_le (fun xs σ r hr => ?_) _ _ _ h1]
          · rfl
          · obtain ⟨ex, σ2⟩ := r
            obtain ⟨a1, σ1, a2, h2, h3⟩ := roundWith_some hr
            simp only [roundWith, ihx _ _ _ _ h2, ihy _ _ _ _ h3]
        · exact absurd hr (by simp)
      · exact absurd hr (by simp)
    · exact absurd hr (by simp)
  | _ =>
    intro an a σ r hr
    simp only [code] at hr ⊢
    exact hr

theorem callK_le {pol : FuncId → FPol} : ∀ k, CallLe (callK P pol k) (callK P pol (k + 1))
  | 0 => fun lo f args σ r h => absurd h (by simp [callK])
  | k + 1 => by
    intro lo f args σ r h
    rw [callK] at h ⊢
    split at h
    · rename_i fn hf
      split at h
      · rename_i c hname hb
        try simp only [hf, hname, hb]
        split at h
        · exact absurd h (by simp)
        rename_i hd
        rw [if_neg hd]
        split at h
        · rename_i a1 σ1 h1
          rw [code_le (callK_le k) (Nat.le_succ k) _ _ _ _ _ h1]
          exact h
        · rename_i a1 σ1 h1
          rw [code_le (callK_le k) (Nat.le_succ k) _ _ _ _ _ h1]
          exact h
        · exact absurd h (by simp)
      · exact absurd h (by simp)
    · exact absurd h (by simp)

theorem callL_at {pol : FuncId → FPol} {k lo : Nat} {f : FuncId} {args : List DV} {σ : Store} {r : DV × Store} (h : callK P pol k lo f args σ = some r) : callL P pol lo f args σ = some r := by
  refine lim_eq ⟨k, fun m hm => ?_⟩
  obtain ⟨d, rfl⟩ := Nat.exists_eq_add_of_le hm
  clear hm
  induction d with
  | zero => exact h
  | succ d ih => exact callK_le (k + d) _ _ _ _ _ ih

end Go.D
end
/- The continuation style once more, so that a kernel works out frames as it goes. -/
section
set_option linter.unusedVariables false
set_option linter.unusedSimpArgs false
namespace Go.D

section
variable {β : Type}
/-- Definitions that name 'high' are taller than guardK: a kernel opens them first. -/
def tall : Unit := (fun (_ : DV → Bool → Option (DV × Store) → Store → (DV → Store → Option Unit) → Option Unit) => ()) guardK
def high (x : β) : β := match tall with | () => x
theorem high_eq (x : β) : high x = x := rfl

def getK : List DV → Nat → (DV → β) → β
  | [], _, K => K .undef
  | x :: _, 0, K => high (K x)
  | _ :: xs, n + 1, K => getK xs n K
theorem getK_eq : ∀ (a : List DV) (n : Nat) (K : DV → β), getK a n K = K (a.getD n .undef)
  | [], n, K => by simp [getK]
  | x :: _, 0, K => rfl
  | _ :: xs, n + 1, K => by simpa [getK] using getK_eq xs n K
def evK (a : Frame) (x : Operand) (K : DV → β) : β := match x with
  | .tmp t => getK a t K
  | .const v => K (cst v)
  | .global _ => K .undef
  | .func f => K (.fn f [])
theorem evK_eq (a : Frame) (x : Operand) (K : DV → β) : evK a x K = K (ev a x) := by
  cases x <;> first | rfl | exact getK_eq _ _ _
def evsK (a : Frame) : List Operand → (List DV → β) → β
  | [], K => K []
  | x :: xs, K => evK a x fun v => evsK a xs fun vs => K (v :: vs)
theorem evsK_eq (a : Frame) : ∀ (xs : List Operand) (K : List DV → β), evsK a xs K = K (xs.map (ev a))
  | [], K => rfl
  | x :: xs, K => by simp only [evsK, evK_eq, evsK_eq a xs, List.map_cons]
def partsK (a : Frame) : List (Nat × Operand) → (List (Nat × DV) → β) → β
  | [], K => K []
  | q :: xs, K => evK a q.2 fun v => partsK a xs fun vs => K ((q.1, v) :: vs)
theorem partsK_eq (a : Frame) : ∀ (xs : List (Nat × Operand)) (K : List (Nat × DV) → β), partsK a xs K = K (xs.map fun q => (q.1, ev a q.2))
  | [], K => rfl
  | q :: xs, K => by simp only [partsK, evK_eq, partsK_eq a xs, List.map_cons]
def optK (a : Frame) (x : Option Operand) (K : Option DV → β) : β := match x with
  | none => K none
  | some x => evK a x fun v => K (some v)
theorem optK_eq (a : Frame) (x : Option Operand) (K : Option DV → β) : optK a x K = K (x.map (ev a)) := by
  cases x <;> simp [optK, evK_eq]
def setK : List DV → Nat → DV → (List DV → β) → β
  | [], _, _, K => K []
  | x :: xs, 0, v, K => high (K (v :: xs))
  | x :: xs, n + 1, v, K => setK xs n v fun xs' => K (x :: xs')
theorem setK_eq : ∀ (a : List DV) (n : Nat) (v : DV) (K : List DV → β), setK a n v K = K (a.set n v)
  | [], n, v, K => by simp [setK]
  | x :: xs, 0, v, K => by simp [setK, high_eq]
  | x :: xs, n + 1, v, K => by simp [setK, setK_eq xs n v]
def putK (a : Frame) (d : Option Tmp) (v : DV) (K : Frame → β) : β := match d with
  | some d => setK a d v K
  | none => K a
theorem putK_eq (a : Frame) (d : Option Tmp) (v : DV) (K : Frame → β) : putK a d v K = K (put a d v) := by
  cases d <;> first | rfl | exact setK_eq _ _ _ _
def maskK : List Bool → Frame → (Frame → β) → β
  | _, [], K => K []
  | [], v :: a, K => maskK [] a fun r => K (.undef :: r)
  | true :: bs, v :: a, K => maskK bs a fun r => K (v :: r)
  | false :: bs, v :: a, K => maskK bs a fun r => K (.undef :: r)
theorem maskK_eq : ∀ (m : List Bool) (a : Frame) (K : Frame → β), maskK m a K = K (mask m a)
  | m, [], K => by cases m <;> simp [maskK, mask]
  | [], v :: a, K => by simp [maskK, mask, maskK_eq [] a]
  | b :: bs, v :: a, K => by cases b <;> simp [maskK, mask, maskK_eq bs a]
def cutK (an : Ann) (a : Frame) (K : Frame → β) : β := match an with
  | .keep m _ => maskK m a K
  | _ => K a
theorem cutK_eq (an : Ann) (a : Frame) (K : Frame → β) : cutK an a K = K (an.cut a) := by
  cases an <;> first | rfl | exact maskK_eq _ _ _

def opF (P : Program) (pl : FPol) (call : CallF) (lo : Nat) (a : Frame) (o : Oper) (σ : Store) (K : DV → Store → Option β) : Option β :=
  match o.op with
  | .move x | .assign x => evK a x fun x => K x σ
  | .pick c x y => evK a c fun c => evK a x fun x => evK a y fun y => (pickV c x y).bind fun v => K v σ
  | .alloc t => (zeroOf P t).bind fun z => K (.ptr σ.length 0) (σ ++ [.mix z])
  | .box _ x => evK a x fun x => (boxV x).bind fun cs => K (.ptr σ.length 0) (σ ++ [.mix cs])
  | .build t ps => partsK a ps.toList fun ps => (build P t ps).bind fun v => K v σ
  | .buildSlice t n ps => partsK a ps.toList fun ps => (buildSlice P (pl.asRow o.dst) t n ps σ).bind fun r => K r.1 r.2
  | .load t x => evK a x fun x => (loadP P pl o.dst t x σ).bind fun v => K v σ
  | .store t x y => evK a x fun x => evK a y fun y => (store P lo t x y σ).bind fun σ' => K .undef σ'
  | .nilCheck x => evK a x fun x => (nilCheckV x).bind fun v => K v σ
  | .binOp op t x y _ => evK a x fun x => evK a y fun y => (binOp P op t x y).bind fun v => K v σ
  | .unOp op _ x => evK a x fun x => (unOp op x).bind fun v => K v σ
  | .convert s d x => evK a x fun x => (convert P s d x).bind fun v => K v σ
  | .makeFunc (.func f) first caps => if first.size = 0 then evsK a caps.toList fun cs => K (.fn f cs) σ else none
  | .makeMap _ none => K (.map σ.length) (σ ++ [.map []])
  | .makeSlice t l c => evK a l fun l => evK a c fun c => (makeSlice P (pl.isMixed o.dst) t l c σ).bind fun r => K r.1 r.2
  | .slice t x l h m => evK a x fun x => optK a l fun l => optK a h fun h => optK a m fun m => (sliceOp P t x l h m).bind fun v => K v σ
  | .fieldAddr t x i => evK a x fun x => (fieldAddr P t x i).bind fun v => K v σ
  | .field t x i => evK a x fun x => (field P t x i).bind fun v => K v σ
  | .indexAddr t x i => evK a x fun x => evK a i fun i => (indexAddr P t x i).bind fun v => K v σ
  | .index t x i => evK a x fun x => evK a i fun i => (index P t x i).bind fun v => K v σ
  | .lookup t x i ok => evK a x fun x => evK a i fun i => (lookup P t x i ok σ).bind fun v => K v σ
  | .mapUpdate t m k v => evK a m fun m => evK a k fun k => evK a v fun v => (mapUpdate P lo t m k v σ).bind fun σ' => K .undef σ'
  | .extract x i => evK a x fun x => (extractV x i).bind fun v => K v σ
  | .call c =>
    match c.callee with
    | .builtin .len => if c.args.size = 1 ∧ c.argTypes.size = 1 then evK a (c.args.getD 0 (.const undef)) fun x => (len P (c.argTypes.getD 0 0) x σ).bind fun v => K v σ else none
    | .builtin .append => if c.args.size = 2 ∧ c.argTypes.size = 2 then evK a (c.args.getD 0 (.const undef)) fun x => evK a (c.args.getD 1 (.const undef)) fun y => (append P lo (pl.isMixed o.dst) (c.argTypes.getD 0 0) (c.argTypes.getD 1 0) x y σ).bind fun r => K r.1 r.2 else none
    | .builtin .max => evsK a c.args.toList fun xs => (maxMin true xs).bind fun v => K v σ
    | .builtin .min => evsK a c.args.toList fun xs => (maxMin false xs).bind fun v => K v σ
    | .builtin _ => none
    | .value g => evK a g fun g => evsK a c.args.toList fun xs => if pl.isPlain o.dst then (plainFn call lo g xs σ).bind fun r => K r.1 r.2
      else (pureFn call g xs σ).bind fun v => K v σ
    | .invoke _ _ => none
  | _ => none

theorem opF_eq (P : Program) (pl : FPol) (call : CallF) (lo : Nat) (a : Frame) (o : Oper) (σ : Store) (K : DV → Store → Option β) : opF P pl call lo a o σ K = opK P pl call lo a o σ K := by
  cases ho : o.op
  case makeFunc f first caps => first | (simp only [opF, opK, ho, evK_eq, evsK_eq, partsK_eq, optK_eq]; done) | (cases f <;> simp only [opF, opK, ho, evsK_eq])
  case makeMap t n => first | (simp only [opF, opK, ho, evK_eq, evsK_eq, partsK_eq, optK_eq]; done) | (cases n <;> simp only [opF, opK, ho])
  case call c =>
    first
    | (simp only [opF, opK, ho, evK_eq, evsK_eq, partsK_eq, optK_eq]; done)
    | (simp only [opF, opK, ho]
       cases hc : c.callee with
       | builtin b => cases b <;> simp only [evK_eq, evsK_eq]
       | value g => simp only [evK_eq, evsK_eq]
       | invoke r m => rfl)
  all_goals simp only [opF, opK, ho, evK_eq, evsK_eq, partsK_eq, optK_eq]

def guardF (all : Array Oper) (a : Frame) (j : Nat) (K : DV → β) : β := match (all.toList[j]?).bind (·.dst) with
  | some t => getK a t K
  | none => K .undef
theorem guardF_eq (all : Array Oper) (a : Frame) (j : Nat) (K : DV → β) : guardF all a j K = K (guardVal all a j) := by
  unfold guardF guardVal
  rw [Array.getElem?_toList]
  cases (all[j]?).bind (·.dst) <;> first | rfl | exact getK_eq _ _ _

/-- guardK is handed in, so that no kernel opens it while it compares. -/
abbrev GuardT := (β : Type) → DV → Bool → Option (DV × Store) → Store → (DV → Store → Option β) → Option β
def guardT : GuardT := fun _ => guardK

def opsF (G : GuardT) (P : Program) (pl : FPol) (call : CallF) (all : Array Oper) (lows : Bool → Store → Nat) : List Oper → List Bool → Frame → Store → (Frame → Store → Option β) → Option β
  | [], _, a, σ, K => K a σ
  | o :: os, cs, a, σ, K => match o.guard with
    | none => opF P pl call (lows (cs.headD true) σ) a o σ fun v σ' => putK a o.dst v fun a => opsF G P pl call all lows os cs.tail a σ' K
    | some (j, want) => guardF all a j fun g => G β g want (opF P pl call (lows (cs.headD true) σ) a o σ fun v σ' => some (v, σ')) σ fun v σ' => putK a o.dst v fun a => opsF G P pl call all lows os cs.tail a σ' K

theorem opsF_eq (P : Program) (pl : FPol) (call : CallF) (all : Array Oper) (lows : Bool → Store → Nat) : ∀ (os : List Oper) (cs : List Bool) (a : Frame) (σ : Store) (K : Frame → Store → Option β),
    opsF guardT P pl call all lows os cs a σ K = opsK P pl call all lows os cs a σ K
  | [], cs, a, σ, K => rfl
  | o :: os, cs, a, σ, K => by
    cases hg : o.guard with
    | none => simp only [opsF, opsK, hg, opF_eq, putK_eq, opsF_eq P pl call all lows os]
    | some g =>
      simp only [opsF, opsK, hg, opF_eq, putK_eq, guardF_eq, opsF_eq P pl call all lows os]
      rfl
end

section
variable {β : Type}
def opsFT (G : GuardT) (P : Program) (pl : FPol) (call : CallF) (all : Array Oper) (lows : Bool → Store → Nat) : List Oper → List Bool → Frame → Store → List (Frame × Store) → (Frame → Store → List (Frame × Store) → Option β) → Option β
  | [], _, a, σ, tr, K => K a σ (tr ++ [(a, σ)])
  | o :: os, cs, a, σ, tr, K => match o.guard with
    | none => opF P pl call (lows (cs.headD true) σ) a o σ fun v σ' => putK a o.dst v fun a2 => opsFT G P pl call all lows os cs.tail a2 σ' (tr ++ [(a, σ)]) K
    | some (j, want) => guardF all a j fun g => G β g want (opF P pl call (lows (cs.headD true) σ) a o σ fun v σ' => some (v, σ')) σ fun v σ' => putK a o.dst v fun a2 => opsFT G P pl call all lows os cs.tail a2 σ' (tr ++ [(a, σ)]) K

theorem opsFT_eq (P : Program) (pl : FPol) (call : CallF) (all : Array Oper) (lows : Bool → Store → Nat) : ∀ (os : List Oper) (cs : List Bool) (a : Frame) (σ : Store) (tr : List (Frame × Store)) (K : Frame → Store → List (Frame × Store) → Option β),
    opsFT guardT P pl call all lows os cs a σ tr K = opsKT P pl call all lows os cs a σ tr K
  | [], cs, a, σ, tr, K => rfl
  | o :: os, cs, a, σ, tr, K => by
    cases hg : o.guard with
    | none => simp only [opsFT, opsKT, hg, opF_eq, putK_eq, opsFT_eq P pl call all lows os]
    | some g =>
      simp only [opsFT, opsKT, hg, opF_eq, putK_eq, guardF_eq, opsFT_eq P pl call all lows os]
      rfl
end

noncomputable def codeF (G : GuardT) (P : Program) (pl : FPol) (call : CallF) (lo : Nat) : Code → {β : Type} → Ann → Frame → Store → (Ex → Frame → Store → Option β) → Option β
  | .skip, _, _, a, σ, K => K .normal a σ
  | .region _ ops draw, _, _, a, σ, K => if draw then (if pl.rload.isEmpty then opsF G P pl call ops (lowOf lo) ops.toList (flags pl ops) a σ (K .normal) else opsFT G P pl call ops (lowOf lo) ops.toList (flags pl ops) a σ [] fun a' σ' tr => bif stableB P pl ops.toList tr then K .normal a' σ' else none) else opsF G P pl call ops (fun _ _ => lo) ops.toList [] a σ (K .normal)
  | .seq x y, _, an, a, σ, K => codeF G P pl call lo x an.left a σ fun ex a' σ' => match ex with
    | .normal => codeF G P pl call lo y an.right a' σ' K
    | ex => K ex a' σ'
  | .cond c x y, _, an, a, σ, K => evK a c fun c => condK c (codeF G P pl call lo x an.left a σ K) (codeF G P pl call lo y an.right a σ K)
  | .block id x, _, an, a, σ, K => codeF G P pl call lo x an.left a σ fun ex a' σ' => match ex with
    | .normal => cutK an a' fun a2 => K .normal a2 σ'
    | .exit i => if i = id then cutK an a' fun a2 => K .normal a2 σ' else K (.exit i) a' σ'
    | .ret => K .ret a' σ'
  | .loop x, _, an, a, σ, K => cutK an a fun a2 => loopWith (fun a σ => codeF G P pl call lo x an.left (an.cut a) σ fun ex a σ => some (ex, a, σ)) a2 σ K
  | .exit id, _, _, a, σ, K => K (.exit id) a σ
  | .ret, _, _, a, σ, K => K .ret a σ
  | .rangeFunc g ps x y, _, an, a, σ, K => evK a g fun g => match g with
    | .fn f caps => match (pl.seq f).bind fun kind => seqList kind caps with
      | some xss =>
        if xss.all (·.length == ps.size) && !hasRange x && !hasRange y then
          roundsK (fun xs σ K' => codeF G P pl call lo x .nil (putAll ps.toList xs a) σ fun ex a1 σ1 => match ex with
            | .normal => codeF G P pl call lo y an.left a1 σ1 fun ex _ σ2 => K' ex σ2
            | _ => none) xss σ fun ex σ' => K ex a σ'
        else none
      | none => none
    | _ => none
  | _, _, _, _, _, _ => none

theorem codeF_eq {P : Program} {pl : FPol} {call : CallF} {lo : Nat} : ∀ (c : Code) {β : Type} {an : Ann} {a : Frame} {σ : Store} {K : Ex → Frame → Store → Option β}, codeF guardT P pl call lo c an a σ K = codeK P pl call lo c an a σ K := by
  intro c
  induction c with
  | region id ops draw => intros; simp only [codeF, codeK, opsF_eq, opsFT_eq]
  | seq x y ihx ihy =>
    intro β an a σ K
    simp only [codeF, codeK, ihx]
    congr 1
    funext ex a' σ'
    cases ex with
    | normal => exact ihy
    | exit i => rfl
    | ret => rfl
  | cond c x y ihx ihy => intros; simp only [codeF, codeK, evK_eq, ihx, ihy]
  | block id x ih =>
    intro β an a σ K
    first
    | (simp only [codeF, codeK, ih, cutK_eq]; done)
    | (simp only [codeF, codeK, ih, cutK_eq]; congr 1)
  | loop x ih => intros; simp only [codeF, codeK, ih, cutK_eq]
  | rangeFunc g ps x y ihx ihy =>
    intro β an a σ K
    first
    | (simp only [codeF, codeK, evK_eq, ihx, ihy]; done)
    | (simp only [codeF, codeK, evK_eq, ihx, ihy]; cases ev a g <;> try rfl)
  | _ => intros; rfl

theorem loopF_cut {G : GuardT} {P : Program} {pl : FPol} {call : CallF} {lo : Nat} {x : Code} {an : Ann} (a : Frame) (σ : Store) :
    iterL (fun a σ => codeF G P pl call lo x an.left (an.cut a) σ fun ex a σ => some (ex, a, σ)) (an.cut a) σ = iterL (fun a σ => codeF G P pl call lo x an.left (an.cut a) σ fun ex a σ => some (ex, a, σ)) a σ := by
  rw [iterL_eq, iterL_eq _ a]
  simp only [cut_cut]

/-- What loops need of the guards: they go along with what stands behind. -/
def GuardOk (G : GuardT) : Prop := G = guardT

theorem loopF_eq {P : Program} {β : Type} {pl : FPol} {call : CallF} {lo : Nat} {x : Code} {an : Ann} {a : Frame} {σ : Store} {K : Ex → Frame → Store → Option β} (G : GuardT) (hG : GuardOk G) :
    codeF G P pl call lo (.loop x) an a σ K = cutK an a fun a => codeF G P pl call lo x an.left a σ fun ex a' σ' => match ex with
      | .normal => codeF G P pl call lo (.loop x) an a' σ' K
      | ex => K ex a' σ' := by
  cases hG
  simp only [codeF_eq, cutK_eq]
  exact loop_eq

end Go.D
end
/- What the generated texts need: contexts as functions, results in continuation style. -/
section
set_option linter.unusedVariables false
set_option linter.unusedSimpArgs false
namespace Go.D
/-- Short names for printed texts. -/
abbrev ud : DV := .undef
abbrev tt : Bool := true
abbrev ff : Bool := false

def cellV (P : Program) (t : TypeId) (x : DV) (σ : Store) : Option DV := match x with
  | .ptr r off => load P t (.ptr r off) σ
  | _ => none

def resK {β : Type} (P : Program) (a : Frame) (σ : Store) : List ResultVar → (List DV → Option β) → Option β
  | [], K => K []
  | .tmp t :: rs, K => resK P a σ rs fun vs => K (a.getD t .undef :: vs)
  | .cell x t :: rs, K => (cellV P t (a.getD x .undef) σ).bind fun v => resK P a σ rs fun vs => K (v :: vs)

theorem resK_eq {β : Type} (P : Program) (a : Frame) (σ : Store) : ∀ (rs : List ResultVar) (K : List DV → Option β), resK P a σ rs K = (resultsOf P a σ rs).bind K
  | [], K => rfl
  | .tmp t :: rs, K => by
    simp only [resK, resultsOf, resultOf, resK_eq P a σ rs]
    cases resultsOf P a σ rs <;> rfl
  | .cell x t :: rs, K => by
    simp only [resK, resultsOf, resultOf, resK_eq P a σ rs]
    unfold cellV
    generalize a.getD x .undef = g
    cases g <;> try rfl
    rename_i r off
    simp only []
    cases load P t (.ptr r off) σ <;> first | rfl | (cases resultsOf P a σ rs <;> rfl)

def finR (P : Program) (rs : List ResultVar) : Ex → Frame → Store → Option (DV × Store)
  | .normal, a, σ => resK P a σ rs fun vs => some (wrap vs, σ)
  | .ret, a, σ => resK P a σ rs fun vs => some (wrap vs, σ)
  | _, _, _ => none

theorem finR_eq (P : Program) (rs : List ResultVar) : finR P rs = finK P rs := by
  funext ex a σ
  cases ex <;> first | rfl | exact resK_eq P a σ rs _

def bodyOf (f : Func) : Code := f.body.getD .skip

theorem callL_run {P : Program} {pol : FuncId → FPol} {f lo : Nat} {fn : Func} {args : List DV} {σ : Store} {r : DV × Store} (hf : P.funcs[f]? = some fn) (hname : (fn.name == "runtime.NumGoroutine") = false) (hb : fn.body.isSome = true) (hd : drawsOk (bodyOf fn) = true)
    (h : codeF guardT P (pol f) (callL P pol) lo (bodyOf fn) (pol f).ann (args ++ List.replicate (fn.ntmps - args.length) .undef) σ (finR P fn.results.toList) = some r) : callL P pol lo f args σ = some r := by
  obtain ⟨c, hc⟩ := Option.isSome_iff_exists.1 hb
  have e : bodyOf fn = c := by unfold bodyOf; rw [hc]; rfl
  rw [e] at hd h
  rw [finR_eq, codeF_eq] at h
  exact callL_of hf hname hc hd h

def Code.fstC : Code → Code
  | .seq x _ => x | .cond _ x _ => x | .block _ x => x | .loop x => x | .rangeFunc _ _ x _ => x | c => c
def Code.sndC : Code → Code
  | .seq _ y => y | .cond _ _ y => y | .rangeFunc _ _ _ y => y | c => c

def splitC {β : Type} (N : Frame → Store → Option β) (E : Ex → Frame → Store → Option β) : Ex → Frame → Store → Option β := fun ex a σ => match ex with
  | .normal => N a σ
  | ex => E ex a σ
theorem splitC_eta {β : Type} (K : Ex → Frame → Store → Option β) : splitC (K .normal) K = K := by
  funext ex a σ
  cases ex <;> rfl

section
variable {β : Type} (G : GuardT) (P : Program) (pl : FPol) (call : CallF) (lo : Nat)
noncomputable def seqC (y : Code) (an : Ann) (K : Ex → Frame → Store → Option β) : Ex → Frame → Store → Option β := fun ex a σ => match ex with
  | .normal => codeF G P pl call lo y an a σ K
  | ex => K ex a σ
def blockC (id : Nat) (an : Ann) (K : Ex → Frame → Store → Option β) : Ex → Frame → Store → Option β := fun ex a σ => match ex with
  | .normal => cutK an a fun a2 => K .normal a2 σ
  | .exit i => if i = id then cutK an a fun a2 => K .normal a2 σ else K (.exit i) a σ
  | .ret => K .ret a σ
noncomputable def loopC (x : Code) (an : Ann) (K : Ex → Frame → Store → Option β) : Ex → Frame → Store → Option β := fun ex a σ => match ex with
  | .normal => codeF G P pl call lo (.loop x) an a σ K
  | ex => K ex a σ
def endC (K : Ex → Store → Option β) : Ex → Frame → Store → Option β := fun ex _ σ => K ex σ
noncomputable def midC (y : Code) (an : Ann) (K : Ex → Store → Option β) : Ex → Frame → Store → Option β := fun ex a σ => match ex with
  | .normal => codeF G P pl call lo y an a σ fun ex _ σ => K ex σ
  | _ => none
noncomputable def roundC (x y : Code) (an : Ann) (ps : List Tmp) (a : Frame) (xs : List DV) (σ : Store) (K : Ex → Store → Option β) : Option β :=
  codeF G P pl call lo x .nil (putAll ps xs a) σ fun ex a1 σ1 => match ex with
    | .normal => codeF G P pl call lo y an a1 σ1 fun ex _ σ2 => K ex σ2
    | _ => none
noncomputable def rangeK (g : DV) (n : Nat) (ok1 ok2 : Bool) (run : List DV → Store → (Ex → Store → Option β) → Option β) (σ : Store) (K : Ex → Store → Option β) : Option β := match g with
  | .fn f caps => match (pl.seq f).bind fun kind => seqList kind caps with
    | some xss => if (xss.all (·.length == n) && ok1) && ok2 then roundsK run xss σ K else none
    | none => none
  | _ => none
end
end Go.D
end
/- Policies of the functions: what is kept of temporaries, which calls are plain, which slices are rows. -/
section
namespace Go.D
noncomputable abbrev PP : Program := Go.Proofs.Try.prog
def pol3 : FPol := { ann := .nil }
def pol4 : FPol := { ann := (.seq .nil (.seq .nil (.seq .nil (.seq .nil (.seq .nil (.seq .nil (.seq .nil (.seq .nil (.seq (.seq .nil (.keep [ff, tt, ff, tt, ff, tt, ff, tt, tt, tt, tt] (.keep [ff, tt, ff, tt, ff, tt, ff, tt, tt, tt, tt, tt] (.seq .nil (.seq (.keep [ff, tt, ff, tt, ff, tt, ff, tt, tt, tt, tt, tt] .nil) .nil))))) (.seq .nil (.seq .nil (.seq (.seq .nil (.keep [ff, tt, ff, tt, ff, tt, ff, tt, tt] (.keep [ff, tt, ff, tt, ff, tt, ff, tt, tt, ff, ff, ff, tt] (.seq .nil (.seq (.keep [ff, tt, ff, tt, ff, tt, ff, tt, tt, ff, ff, ff, tt] .nil) .nil))))) .nil)))))))))))) }
def pol5 : FPol := { ann := .nil }
def pol6 : FPol := { ann := .nil }
def pol7 : FPol := { ann := .nil }
def pol8 : FPol := { ann := .nil }
def pol9 : FPol := { ann := (.seq .nil (.seq .nil (.seq .nil (.seq .nil (.seq .nil (.seq .nil (.seq .nil (.seq .nil (.seq .nil (.seq (.seq .nil (.keep [] (.keep [ff, ff, ff, tt, ff, tt, ff, ff, ff, ff, ff, tt] (.seq .nil (.seq (.keep [ff, ff, ff, tt, ff, tt, ff, ff, ff, ff, ff, tt] (.seq .nil (.keep [ff, ff, ff, tt, ff, tt, ff, ff, ff, ff, ff, tt] (.keep [ff, ff, ff, tt, ff, tt, ff, ff, ff, ff, ff, tt, tt] (.seq .nil (.seq (.keep [ff, ff, ff, tt, ff, tt, ff, ff, ff, ff, ff, tt, tt] .nil) .nil)))))) .nil))))) .nil)))))))))) }
def pol10 : FPol := { ann := .nil }
def pol11 : FPol := { ann := .nil }
def pol12 : FPol := { ann := (.seq .nil (.seq .nil (.seq .nil (.seq .nil (.seq .nil (.seq (.seq .nil (.keep [ff, ff, tt, tt, ff, ff, ff, ff, tt, tt] (.seq (.keep [] (.seq .nil (.seq .nil (.keep [] (.keep [ff, ff, tt, tt, ff, ff, ff, ff, tt, tt, tt, tt, ff, ff, ff, ff, ff, ff, ff, ff, ff, ff, ff, ff, ff, ff, ff, ff, ff, ff, ff, ff, ff, ff, ff, ff, ff, ff, ff, ff, ff, ff, ff, ff, ff, ff, ff, ff, ff, ff, ff, ff, ff, tt, tt] (.seq .nil (.seq .nil (.seq (.keep [ff, ff, tt, tt, ff, ff, ff, ff, tt, tt, tt, tt, ff, ff, ff, ff, ff, ff, ff, ff, ff, ff, ff, ff, ff, ff, ff, ff, ff, ff, ff, ff, ff, ff, ff, ff, ff, ff, ff, ff, ff, ff, ff, ff, ff, ff, ff, ff, ff, ff, ff, ff, ff, tt, tt] (.seq .nil (.seq .nil (.seq (.seq .nil (.keep [ff, ff, tt, tt, ff, ff, ff, ff, tt, tt, tt, tt, tt, tt, ff, ff, ff, ff, ff, ff, ff, ff, ff, ff, ff, ff, ff, ff, ff, ff, ff, ff, ff, ff, ff, ff, ff, ff, ff, ff, ff, ff, ff, ff, ff, ff, ff, ff, ff, ff, ff, ff, ff, tt, tt] (.keep [ff, ff, tt, tt, ff, ff, ff, ff, tt, tt, tt, tt, tt, tt, tt, ff, ff, ff, ff, ff, ff, ff, ff, ff, ff, ff, ff, ff, ff, ff, ff, ff, ff, ff, ff, ff, ff, ff, ff, ff, ff, ff, ff, ff, ff, ff, ff, ff, ff, ff, ff, ff, ff, tt, tt] (.seq .nil (.seq (.keep [ff, ff, tt, tt, ff, ff, ff, ff, tt, tt, tt, tt, tt, tt, tt, ff, ff, ff, ff, ff, ff, ff, ff, ff, ff, ff, ff, ff, ff, ff, ff, ff, ff, ff, ff, ff, ff, ff, ff, ff, ff, ff, ff, ff, ff, ff, ff, ff, ff, ff, ff, ff, ff, tt, tt] .nil) .nil))))) .nil)))) .nil)))))))) .nil))) (.seq .nil (.seq (.seq .nil (.keep [ff, ff, ff, ff, ff, ff, ff, ff, ff, ff, ff, ff, ff, ff, ff, tt] (.keep [ff, ff, tt, ff, ff, ff, ff, ff, tt, tt, ff, ff, ff, ff, ff, tt, ff, ff, ff, ff, ff, ff, ff, ff, ff, ff, ff, ff, ff, ff, ff, ff, ff, ff, ff, ff, ff, ff, ff, ff, ff, ff, ff, ff, ff, ff, ff, ff, ff, ff, ff, ff, ff, ff, ff, ff, ff, ff, ff, ff, ff, ff, ff, ff, ff, ff, ff, ff, ff, ff, ff, ff, ff, ff, ff, ff, ff, ff, ff, ff, ff, ff, ff, ff, ff, ff, ff, ff, ff, ff, ff, ff, ff, ff, ff, ff, ff, ff, ff, ff, ff, ff, ff, ff, ff, ff, ff, ff, ff, tt, tt] (.seq .nil (.seq .nil (.seq (.keep [ff, ff, tt, ff, ff, ff, ff, ff, tt, tt, ff, ff, ff, ff, ff, tt, ff, ff, ff, ff, ff, ff, ff, ff, ff, ff, ff, ff, ff, ff, ff, ff, ff, ff, ff, ff, ff, ff, ff, ff, ff, ff, ff, ff, ff, ff, ff, ff, ff, ff, ff, ff, ff, ff, ff, ff, ff, ff, ff, ff, ff, ff, ff, ff, ff, ff, ff, ff, ff, ff, ff, ff, ff, ff, ff, ff, ff, ff, ff, ff, ff, ff, ff, ff, ff, ff, ff, ff, ff, ff, ff, ff, ff, ff, ff, ff, ff, ff, ff, ff, ff, ff, ff, ff, ff, ff, ff, ff, ff, tt, tt] (.seq .nil (.seq .nil (.seq (.seq .nil (.keep [ff, ff, tt, ff, ff, ff, ff, ff, tt, tt, ff, ff, ff, ff, ff, tt, ff, tt, ff, ff, ff, ff, ff, ff, ff, ff, ff, ff, ff, ff, ff, ff, ff, ff, ff, ff, ff, ff, ff, ff, ff, ff, ff, ff, ff, ff, ff, ff, ff, ff, ff, ff, ff, ff, ff, ff, ff, ff, ff, ff, ff, ff, ff, ff, ff, ff, ff, ff, ff, ff, ff, ff, ff, ff, ff, ff, ff, ff, ff, ff, ff, ff, ff, ff, ff, ff, ff, ff, ff, ff, ff, ff, ff, ff, ff, ff, ff, ff, ff, ff, ff, ff, ff, ff, ff, ff, ff, ff, ff, tt, tt] (.keep [ff, ff, tt, ff, ff, ff, ff, ff, tt, tt, ff, ff, ff, ff, ff, tt, tt, tt, ff, ff, ff, ff, ff, ff, ff, ff, ff, ff, ff, ff, ff, ff, ff, ff, ff, ff, ff, ff, ff, ff, ff, ff, ff, ff, ff, ff, ff, ff, ff, ff, ff, ff, ff, ff, ff, ff, ff, ff, ff, ff, ff, ff, ff, ff, ff, ff, ff, ff, ff, ff, ff, ff, ff, ff, ff, ff, ff, ff, ff, ff, ff, ff, ff, ff, ff, ff, ff, ff, ff, ff, ff, ff, ff, ff, ff, ff, ff, ff, ff, ff, ff, ff, ff, ff, ff, ff, ff, ff, ff, tt, tt, ff, ff, ff, ff, ff, tt, tt, tt] (.seq .nil (.seq .nil (.seq (.keep [ff, ff, tt, ff, ff, ff, ff, ff, tt, tt, ff, ff, ff, ff, ff, tt, tt, tt, ff, ff, ff, ff, ff, ff, ff, ff, ff, ff, ff, ff, ff, ff, ff, ff, ff, ff, ff, ff, ff, ff, ff, ff, ff, ff, ff, ff, ff, ff, ff, ff, ff, ff, ff, ff, ff, ff, ff, ff, ff, ff, ff, ff, ff, ff, ff, ff, ff, ff, ff, ff, ff, ff, ff, ff, ff, ff, ff, ff, ff, ff, ff, ff, ff, ff, ff, ff, ff, ff, ff, ff, ff, ff, ff, ff, ff, ff, ff, ff, ff, ff, ff, ff, ff, ff, ff, ff, ff, ff, ff, tt, tt, ff, ff, ff, ff, ff, tt, tt, tt] .nil) .nil)))))) .nil)))) .nil)))))) .nil)))))))), mixed := [37], seq := fun f => if f = 80 then some (.backward false 1) else none }
def pol13 : FPol := { ann := .nil }
def pol14 : FPol := { ann := .nil }
def pol15 : FPol := { ann := (.seq .nil (.seq .nil (.seq .nil (.seq .nil (.seq (.seq .nil (.keep [ff, tt] (.keep [ff, tt, ff, tt] (.seq .nil (.seq (.keep [ff, tt, ff, tt] .nil) .nil))))) (.seq (.seq .nil (.keep [] (.keep [ff, tt, ff, ff, tt] (.seq .nil (.seq (.keep [ff, tt, ff, ff, tt] .nil) .nil))))) .nil)))))) }
def pol16 : FPol := { ann := (.seq .nil (.seq .nil (.seq .nil (.seq (.seq .nil (.keep [ff, tt, tt] (.keep [ff, tt, tt, ff, ff, tt] (.seq .nil (.seq (.keep [ff, tt, tt, ff, ff, tt] .nil) .nil))))) (.seq .nil (.seq (.seq .nil (.keep [] (.keep [ff, tt, tt, ff, ff, ff, tt] (.seq .nil (.seq (.keep [ff, tt, tt, ff, ff, ff, tt] .nil) .nil))))) .nil)))))) }
def pol17 : FPol := { ann := (.seq .nil (.seq .nil (.seq (.seq .nil (.keep [ff, tt, tt, ff, ff, ff, tt] (.keep [ff, tt, tt, ff, ff, ff, tt, tt] (.seq .nil (.seq (.keep [ff, tt, tt, ff, ff, ff, tt, tt] (.seq .nil (.seq .nil (.keep [ff, tt, tt, ff, ff, ff, tt, tt] (.keep [ff, tt, tt, ff, ff, ff, tt, tt, tt] (.seq .nil (.seq (.keep [ff, tt, tt, ff, ff, ff, tt, tt, tt] (.seq .nil (.seq (.seq .nil (.keep [ff, tt, tt, ff, ff, ff, tt, tt, tt, tt] (.keep [ff, tt, tt, ff, ff, ff, tt, tt, tt, tt, tt] (.seq .nil (.seq (.keep [ff, tt, tt, ff, ff, ff, tt, tt, tt, tt, tt] .nil) .nil))))) .nil))) .nil))))))) .nil))))) (.seq .nil (.seq (.seq .nil (.keep [ff, ff, ff, ff, ff, ff, ff, ff, ff, ff, ff, tt] (.keep [ff, tt, tt, ff, ff, ff, tt, ff, ff, ff, ff, tt, tt] (.seq .nil (.seq (.keep [ff, tt, tt, ff, ff, ff, tt, ff, ff, ff, ff, tt, tt] (.seq .nil (.seq (.seq .nil (.keep [ff, tt, tt, ff, ff, ff, tt, ff, ff, ff, ff, tt, tt, tt] (.keep [ff, tt, tt, ff, ff, ff, tt, ff, ff, ff, ff, tt, tt, tt, tt] (.seq .nil (.seq (.keep [ff, tt, tt, ff, ff, ff, tt, ff, ff, ff, ff, tt, tt, tt, tt] .nil) .nil))))) .nil))) .nil))))) .nil))))), mixed := [17] }
def pol18 : FPol := { ann := (.seq .nil (.seq .nil (.seq (.seq .nil (.keep [] (.keep [tt, tt, ff, ff, ff, tt] (.seq .nil (.seq (.keep [tt, tt, ff, ff, ff, tt] .nil) .nil))))) .nil))) }
def pol19 : FPol := { ann := .nil }
def pol20 : FPol := { ann := (.seq .nil (.seq .nil (.seq .nil (.seq .nil (.seq (.seq .nil (.keep [ff, ff, ff, ff, ff, ff, ff, ff, ff, ff, tt] (.keep [ff, ff, tt, ff, ff, ff, ff, ff, ff, ff, tt, ff, ff, ff, ff, ff, ff, ff, ff, ff, ff, ff, ff, ff, ff, ff, ff, ff, ff, ff, ff, ff, ff, tt, tt, tt] (.seq .nil (.seq .nil (.seq (.keep [ff, ff, tt, ff, ff, ff, ff, ff, ff, ff, tt, ff, ff, ff, ff, ff, ff, ff, ff, ff, ff, ff, ff, ff, ff, ff, ff, ff, ff, ff, ff, ff, ff, tt, tt, tt] .nil) .nil)))))) .nil))))) }
def pol21 : FPol := { ann := (.seq .nil (.seq .nil (.seq (.seq .nil (.keep [] (.keep [ff, tt, tt, ff, ff, tt] (.seq .nil (.seq (.keep [ff, tt, tt, ff, ff, tt] .nil) .nil))))) .nil))) }
def pol22 : FPol := { ann := .nil }
def pol23 : FPol := { ann := (.seq .nil (.seq .nil (.seq .nil (.seq .nil (.seq (.seq .nil (.keep [ff, tt, tt, ff, tt, ff, ff, tt, tt] (.keep [ff, tt, tt, ff, tt, ff, ff, tt, tt, ff, ff, ff, ff, ff, ff, ff, ff, ff, ff, ff, ff, ff, ff, ff, ff, ff, tt, tt, tt] (.seq .nil (.seq .nil (.seq (.keep [ff, tt, tt, ff, tt, ff, ff, tt, tt, ff, ff, ff, ff, ff, ff, ff, ff, ff, ff, ff, ff, ff, ff, ff, ff, ff, tt, tt, tt] .nil) .nil)))))) (.seq (.seq .nil (.keep [ff, tt, tt, ff, tt, ff, ff, tt, tt] (.keep [ff, tt, tt, ff, tt, ff, ff, tt, tt, ff, ff, ff, ff, ff, ff, ff, ff, ff, ff, ff, ff, ff, ff, ff, ff, ff, ff, ff, ff, ff, ff, ff, ff, ff, ff, ff, ff, ff, ff, ff, ff, ff, ff, ff, ff, ff, ff, ff, ff, ff, ff, ff, ff, ff, ff, ff, ff, tt, tt, tt] (.seq .nil (.seq .nil (.seq (.keep [ff, tt, tt, ff, tt, ff, ff, tt, tt, ff, ff, ff, ff, ff, ff, ff, ff, ff, ff, ff, ff, ff, ff, ff, ff, ff, ff, ff, ff, ff, ff, ff, ff, ff, ff, ff, ff, ff, ff, ff, ff, ff, ff, ff, ff, ff, ff, ff, ff, ff, ff, ff, ff, ff, ff, ff, ff, tt, tt, tt] .nil) .nil)))))) (.seq (.seq .nil (.keep [ff, ff, ff, ff, tt] (.keep [ff, tt, ff, ff, tt, ff, ff, tt, tt, ff, ff, ff, ff, ff, ff, ff, ff, ff, ff, ff, ff, ff, ff, ff, ff, ff, ff, ff, ff, ff, ff, ff, ff, ff, ff, ff, ff, ff, ff, ff, ff, ff, ff, ff, ff, ff, ff, ff, ff, ff, ff, ff, ff, ff, ff, ff, ff, ff, ff, ff, ff, ff, ff, ff, ff, ff, ff, ff, ff, ff, ff, ff, ff, ff, ff, ff, ff, ff, ff, ff, ff, tt, tt, tt] (.seq .nil (.seq .nil (.seq (.keep [ff, tt, ff, ff, tt, ff, ff, tt, tt, ff, ff, ff, ff, ff, ff, ff, ff, ff, ff, ff, ff, ff, ff, ff, ff, ff, ff, ff, ff, ff, ff, ff, ff, ff, ff, ff, ff, ff, ff, ff, ff, ff, ff, ff, ff, ff, ff, ff, ff, ff, ff, ff, ff, ff, ff, ff, ff, ff, ff, ff, ff, ff, ff, ff, ff, ff, ff, ff, ff, ff, ff, ff, ff, ff, ff, ff, ff, ff, ff, ff, ff, tt, tt, tt] .nil) .nil)))))) .nil))))))) }
def pol24 : FPol := { ann := (.seq .nil (.seq .nil (.seq .nil (.seq (.seq .nil (.keep [ff, ff, ff, ff, ff, tt] (.keep [ff, ff, ff, ff, ff, tt, ff, ff, ff, ff, ff, ff, ff, ff, ff, ff, ff, tt, tt, tt] (.seq .nil (.seq .nil (.seq (.keep [ff, ff, ff, ff, ff, tt, ff, ff, ff, ff, ff, ff, ff, ff, ff, ff, ff, tt, tt, tt] (.seq .nil (.seq .nil (.keep [ff, ff, ff, ff, ff, tt, ff, ff, ff, ff, ff, ff, ff, ff, ff, ff, ff, tt, tt, tt] (.keep [ff, ff, ff, ff, ff, tt, tt, ff, ff, ff, ff, ff, ff, ff, ff, ff, ff, tt, tt, tt, ff, ff, ff, ff, tt, tt, tt] (.seq .nil (.seq .nil (.seq (.keep [ff, ff, ff, ff, ff, tt, tt, ff, ff, ff, ff, ff, ff, ff, ff, ff, ff, tt, tt, tt, ff, ff, ff, ff, tt, tt, tt] .nil) .nil)))))))) .nil)))))) .nil)))) }
def pol25 : FPol := { ann := (.seq .nil (.seq .nil (.seq .nil (.seq (.seq .nil (.keep [] (.keep [ff, tt, ff, ff, ff, ff, tt, ff, ff, ff, ff, ff, ff, ff, ff, ff, ff, ff, ff, tt, tt, tt] (.seq .nil (.seq .nil (.seq (.keep [ff, tt, ff, ff, ff, ff, tt, ff, ff, ff, ff, ff, ff, ff, ff, ff, ff, ff, ff, tt, tt, tt] .nil) .nil)))))) .nil)))) }
def pol26 : FPol := { ann := (.seq .nil (.seq .nil (.seq (.seq .nil (.keep [] (.keep [ff, tt, ff, ff, tt, tt] (.seq .nil (.seq (.keep [ff, tt, ff, ff, tt, tt] (.seq .nil (.seq (.seq .nil (.keep [ff, tt, ff, ff, tt, tt, tt] (.keep [ff, tt, ff, ff, tt, tt, tt, tt] (.seq .nil (.seq (.keep [ff, tt, ff, ff, tt, tt, tt, tt] .nil) .nil))))) .nil))) .nil))))) .nil))) }
def pol27 : FPol := { ann := (.seq .nil (.seq .nil (.seq (.seq .nil (.keep [] (.keep [tt, tt, ff, ff, ff, tt] (.seq .nil (.seq (.keep [tt, tt, ff, ff, ff, tt] .nil) .nil))))) .nil))) }
def pol28 : FPol := { ann := (.seq .nil (.seq .nil (.keep [ff, ff, tt] (.keep [ff, tt, ff, tt] (.keep [ff, tt, ff, tt] (.seq .nil (.seq (.seq .nil (.keep [ff, tt, ff, tt, tt] (.keep [ff, tt, ff, tt, tt, tt] (.seq .nil (.seq (.keep [ff, tt, ff, tt, tt, tt] .nil) .nil))))) .nil))))))) }
def pol29 : FPol := { ann := (.seq .nil (.seq .nil (.seq .nil (.seq .nil (.seq .nil (.seq (.seq .nil (.keep [ff, ff, ff, ff, ff, ff, ff, tt] (.keep [ff, tt, ff, ff, ff, tt, tt, tt, ff, ff, ff, ff, ff, ff, ff, ff, ff, ff, ff, ff, ff, ff, ff, tt, tt, tt] (.seq .nil (.seq .nil (.seq (.keep [ff, tt, ff, ff, ff, tt, tt, tt, ff, ff, ff, ff, ff, ff, ff, ff, ff, ff, ff, ff, ff, ff, ff, tt, tt, tt] (.seq .nil (.seq .nil (.keep [ff, tt, ff, ff, ff, tt, tt, tt, ff, ff, ff, ff, ff, ff, ff, ff, ff, ff, ff, ff, ff, ff, ff, tt, tt, tt] (.keep [ff, tt, ff, ff, ff, tt, tt, tt, tt, ff, ff, ff, ff, ff, ff, ff, ff, ff, ff, ff, ff, ff, ff, tt, tt, tt, ff, ff, ff, ff, tt, tt, tt] (.seq .nil (.seq .nil (.seq (.keep [ff, tt, ff, ff, ff, tt, tt, tt, tt, ff, ff, ff, ff, ff, ff, ff, ff, ff, ff, ff, ff, ff, ff, tt, tt, tt, ff, ff, ff, ff, tt, tt, tt] .nil) .nil)))))))) .nil)))))) .nil)))))) }
def pol30 : FPol := { ann := (.seq .nil (.seq .nil (.seq .nil (.seq (.seq .nil (.keep [ff, tt, tt, ff, ff, ff, ff, tt] (.keep [ff, tt, tt, ff, ff, ff, ff, tt, ff, ff, ff, ff, ff, ff, ff, ff, ff, ff, ff, ff, ff, ff, tt, tt, tt] (.seq .nil (.seq .nil (.seq (.keep [ff, tt, tt, ff, ff, ff, ff, tt, ff, ff, ff, ff, ff, ff, ff, ff, ff, ff, ff, ff, ff, ff, tt, tt, tt] .nil) .nil)))))) (.seq .nil (.seq (.seq .nil (.keep [] (.keep [ff, ff, tt, ff, ff, ff, ff, tt, ff, ff, ff, tt, ff, ff, ff, ff, ff, ff, ff, ff, ff, ff, ff, ff, ff, ff, ff, ff, ff, ff, ff, ff, ff, ff, ff, ff, ff, ff, ff, ff, ff, ff, ff, ff, ff, ff, ff, ff, ff, ff, ff, ff, ff, ff, ff, ff, ff, ff, ff, ff, ff, ff, ff, ff, ff, ff, ff, ff, ff, ff, ff, ff, ff, ff, ff, ff, ff, ff, ff, ff, ff, ff, ff, ff, ff, ff, ff, ff, ff, ff, ff, ff, ff, ff, tt, tt, tt] (.seq .nil (.seq .nil (.seq (.keep [ff, ff, tt, ff, ff, ff, ff, tt, ff, ff, ff, tt, ff, ff, ff, ff, ff, ff, ff, ff, ff, ff, ff, ff, ff, ff, ff, ff, ff, ff, ff, ff, ff, ff, ff, ff, ff, ff, ff, ff, ff, ff, ff, ff, ff, ff, ff, ff, ff, ff, ff, ff, ff, ff, ff, ff, ff, ff, ff, ff, ff, ff, ff, ff, ff, ff, ff, ff, ff, ff, ff, ff, ff, ff, ff, ff, ff, ff, ff, ff, ff, ff, ff, ff, ff, ff, ff, ff, ff, ff, ff, ff, ff, ff, tt, tt, tt] .nil) .nil)))))) .nil)))))) }
def pol31 : FPol := { ann := (.seq .nil (.seq (.seq .nil (.keep [ff, tt, tt] (.keep [ff, tt, tt, ff, ff, ff, tt] (.seq .nil (.seq (.keep [ff, tt, tt, ff, ff, ff, tt] .nil) .nil))))) (.seq (.seq .nil (.keep [] (.keep [ff, tt, tt, ff, ff, ff, ff, ff, tt] (.seq .nil (.seq (.keep [ff, tt, tt, ff, ff, ff, ff, ff, tt] .nil) .nil))))) .nil))) }
def pol32 : FPol := { ann := (.seq .nil (.seq .nil (.seq (.seq .nil (.keep [] (.keep [tt, tt, ff, ff, ff, tt] (.seq .nil (.seq (.keep [tt, tt, ff, ff, ff, tt] .nil) .nil))))) .nil))) }
def pol33 : FPol := { ann := (.seq .nil (.seq .nil (.seq .nil (.seq (.seq .nil (.keep [ff, tt, ff, ff, tt] (.keep [ff, tt, ff, tt, tt, tt] (.seq .nil (.seq (.keep [ff, tt, ff, tt, tt, tt] (.seq .nil (.seq .nil (.seq (.seq .nil (.keep [ff, tt, ff, ff, tt, tt, tt, tt] (.keep [ff, tt, ff, tt, tt, tt, tt, tt, tt] (.seq .nil (.seq (.keep [ff, tt, ff, tt, tt, tt, tt, tt, tt] (.seq .nil (.seq .nil (.seq (.seq .nil (.keep [ff, tt, ff, tt, tt, tt, tt, tt, tt, tt, tt, tt] (.keep [ff, tt, ff, tt, tt, tt, tt, tt, tt, tt, tt, tt, tt] (.seq .nil (.seq (.keep [ff, tt, ff, tt, tt, tt, tt, tt, tt, tt, tt, tt, tt] .nil) .nil))))) .nil)))) .nil))))) .nil)))) .nil))))) (.seq .nil (.seq .nil (.seq (.seq .nil (.keep [ff, ff, ff, ff, ff, ff, ff, ff, ff, ff, ff, ff, ff, ff, tt] (.keep [ff, ff, ff, ff, tt, ff, ff, ff, ff, ff, ff, ff, ff, ff, tt, tt, tt] (.seq .nil (.seq (.keep [ff, ff, ff, ff, tt, ff, ff, ff, ff, ff, ff, ff, ff, ff, tt, tt, tt] (.seq .nil (.keep [ff, ff, ff, ff, tt, ff, ff, ff, ff, ff, ff, ff, ff, ff, tt, tt, tt] (.keep [ff, ff, ff, ff, tt, ff, ff, ff, ff, ff, ff, ff, ff, ff, tt, tt, tt, tt] (.seq .nil (.seq (.keep [ff, ff, ff, ff, tt, ff, ff, ff, ff, ff, ff, ff, ff, ff, tt, tt, tt, tt] .nil) .nil)))))) .nil))))) .nil))))))) }
def pol34 : FPol := { ann := (.seq .nil (.seq .nil (.seq (.seq .nil (.keep [] (.keep [tt, ff, ff, tt] (.seq .nil (.seq (.keep [tt, ff, ff, tt] .nil) .nil))))) .nil))) }
def pol35 : FPol := { ann := (.seq .nil (.seq .nil (.seq .nil (.seq (.seq .nil (.keep [ff, tt, tt, ff, ff, ff, ff, tt] (.keep [ff, tt, tt, ff, ff, ff, ff, tt, ff, ff, ff, ff, ff, ff, ff, ff, ff, ff, ff, ff, ff, ff, ff, ff, tt, tt, tt] (.seq .nil (.seq .nil (.seq (.keep [ff, tt, tt, ff, ff, ff, ff, tt, ff, ff, ff, ff, ff, ff, ff, ff, ff, ff, ff, ff, ff, ff, ff, ff, tt, tt, tt] .nil) .nil)))))) (.seq .nil (.seq .nil (.seq (.seq .nil (.keep [] (.keep [ff, ff, tt, ff, ff, ff, ff, ff, ff, ff, ff, tt, tt, ff, ff, ff, ff, ff, ff, ff, ff, ff, ff, ff, ff, ff, ff, ff, ff, ff, ff, ff, ff, ff, ff, ff, ff, ff, ff, ff, ff, ff, ff, ff, ff, ff, ff, ff, ff, ff, ff, ff, ff, ff, ff, ff, ff, ff, ff, ff, ff, ff, ff, ff, ff, ff, ff, ff, ff, ff, ff, ff, ff, ff, ff, ff, ff, ff, ff, ff, ff, ff, ff, ff, ff, tt, tt, tt] (.seq .nil (.seq .nil (.seq (.keep [ff, ff, tt, ff, ff, ff, ff, ff, ff, ff, ff, tt, tt, ff, ff, ff, ff, ff, ff, ff, ff, ff, ff, ff, ff, ff, ff, ff, ff, ff, ff, ff, ff, ff, ff, ff, ff, ff, ff, ff, ff, ff, ff, ff, ff, ff, ff, ff, ff, ff, ff, ff, ff, ff, ff, ff, ff, ff, ff, ff, ff, ff, ff, ff, ff, ff, ff, ff, ff, ff, ff, ff, ff, ff, ff, ff, ff, ff, ff, ff, ff, ff, ff, ff, ff, tt, tt, tt] (.seq .nil (.seq .nil (.seq (.seq .nil (.keep [ff, ff, tt, ff, ff, ff, ff, ff, ff, ff, ff, tt, tt, tt, ff, tt, ff, ff, ff, ff, ff, ff, ff, ff, ff, ff, ff, ff, ff, ff, ff, ff, ff, ff, ff, ff, ff, ff, ff, ff, ff, ff, ff, ff, ff, ff, ff, ff, ff, ff, ff, ff, ff, ff, ff, ff, ff, ff, ff, ff, ff, ff, ff, ff, ff, ff, ff, ff, ff, ff, ff, ff, ff, ff, ff, ff, ff, ff, ff, ff, ff, ff, ff, ff, ff, tt, tt, tt] (.keep [ff, ff, tt, ff, ff, ff, ff, ff, ff, ff, ff, tt, tt, tt, tt, tt, ff, ff, ff, ff, ff, ff, ff, ff, ff, ff, ff, ff, ff, ff, ff, ff, ff, ff, ff, ff, ff, ff, ff, ff, ff, ff, ff, ff, ff, ff, ff, ff, ff, ff, ff, ff, ff, ff, ff, ff, ff, ff, ff, ff, ff, ff, ff, ff, ff, ff, ff, ff, ff, ff, ff, ff, ff, ff, ff, ff, ff, ff, ff, ff, ff, ff, ff, ff, ff, tt, tt, tt, ff, ff, ff, ff, ff, ff, ff, ff, ff, ff, ff, ff, ff, ff, ff, ff, ff, ff, ff, ff, ff, tt, tt, tt] (.seq .nil (.seq .nil (.seq (.keep [ff, ff, tt, ff, ff, ff, ff, ff, ff, ff, ff, tt, tt, tt, tt, tt, ff, ff, ff, ff, ff, ff, ff, ff, ff, ff, ff, ff, ff, ff, ff, ff, ff, ff, ff, ff, ff, ff, ff, ff, ff, ff, ff, ff, ff, ff, ff, ff, ff, ff, ff, ff, ff, ff, ff, ff, ff, ff, ff, ff, ff, ff, ff, ff, ff, ff, ff, ff, ff, ff, ff, ff, ff, ff, ff, ff, ff, ff, ff, ff, ff, ff, ff, ff, ff, tt, tt, tt, ff, ff, ff, ff, ff, ff, ff, ff, ff, ff, ff, ff, ff, ff, ff, ff, ff, ff, ff, ff, ff, tt, tt, tt] .nil) .nil)))))) .nil)))) .nil)))))) .nil))))))) }
def pol36 : FPol := { ann := (.seq .nil (.seq .nil (.seq (.seq .nil (.keep [ff, ff, ff, tt] (.keep [tt, ff, ff, tt, tt] (.seq .nil (.seq (.keep [tt, ff, ff, tt, tt] .nil) .nil))))) .nil))) }
def pol37 : FPol := { ann := (.seq .nil (.seq (.seq .nil (.keep [ff, tt, tt] (.keep [ff, tt, tt, ff, ff, ff, tt] (.seq .nil (.seq (.keep [ff, tt, tt, ff, ff, ff, tt] .nil) .nil))))) (.seq (.seq .nil (.keep [] (.keep [ff, tt, tt, ff, ff, ff, ff, tt] (.seq .nil (.seq (.keep [ff, tt, tt, ff, ff, ff, ff, tt] .nil) .nil))))) .nil))) }
def pol38 : FPol := { ann := .nil }
def pol39 : FPol := { ann := .nil, plain := [2] }
def pol40 : FPol := { ann := .nil }
def pol41 : FPol := { ann := .nil }
def pol42 : FPol := { ann := (.seq .nil (.seq .nil (.seq .nil (.seq .nil (.seq (.seq .nil (.keep [ff, ff, ff, ff, ff, ff, ff, tt] (.keep [ff, tt, tt, ff, ff, ff, ff, tt, ff, ff, ff, ff, ff, ff, ff, ff, ff, ff, ff, ff, ff, ff, ff, ff, ff, ff, ff, ff, ff, ff, ff, ff, ff, ff, ff, ff, ff, ff, tt, tt] (.seq .nil (.seq .nil (.seq (.keep [ff, tt, tt, ff, ff, ff, ff, tt, ff, ff, ff, ff, ff, ff, ff, ff, ff, ff, ff, ff, ff, ff, ff, ff, ff, ff, ff, ff, ff, ff, ff, ff, ff, ff, ff, ff, ff, ff, tt, tt] .nil) .nil)))))) .nil))))), pload := [45, 50] }
def pol43 : FPol := { ann := (.seq .nil (.seq .nil (.seq (.seq .nil (.keep [ff, tt, ff, tt] (.keep [ff, tt, ff, tt, ff, ff, ff, ff, ff, ff, ff, tt, tt] (.seq .nil (.seq .nil (.seq (.keep [ff, tt, ff, tt, ff, ff, ff, ff, ff, ff, ff, tt, tt] .nil) .nil)))))) (.seq (.seq .nil (.keep [ff, ff, ff, tt] (.keep [ff, ff, ff, tt, ff, ff, ff, ff, ff, ff, ff, ff, ff, ff, ff, ff, ff, ff, ff, ff, ff, ff, ff, ff, ff, ff, ff, ff, ff, ff, tt, tt, tt] (.seq .nil (.seq .nil (.seq (.keep [ff, ff, ff, tt, ff, ff, ff, ff, ff, ff, ff, ff, ff, ff, ff, ff, ff, ff, ff, ff, ff, ff, ff, ff, ff, ff, ff, ff, ff, ff, tt, tt, tt] .nil) .nil)))))) .nil)))), mixed := [23, 24] }
def pol44 : FPol := { ann := .nil }
def pol45 : FPol := { ann := .nil }
def pol46 : FPol := { ann := .nil }
def pol47 : FPol := { ann := .nil }
def pol48 : FPol := { ann := (.seq .nil (.seq .nil (.seq (.seq .nil (.keep [ff, tt] (.keep [ff, tt, ff, tt] (.seq .nil (.seq (.keep [ff, tt, ff, tt] .nil) .nil))))) (.seq (.seq .nil (.keep [] (.keep [ff, tt, ff, ff, tt] (.seq .nil (.seq (.keep [ff, tt, ff, ff, tt] .nil) .nil))))) .nil)))) }
def pol49 : FPol := { ann := (.seq .nil (.seq (.seq .nil (.keep [] (.keep [tt, tt, ff, ff, ff, tt] (.seq .nil (.seq (.keep [tt, tt, ff, ff, ff, tt] .nil) .nil))))) .nil)) }
def pol50 : FPol := { ann := (.seq .nil (.seq .nil (.seq (.seq .nil (.keep [] (.keep [ff, tt, tt, tt, ff, ff, ff, tt] (.seq .nil (.seq (.keep [ff, tt, tt, tt, ff, ff, ff, tt] .nil) .nil))))) .nil))) }
def pol51 : FPol := { ann := .nil }
def pol52 : FPol := { ann := .nil }
def pol53 : FPol := { ann := .nil }
def pol54 : FPol := { ann := (.seq .nil (.seq (.seq .nil (.keep [] (.keep [ff, ff, ff, ff, ff, tt, tt, tt] (.seq .nil (.seq .nil (.seq (.keep [ff, ff, ff, ff, ff, tt, tt, tt] .nil) .nil)))))) .nil)) }
def pol55 : FPol := { ann := .nil }
def pol56 : FPol := { ann := .nil }
def pol57 : FPol := { ann := (.seq .nil (.seq .nil (.seq .nil (.seq (.seq .nil (.keep [tt, ff, ff, tt, tt] (.keep [tt, ff, ff, tt, tt, ff, ff, ff, ff, ff, ff, ff, ff, ff, ff, ff, ff, ff, ff, ff, ff, ff, tt, tt, tt] (.seq .nil (.seq .nil (.seq (.keep [tt, ff, ff, tt, tt, ff, ff, ff, ff, ff, ff, ff, ff, ff, ff, ff, ff, ff, ff, ff, ff, ff, tt, tt, tt] .nil) .nil)))))) (.seq (.keep [ff, ff, ff, tt] (.keep [tt, ff, ff, tt, tt] (.seq .nil (.keep [tt, ff, ff, tt, tt] (.seq .nil (.seq .nil (.seq .nil (.keep [tt, ff, ff, tt, tt] (.keep [tt, ff, ff, tt, tt, ff, ff, tt, ff, ff, ff, ff, ff, ff, ff, ff, ff, ff, ff, ff, ff, ff, ff, ff, ff, ff, ff, ff, ff, ff, ff, ff, ff, ff, ff, ff, ff, ff, ff, ff, ff, ff, ff, ff, ff, ff, ff, ff, ff, ff, ff, tt, tt, tt] (.seq .nil (.seq .nil (.seq (.keep [tt, ff, ff, tt, tt, ff, ff, tt, ff, ff, ff, ff, ff, ff, ff, ff, ff, ff, ff, ff, ff, ff, ff, ff, ff, ff, ff, ff, ff, ff, ff, ff, ff, ff, ff, ff, ff, ff, ff, ff, ff, ff, ff, ff, ff, ff, ff, ff, ff, ff, ff, tt, tt, tt] .nil) .nil)))))))))))) .nil))))), plain := [76], mixed := [16, 36, 86], rload := [71] }
def pol58 : FPol := { ann := (.seq .nil (.seq .nil (.seq (.seq .nil (.keep [tt, ff, ff, tt] (.keep [tt, ff, ff, tt, ff, ff, ff, ff, ff, ff, ff, ff, ff, ff, ff, ff, ff, ff, tt, tt] (.seq .nil (.seq .nil (.seq (.keep [tt, ff, ff, tt, ff, ff, ff, ff, ff, ff, ff, ff, ff, ff, ff, ff, ff, ff, tt, tt] (.seq .nil (.seq .nil (.seq (.seq .nil (.keep [tt, ff, ff, tt, ff, tt, ff, ff, ff, ff, ff, ff, ff, ff, ff, ff, ff, ff, tt, tt] (.keep [tt, ff, ff, tt, tt, tt, ff, ff, ff, ff, ff, ff, ff, ff, ff, ff, ff, ff, tt, tt, ff, ff, ff, ff, ff, ff, ff, ff, ff, ff, tt, tt] (.seq .nil (.seq .nil (.seq (.keep [tt, ff, ff, tt, tt, tt, ff, ff, ff, ff, ff, ff, ff, ff, ff, ff, ff, ff, tt, tt, ff, ff, ff, ff, ff, ff, ff, ff, ff, ff, tt, tt] .nil) .nil)))))) .nil)))) .nil)))))) (.seq (.seq .nil (.keep [ff, ff, ff, tt] (.keep [tt, ff, ff, tt, ff, ff, ff, tt, tt] (.seq .nil (.seq (.keep [tt, ff, ff, tt, ff, ff, ff, tt, tt] (.seq .nil (.seq .nil (.seq .nil (.keep [tt, ff, ff, tt, ff, ff, ff, tt, tt] (.keep [tt, ff, ff, tt, ff, ff, ff, tt, tt, tt, ff, ff, ff, ff, ff, ff, ff, ff, ff, ff, ff, ff, ff, ff, ff, ff, ff, ff, ff, ff, ff, ff, ff, ff, ff, ff, ff, ff, ff, ff, ff, ff, ff, ff, ff, ff, ff, ff, ff, ff, ff, ff, ff, ff, ff, ff, ff, ff, ff, ff, ff, ff, ff, ff, ff, ff, ff, ff, ff, ff, ff, ff, tt, tt, tt] (.seq .nil (.seq .nil (.seq (.keep [tt, ff, ff, tt, ff, ff, ff, tt, tt, tt, ff, ff, ff, ff, ff, ff, ff, ff, ff, ff, ff, ff, ff, ff, ff, ff, ff, ff, ff, ff, ff, ff, ff, ff, ff, ff, ff, ff, ff, ff, ff, ff, ff, ff, ff, ff, ff, ff, ff, ff, ff, ff, ff, ff, ff, ff, ff, ff, ff, ff, ff, ff, ff, ff, ff, ff, ff, ff, ff, ff, ff, ff, tt, tt, tt] (.seq .nil (.seq .nil (.keep [tt, ff, ff, tt, ff, ff, ff, tt, tt, tt, ff, ff, ff, ff, ff, ff, ff, ff, ff, ff, ff, ff, ff, ff, ff, ff, ff, ff, ff, ff, ff, ff, ff, ff, ff, ff, ff, ff, ff, ff, ff, ff, ff, ff, ff, ff, ff, ff, ff, ff, ff, ff, ff, ff, ff, ff, ff, ff, ff, ff, ff, ff, ff, ff, ff, ff, ff, ff, ff, ff, ff, ff, tt, tt, tt] (.keep [tt, ff, ff, tt, ff, ff, ff, tt, tt, tt, ff, tt, ff, ff, ff, ff, ff, ff, ff, ff, ff, ff, ff, ff, ff, ff, ff, ff, ff, ff, ff, ff, ff, ff, ff, ff, ff, ff, ff, ff, ff, ff, ff, ff, ff, ff, ff, ff, ff, ff, ff, ff, ff, ff, ff, ff, ff, ff, ff, ff, ff, ff, ff, ff, ff, ff, ff, ff, ff, ff, ff, ff, tt, tt, tt, ff, ff, ff, ff, ff, ff, ff, ff, tt, tt] (.seq .nil (.seq .nil (.seq (.keep [tt, ff, ff, tt, ff, ff, ff, tt, tt, tt, ff, tt, ff, ff, ff, ff, ff, ff, ff, ff, ff, ff, ff, ff, ff, ff, ff, ff, ff, ff, ff, ff, ff, ff, ff, ff, ff, ff, ff, ff, ff, ff, ff, ff, ff, ff, ff, ff, ff, ff, ff, ff, ff, ff, ff, ff, ff, ff, ff, ff, ff, ff, ff, ff, ff, ff, ff, ff, ff, ff, ff, ff, tt, tt, tt, ff, ff, ff, ff, ff, ff, ff, ff, tt, tt] .nil) .nil)))))))) .nil))))))))) .nil))))) .nil)))), mixed := [60, 61] }
def pol59 : FPol := { ann := .nil }
def pol60 : FPol := { ann := (.seq .nil (.seq (.seq .nil (.keep [] (.keep [tt, tt, tt, ff, ff, ff, ff, tt] (.seq .nil (.seq (.keep [tt, tt, tt, ff, ff, ff, ff, tt] .nil) .nil))))) .nil)) }
def pol61 : FPol := { ann := (.seq .nil (.seq .nil (.seq (.seq .nil (.keep [ff, ff, ff, tt] (.keep [ff, tt, ff, tt, tt] (.seq .nil (.seq (.keep [ff, tt, ff, tt, tt] (.seq .nil (.keep [ff, tt, ff, tt, tt] (.keep [ff, tt, ff, tt, tt, tt] (.seq .nil (.seq (.keep [ff, tt, ff, tt, tt, tt] .nil) .nil)))))) .nil))))) .nil))) }
def pol62 : FPol := { ann := (.seq .nil (.seq .nil (.seq (.seq .nil (.keep [] (.keep [ff, tt, tt, tt, tt, ff, ff, ff, ff, tt] (.seq .nil (.seq (.keep [ff, tt, tt, tt, tt, ff, ff, ff, ff, tt] .nil) .nil))))) .nil))) }
def pol63 : FPol := { ann := .nil }
def pol64 : FPol := { ann := (.seq .nil (.seq (.seq .nil (.keep [] (.keep [tt, tt, ff, ff, ff, ff, ff, tt, tt] (.seq .nil (.seq .nil (.seq (.keep [tt, tt, ff, ff, ff, ff, ff, tt, tt] .nil) .nil)))))) .nil)) }
def pol65 : FPol := { ann := .nil }
def pol66 : FPol := { ann := (.seq .nil (.seq (.seq .nil (.keep [] (.keep [tt, tt, tt, tt, ff, ff, ff, ff, ff, ff, ff, ff, ff, ff, ff, tt, tt] (.seq .nil (.seq .nil (.seq (.keep [tt, tt, tt, tt, ff, ff, ff, ff, ff, ff, ff, ff, ff, ff, ff, tt, tt] .nil) .nil)))))) .nil)) }
def pol67 : FPol := { ann := (.seq .nil (.seq .nil (.seq (.seq .nil (.keep [ff, ff, ff, tt] (.keep [ff, ff, ff, tt, ff, ff, tt, tt, tt] (.seq .nil (.seq .nil (.seq (.keep [ff, ff, ff, tt, ff, ff, tt, tt, tt] .nil) .nil)))))) .nil))) }
def pol68 : FPol := { ann := .nil }
def pol69 : FPol := { ann := .nil }
def pol70 : FPol := { ann := (.seq .nil (.seq (.seq .nil (.keep [tt, tt] (.keep [tt, tt, ff, ff, ff, tt] (.seq .nil (.seq (.keep [tt, tt, ff, ff, ff, tt] .nil) .nil))))) .nil)) }
def pol71 : FPol := { ann := (.seq .nil (.seq .nil (.seq .nil (.seq (.seq .nil (.keep [] (.keep [ff, tt, ff, tt, ff, tt, ff, tt] (.seq .nil (.seq (.keep [ff, tt, ff, tt, ff, tt, ff, tt] .nil) .nil))))) .nil)))) }
def pol72 : FPol := { ann := (.seq .nil (.seq (.seq .nil (.keep [] (.keep [ff, tt, tt, tt, tt, ff, ff, ff, ff, tt] (.seq .nil (.seq (.keep [ff, tt, tt, tt, tt, ff, ff, ff, ff, tt] .nil) .nil))))) .nil)) }
def pol73 : FPol := { ann := (.seq .nil (.seq (.seq .nil (.keep [tt, tt] (.keep [tt, tt, ff, ff, ff, ff, ff, ff, ff, tt, tt, tt] (.seq .nil (.seq .nil (.seq (.keep [tt, tt, ff, ff, ff, ff, ff, ff, ff, tt, tt, tt] .nil) .nil)))))) .nil)) }
def pol74 : FPol := { ann := .nil }
def pol75 : FPol := { ann := .nil }
def pol76 : FPol := { ann := (.seq .nil (.seq .nil (.seq .nil (.seq (.seq .nil (.keep [ff, tt, ff, tt, tt] (.keep [ff, tt, ff, tt, tt, ff, ff, ff, ff, ff, ff, ff, ff, ff, ff, ff, ff, ff, ff, ff, tt, tt, tt] (.seq .nil (.seq .nil (.seq (.keep [ff, tt, ff, tt, tt, ff, ff, ff, ff, ff, ff, ff, ff, ff, ff, ff, ff, ff, ff, ff, tt, tt, tt] .nil) .nil)))))) (.seq (.seq .nil (.keep [ff, ff, ff, ff, tt] (.keep [ff, tt, ff, tt, tt, ff, ff, ff, ff, ff, ff, ff, ff, ff, ff, ff, ff, ff, ff, ff, ff, ff, ff, ff, ff, ff, ff, ff, ff, ff, ff, ff, ff, ff, ff, ff, ff, ff, ff, ff, ff, ff, ff, ff, ff, ff, ff, ff, ff, tt, tt, tt] (.seq .nil (.seq .nil (.seq (.keep [ff, tt, ff, tt, tt, ff, ff, ff, ff, ff, ff, ff, ff, ff, ff, ff, ff, ff, ff, ff, ff, ff, ff, ff, ff, ff, ff, ff, ff, ff, ff, ff, ff, ff, ff, ff, ff, ff, ff, ff, ff, ff, ff, ff, ff, ff, ff, ff, ff, tt, tt, tt] .nil) .nil)))))) .nil))))) }
def pol77 : FPol := { ann := .nil }
def pol78 : FPol := { ann := .nil }
def pol79 : FPol := { ann := .nil }
def pol80 : FPol := { ann := (.seq .nil (.keep [] (.keep [tt, tt, ff, tt] (.seq .nil (.seq (.keep [tt, tt, ff, tt] .nil) .nil))))) }
def pol81 : FPol := { ann := (.seq .nil (.seq (.seq .nil (.keep [] (.keep [tt, tt, ff, ff, ff, ff, ff, tt, tt] (.seq .nil (.seq .nil (.seq (.keep [tt, tt, ff, ff, ff, ff, ff, tt, tt] .nil) .nil)))))) .nil)) }
def pol82 : FPol := { ann := .nil }
def pol83 : FPol := { ann := (.seq .nil (.seq (.seq .nil (.keep [] (.keep [tt, tt, ff, ff, ff, ff, ff, tt, tt] (.seq .nil (.seq .nil (.seq (.keep [tt, tt, ff, ff, ff, ff, ff, tt, tt] .nil) .nil)))))) .nil)) }
def pol84 : FPol := { ann := .nil }
def pol85 : FPol := { ann := .nil }
def pol86 : FPol := { ann := .nil }
def pol87 : FPol := { ann := .nil }
def pol88 : FPol := { ann := .nil }
def pol89 : FPol := { ann := (.seq .nil (.seq (.seq .nil (.keep [] (.keep [tt, tt, tt, tt, ff, ff, ff, ff, ff, tt] (.seq .nil (.seq (.keep [tt, tt, tt, tt, ff, ff, ff, ff, ff, tt] .nil) .nil))))) .nil)) }
def pol90 : FPol := { ann := .nil }
def pol91 : FPol := { ann := .nil }
def pol92 : FPol := { ann := .nil }
def pol : FuncId → FPol
  | 3 => pol3
  | 4 => pol4
  | 5 => pol5
  | 6 => pol6
  | 7 => pol7
  | 8 => pol8
  | 9 => pol9
  | 10 => pol10
  | 11 => pol11
  | 12 => pol12
  | 13 => pol13
  | 14 => pol14
  | 15 => pol15
  | 16 => pol16
  | 17 => pol17
  | 18 => pol18
  | 19 => pol19
  | 20 => pol20
  | 21 => pol21
  | 22 => pol22
  | 23 => pol23
  | 24 => pol24
  | 25 => pol25
  | 26 => pol26
  | 27 => pol27
  | 28 => pol28
  | 29 => pol29
  | 30 => pol30
  | 31 => pol31
  | 32 => pol32
  | 33 => pol33
  | 34 => pol34
  | 35 => pol35
  | 36 => pol36
  | 37 => pol37
  | 38 => pol38
  | 39 => pol39
  | 40 => pol40
  | 41 => pol41
  | 42 => pol42
  | 43 => pol43
  | 44 => pol44
  | 45 => pol45
  | 46 => pol46
  | 47 => pol47
  | 48 => pol48
  | 49 => pol49
  | 50 => pol50
  | 51 => pol51
  | 52 => pol52
  | 53 => pol53
  | 54 => pol54
  | 55 => pol55
  | 56 => pol56
  | 57 => pol57
  | 58 => pol58
  | 59 => pol59
  | 60 => pol60
  | 61 => pol61
  | 62 => pol62
  | 63 => pol63
  | 64 => pol64
  | 65 => pol65
  | 66 => pol66
  | 67 => pol67
  | 68 => pol68
  | 69 => pol69
  | 70 => pol70
  | 71 => pol71
  | 72 => pol72
  | 73 => pol73
  | 74 => pol74
  | 75 => pol75
  | 76 => pol76
  | 77 => pol77
  | 78 => pol78
  | 79 => pol79
  | 80 => pol80
  | 81 => pol81
  | 82 => pol82
  | 83 => pol83
  | 84 => pol84
  | 85 => pol85
  | 86 => pol86
  | 87 => pol87
  | 88 => pol88
  | 89 => pol89
  | 90 => pol90
  | 91 => pol91
  | 92 => pol92
  | _ => {}
noncomputable abbrev CC : CallF := callL PP pol
end Go.D
end
/- Typed values of chapter 21, and what operations do with them. -/
section
set_option linter.unusedVariables false
set_option linter.unusedSimpArgs false
namespace Go.D

abbrev pI (n : Int) : PV := .int .i64 n
def eInts (l : List Int) : List PV := l.map pI
def eBools (l : List Bool) : List PV := l.map .bool
def eSl : Option (List Int) → PV
  | none => .nilsl
  | some l => .sl false l.length (eInts l)
structure Edg where
  f : Int
  t : Int
  a : Int
  deriving DecidableEq, Inhabited
def eEdg (e : Edg) : List PV := [pI e.f, pI e.t, pI e.a]
def eEdgs : List Edg → List PV
  | [] => []
  | e :: l => pI e.f :: pI e.t :: pI e.a :: eEdgs l
def eEs : Option (List Edg) → PV
  | none => .nilsl
  | some l => .sl false l.length (eEdgs l)
structure Gr where
  n : Int
  init : Option (List Int)
  edges : Option (List Edg)
structure Pair where
  lo : Gr
  up : Gr
  ll : Option (List Int)
  ul : Option (List Int)
def eGr (g : Gr) : List DV := [.p (pI g.n), .p (eSl g.init), .p (eEs g.edges)]
def ePair (p : Pair) : List DV := [.p (pI p.lo.n), .p (eSl p.lo.init), .p (eEs p.lo.edges), .p (pI p.up.n), .p (eSl p.up.init), .p (eEs p.up.edges), .p (eSl p.ll), .p (eSl p.ul)]
abbrev L {α : Type} (o : Option (List α)) : List α := o.getD []

/-! ### Canonical values -/
theorem loosens_ints (l : List Int) : loosens (eInts l) = eInts l := by
  induction l with
  | nil => rfl
  | cons a l ih => simp only [eInts, List.map_cons, loosens, loosen] at *; rw [ih]
theorem loosens_bools (l : List Bool) : loosens (eBools l) = eBools l := by
  induction l with
  | nil => rfl
  | cons a l ih => simp only [eBools, List.map_cons, loosens, loosen] at *; rw [ih]
theorem loosens_edgs (l : List Edg) : loosens (eEdgs l) = eEdgs l := by
  induction l with
  | nil => rfl
  | cons a l ih => simp only [eEdgs, loosens, loosen, ih]
theorem loosen_sl (o : Option (List Int)) : loosen (eSl o) = eSl o := by
  cases o <;> simp [eSl, loosen, loosens_ints]
theorem loosen_es (o : Option (List Edg)) : loosen (eEs o) = eEs o := by
  cases o <;> simp [eEs, loosen, loosens_edgs]

/-! ### Calls -/
theorem pureFn_fn (call : CallF) (f : FuncId) (caps args : List DV) (σ : Store) : pureFn call (.fn f caps) args σ = pureV call f (args ++ caps) σ := Eq.trans rfl rfl
/-- Steps that a kernel need not compute again: no proof by rfl alone. -/
theorem obind {α β : Type} (x : α) (f : α → Option β) : (some x).bind f = f x := Eq.trans rfl rfl
theorem omap {α β : Type} (x : α) (f : α → β) : (some x).map f = some (f x) := Eq.trans rfl rfl

/-- A call on values that name no row, at the empty store. -/
theorem pureV_free {call : CallF} {f : FuncId} {args : List DV} {σ : Store} {v v' : DV} {σ' : Store} (h1 : args.map view = args) (h2 : args.all rowFree = true) (h : call 0 f args [] = some (v', σ')) (ht : thawAll 0 σ' v' = some v) : pureV call f args σ = some v := by
  unfold pureV
  rw [h1, if_pos h2, h]
  exact ht

theorem pureV_rows {call : CallF} {f : FuncId} {args : List DV} {σ : Store} {v v' : DV} {σ' : Store} (h1 : args.map view = args) (h2 : args.all rowFree = false) (h : call σ.length f args σ = some (v', σ')) (ht : thawAll σ.length σ' v' = some v) : pureV call f args σ = some v := by
  unfold pureV
  rw [h1, if_neg (by rw [h2]; simp), h]
  exact ht

theorem pureV_any {call : CallF} {f : FuncId} {args : List DV} {σ : Store} {v : DV} (h1 : args.map view = args)
    (h : ∀ lo σ0, (σ0 = [] ∧ lo = 0 ∧ args.all rowFree = true) ∨ (σ0 = σ ∧ lo = σ.length ∧ args.all rowFree = false) → ∃ v' σ', call lo f args σ0 = some (v', σ') ∧ thawAll lo σ' v' = some v) : pureV call f args σ = some v := by
  cases hr : args.all rowFree with
  | true =>
    obtain ⟨v', σ', h2, h3⟩ := h 0 [] (.inl ⟨rfl, rfl, hr⟩)
    exact pureV_free h1 hr h2 h3
  | false =>
    obtain ⟨v', σ', h2, h3⟩ := h _ σ (.inr ⟨rfl, rfl, hr⟩)
    exact pureV_rows h1 hr h2 h3

/-- Either way: what holds at every store that goes on from this one, or at the empty one. -/
theorem thaw_int (n : Nat) (σ : Store) (x : Int) : thawAll n σ (.p (.int .i64 x)) = some (.p (.int .i64 x)) := rfl
theorem thaw_bool (n : Nat) (σ : Store) (x : Bool) : thawAll n σ (.p (.bool x)) = some (.p (.bool x)) := rfl

/-! ### Steps -/
theorem condK_true {β : Type} (x y : Option β) : condK (.p (.bool true)) x y = x := Eq.trans rfl rfl
theorem condK_false {β : Type} (x y : Option β) : condK (.p (.bool false)) x y = y := Eq.trans rfl rfl
theorem condK_if {β : Type} (b : Bool) (x y : Option β) : condK (.p (.bool b)) x y = if b = true then x else y := by cases b <;> rfl
theorem pickV_true (x y : DV) : pickV (.p (.bool true)) x y = some x := Eq.trans rfl rfl
theorem pickV_false (x y : DV) : pickV (.p (.bool false)) x y = some y := Eq.trans rfl rfl
theorem guard_tt (β : Type) (m : Option (DV × Store)) (σ : Store) (K : DV → Store → Option β) : guardT β (.p (.bool true)) true m σ K = m.bind fun r => K r.1 r.2 := Eq.trans rfl rfl
theorem guard_ff (β : Type) (m : Option (DV × Store)) (σ : Store) (K : DV → Store → Option β) : guardT β (.p (.bool false)) false m σ K = m.bind fun r => K r.1 r.2 := Eq.trans rfl rfl
theorem guard_tf (β : Type) (m : Option (DV × Store)) (σ : Store) (K : DV → Store → Option β) : guardT β (.p (.bool true)) false m σ K = K .skip σ := Eq.trans rfl rfl
theorem guard_ft (β : Type) (m : Option (DV × Store)) (σ : Store) (K : DV → Store → Option β) : guardT β (.p (.bool false)) true m σ K = K .skip σ := Eq.trans rfl rfl
theorem guard_sk (β : Type) (w : Bool) (m : Option (DV × Store)) (σ : Store) (K : DV → Store → Option β) : guardT β (.tuple []) w m σ K = K .skip σ := Eq.trans rfl rfl
theorem not_bool (b : Bool) : unOp .not (.p (.bool b)) = some (.p (.bool !b)) := Eq.trans rfl rfl
section
variable (P : Program) (t : TypeId) (a b : Int)
theorem b_geq : binOp P .geq t (.p (.int .i64 a)) (.p (.int .i64 b)) = some (.p (.bool (decide (a ≥ b)))) := Eq.trans rfl rfl
theorem b_leq : binOp P .leq t (.p (.int .i64 a)) (.p (.int .i64 b)) = some (.p (.bool (decide (a ≤ b)))) := Eq.trans rfl rfl
theorem b_gtr : binOp P .gtr t (.p (.int .i64 a)) (.p (.int .i64 b)) = some (.p (.bool (decide (a > b)))) := Eq.trans rfl rfl
theorem b_lss : binOp P .lss t (.p (.int .i64 a)) (.p (.int .i64 b)) = some (.p (.bool (decide (a < b)))) := Eq.trans rfl rfl
theorem b_eql : binOp P .eql t (.p (.int .i64 a)) (.p (.int .i64 b)) = some (.p (.bool (decide (a = b)))) := by
  show some (DV.p (PV.bool (a == b))) = _
  exact Eq.trans rfl rfl
theorem b_neq : binOp P .neq t (.p (.int .i64 a)) (.p (.int .i64 b)) = some (.p (.bool (!decide (a = b)))) := by
  show some (DV.p (PV.bool (a != b))) = _
  exact Eq.trans rfl rfl
theorem b_add : binOp P .add t (.p (.int .i64 a)) (.p (.int .i64 b)) = some (.p (.int .i64 (IntKind.wrap .i64 (a + b)))) := Eq.trans rfl rfl
theorem b_sub : binOp P .sub t (.p (.int .i64 a)) (.p (.int .i64 b)) = some (.p (.int .i64 (IntKind.wrap .i64 (a - b)))) := Eq.trans rfl rfl
theorem b_mul : binOp P .mul t (.p (.int .i64 a)) (.p (.int .i64 b)) = some (.p (.int .i64 (IntKind.wrap .i64 (a * b)))) := Eq.trans rfl rfl
end
theorem wrap_ok {x : Int} (h0 : -9223372036854775808 ≤ x) (h1 : x ≤ 9223372036854775807) : IntKind.wrap .i64 x = x := i64_ok h0 h1
theorem wrap_succ {i : Nat} (h : i ≤ 1000000) : IntKind.wrap .i64 ((i : Int) + 1) = ((i + 1 : Nat) : Int) := by
  rw [wrap_ok] <;> omega

/-! ### The types of this program -/
theorem u22 : PP.underlying 22 = some (.slice 3) := Eq.trans (by kernel_rfl) rfl
theorem u23 : PP.underlying 23 = some (.slice 100) := Eq.trans (by kernel_rfl) rfl
theorem u84 : PP.underlying 84 = some (.slice 88) := Eq.trans (by kernel_rfl) rfl
theorem u88 : PP.underlying 88 = some (.slice 4) := Eq.trans (by kernel_rfl) rfl
theorem u122 : PP.underlying 122 = some (.slice 30) := Eq.trans (by kernel_rfl) rfl
theorem s3 : size? PP 3 = some 1 := Eq.trans (by kernel_rfl) rfl
theorem s4 : size? PP 4 = some 1 := Eq.trans (by kernel_rfl) rfl
theorem s30 : size? PP 30 = some 1 := Eq.trans (by kernel_rfl) rfl
theorem s88 : size? PP 88 = some 1 := Eq.trans (by kernel_rfl) rfl
theorem s100 : size? PP 100 = some 3 := Eq.trans (by kernel_rfl) rfl
theorem len22 (o : Option (List Int)) (σ : Store) : len PP 22 (.p (eSl o)) σ = some (.p (.int .i64 ((L o).length : Nat))) := by cases o <;> simp [len, u22, eSl]
theorem len23 (o : Option (List Edg)) (σ : Store) : len PP 23 (.p (eEs o)) σ = some (.p (.int .i64 ((L o).length : Nat))) := by cases o <;> simp [len, u23, eEs]
theorem ints_length (l : List Int) : (eInts l).length = l.length := by simp [eInts]
theorem bools_length (l : List Bool) : (eBools l).length = l.length := by simp [eBools]
theorem edgs_length (l : List Edg) : (eEdgs l).length = l.length * 3 := by
  induction l with
  | nil => rfl
  | cons a l ih => simp [eEdgs, ih]; omega
theorem idx22 {o : Option (List Int)} {i : Nat} (h : i < (L o).length) : indexAddr PP 22 (.p (eSl o)) (.p (.int .i64 (i : Nat))) = some (.pptr (eInts (L o)) i) := by
  cases o with
  | none => simp at h
  | some l =>
    have h2 : (0 : Int) ≤ (i : Int) ∧ (i : Int) < (l.length : Nat) := by simp at h; omega
    simp [indexAddr, u22, s3, eSl, h2]
theorem idx23 {o : Option (List Edg)} {i : Nat} (h : i < (L o).length) : indexAddr PP 23 (.p (eEs o)) (.p (.int .i64 (i : Nat))) = some (.pptr (eEdgs (L o)) (i * 3)) := by
  cases o with
  | none => simp at h
  | some l =>
    have h2 : (0 : Int) ≤ (i : Int) ∧ (i : Int) < (l.length : Nat) := by simp at h; omega
    simp [indexAddr, u23, s100, eEs, h2]
/-- Loads of one cell. -/
def load1 (x : DV) (σ : Store) : Option DV := match loadN σ 1 x with
  | some [v] => some v
  | _ => none
theorem load3 (x : DV) (σ : Store) : load PP 3 x σ = load1 x σ := Eq.trans (by kernel_rfl) rfl
theorem load4 (x : DV) (σ : Store) : load PP 4 x σ = load1 x σ := Eq.trans (by kernel_rfl) rfl
theorem load22 (x : DV) (σ : Store) : load PP 22 x σ = load1 x σ := Eq.trans (by kernel_rfl) rfl
theorem load23 (x : DV) (σ : Store) : load PP 23 x σ = load1 x σ := Eq.trans (by kernel_rfl) rfl
theorem load30 (x : DV) (σ : Store) : load PP 30 x σ = load1 x σ := Eq.trans (by kernel_rfl) rfl
theorem load82 (x : DV) (σ : Store) : load PP 82 x σ = load1 x σ := Eq.trans (by kernel_rfl) rfl
theorem load84 (x : DV) (σ : Store) : load PP 84 x σ = load1 x σ := Eq.trans (by kernel_rfl) rfl
theorem load88 (x : DV) (σ : Store) : load PP 88 x σ = load1 x σ := Eq.trans (by kernel_rfl) rfl
theorem load25 (x : DV) (σ : Store) : load PP 25 x σ = (loadN σ 3 x).map .agg := Eq.trans (by kernel_rfl) rfl
theorem load100 (x : DV) (σ : Store) : load PP 100 x σ = (loadN σ 3 x).map .agg := Eq.trans (by kernel_rfl) rfl
theorem load27 (x : DV) (σ : Store) : load PP 27 x σ = (loadN σ 8 x).map .agg := Eq.trans (by kernel_rfl) rfl
theorem load1_pptr {cs : List PV} {i : Nat} {x : PV} (h : cs[i]? = some x) (σ : Store) : load1 (.pptr cs i) σ = some (.p x) := by
  obtain ⟨h1, h2⟩ := drop_one h
  simp [load1, loadN, h1, h2]
theorem load1_ints {l : List Int} {i : Nat} (h : i < l.length) (σ : Store) : load1 (.pptr (eInts l) i) σ = some (.p (.int .i64 l[i])) :=
  load1_pptr (by simp [eInts, h]) σ
theorem load1_bools {l : List Bool} {i : Nat} (h : i < l.length) (σ : Store) : load1 (.pptr (eBools l) i) σ = some (.p (.bool l[i])) :=
  load1_pptr (by simp [eBools, h]) σ
theorem edgs_get : ∀ (l : List Edg) (i : Nat) (h : i < l.length), (eEdgs l)[i * 3]? = some (pI l[i].f) ∧ (eEdgs l)[i * 3 + 1]? = some (pI l[i].t) ∧ (eEdgs l)[i * 3 + 2]? = some (pI l[i].a)
  | e :: l, 0, h => by simp [eEdgs]
  | e :: l, i + 1, h => by
    have := edgs_get l i (by simpa using h)
    have e3 : (i + 1) * 3 = i * 3 + 1 + 1 + 1 := by omega
    rw [e3]
    simpa [eEdgs] using this
theorem load100_edgs {l : List Edg} {i : Nat} (h : i < l.length) (σ : Store) : (loadN σ 3 (.pptr (eEdgs l) (i * 3))).map DV.agg = some (.agg [.p (pI l[i].f), .p (pI l[i].t), .p (pI l[i].a)]) := by
  have hle : i * 3 + 3 ≤ (eEdgs l).length := by rw [edgs_length]; omega
  obtain ⟨h1, h2, h3⟩ := edgs_get l i h
  have hd : ((eEdgs l).drop (i * 3)).take 3 = [pI l[i].f, pI l[i].t, pI l[i].a] := by
    apply List.ext_getElem?
    intro j
    match j with
    | 0 => simpa using h1
    | 1 => simpa using h2
    | 2 => simpa using h3
    | j + 3 => simp; omega
  simp [loadN, hle, hd]
theorem fa25_0 (x : DV) : fieldAddr PP 25 x 0 = shiftPtr x 0 := Eq.trans (by kernel_rfl) rfl
theorem fa25_1 (x : DV) : fieldAddr PP 25 x 1 = shiftPtr x 1 := Eq.trans (by kernel_rfl) rfl
theorem fa25_2 (x : DV) : fieldAddr PP 25 x 2 = shiftPtr x 2 := Eq.trans (by kernel_rfl) rfl
theorem fa27_0 (x : DV) : fieldAddr PP 27 x 0 = shiftPtr x 0 := Eq.trans (by kernel_rfl) rfl
theorem fa27_1 (x : DV) : fieldAddr PP 27 x 1 = shiftPtr x 3 := Eq.trans (by kernel_rfl) rfl
theorem fa27_2 (x : DV) : fieldAddr PP 27 x 2 = shiftPtr x 6 := Eq.trans (by kernel_rfl) rfl
theorem fa27_3 (x : DV) : fieldAddr PP 27 x 3 = shiftPtr x 7 := Eq.trans (by kernel_rfl) rfl
theorem fa100_0 (x : DV) : fieldAddr PP 100 x 0 = shiftPtr x 0 := Eq.trans (by kernel_rfl) rfl
theorem fa100_1 (x : DV) : fieldAddr PP 100 x 1 = shiftPtr x 1 := Eq.trans (by kernel_rfl) rfl
theorem fa100_2 (x : DV) : fieldAddr PP 100 x 2 = shiftPtr x 2 := Eq.trans (by kernel_rfl) rfl
theorem fa118_0 (x : DV) : fieldAddr PP 118 x 0 = shiftPtr x 0 := Eq.trans (by kernel_rfl) rfl
theorem fa118_1 (x : DV) : fieldAddr PP 118 x 1 = shiftPtr x 8 := Eq.trans (by kernel_rfl) rfl
theorem shift_ptr (r off n : Nat) : shiftPtr (.ptr r off) n = some (.ptr r (off + n)) := Eq.trans rfl rfl
theorem shift_pptr (cs : List PV) (off n : Nat) : shiftPtr (.pptr cs off) n = some (.pptr cs (off + n)) := Eq.trans rfl rfl
theorem nil_ptr (r off : Nat) : nilCheckV (.ptr r off) = some (.ptr r off) := Eq.trans rfl rfl
theorem nil_pptr (cs : List PV) (off : Nat) : nilCheckV (.pptr cs off) = some (.pptr cs off) := Eq.trans rfl rfl
theorem load1_ptr {σ : Store} {r off : Nat} {cs : List DV} {v : DV} (h : σ[r]? = some (.mix cs)) (hv : cs[off]? = some v) : load1 (.ptr r off) σ = some v := by
  obtain ⟨h1, h2⟩ := List.getElem?_eq_some_iff.1 hv
  have h3 : (cs.drop off).take 1 = [v] := by rw [List.drop_eq_getElem_cons h1, h2]; rfl
  have h4 : off + 1 ≤ cs.length := h1
  simp [load1, loadN, h, h3, h4]
theorem loadN_ptr {σ : Store} {r off n : Nat} {cs vs : List DV} (h : σ[r]? = some (.mix cs)) (hv : (cs.drop off).take n = vs) (hn : off + n ≤ cs.length) : loadN σ n (.ptr r off) = some vs := by
  simp [loadN, h, hn, hv]
theorem zero100 : zeroOf PP 100 = some [.p (pI 0), .p (pI 0), .p (pI 0)] := Eq.trans (by kernel_rfl) rfl
theorem zero3 : zeroOf PP 3 = some [.p (pI 0)] := Eq.trans (by kernel_rfl) rfl
theorem zero25 : zeroOf PP 25 = some [.p (pI 0), .p .nilsl, .p .nilsl] := Eq.trans (by kernel_rfl) rfl
theorem zero27 : zeroOf PP 27 = some [.p (pI 0), .p .nilsl, .p .nilsl, .p (pI 0), .p .nilsl, .p .nilsl, .p .nilsl, .p .nilsl] := Eq.trans (by kernel_rfl) rfl
theorem zero82 : zeroOf PP 82 = some [.p .nilptr] := Eq.trans (by kernel_rfl) rfl
theorem zero84 : zeroOf PP 84 = some [.p .nilsl] := Eq.trans (by kernel_rfl) rfl

end Go.D
end
/- Closed calls, worked out by the kernel one by one. -/
section
set_option linter.unusedVariables false
set_option maxRecDepth 100000
namespace Go.D

mutual
def eqPV : PV → PV → Bool
  | .bool a, .bool b => a == b
  | .int k n, .int k' m => k == k' && n == m
  | .nilsl, .nilsl => true
  | .sl a n cs, .sl b m ds => a == b && n == m && eqPVs cs ds
  | _, _ => false
def eqPVs : List PV → List PV → Bool
  | [], [] => true
  | a :: as', b :: bs => eqPV a b && eqPVs as' bs
  | _, _ => false
end
mutual
theorem eqPV_eq : ∀ (a b : PV), eqPV a b = true → a = b
  | .bool a, .bool b, h => by simp [eqPV] at h; rw [h]
  | .int k n, .int k' m, h => by
    simp [eqPV] at h
    rw [h.1, h.2]
  | .nilsl, .nilsl, h => rfl
  | .sl a n cs, .sl b m ds, h => by
    simp [eqPV] at h
    rw [h.1.1, h.1.2, eqPVs_eq cs ds h.2]
  | .bool _, .int .., h | .bool _, .str _, h | .bool _, .nilptr, h | .bool _, .nilsl, h | .bool _, .nilmap, h | .bool _, .nilfn, h | .bool _, .niliface, h | .bool _, .sl .., h => by simp [eqPV] at h
  | .int .., .bool _, h | .int .., .str _, h | .int .., .nilptr, h | .int .., .nilsl, h | .int .., .nilmap, h | .int .., .nilfn, h | .int .., .niliface, h | .int .., .sl .., h => by simp [eqPV] at h
  | .nilsl, .bool _, h | .nilsl, .int .., h | .nilsl, .str _, h | .nilsl, .nilptr, h | .nilsl, .nilmap, h | .nilsl, .nilfn, h | .nilsl, .niliface, h | .nilsl, .sl .., h => by simp [eqPV] at h
  | .sl .., .bool _, h | .sl .., .int .., h | .sl .., .str _, h | .sl .., .nilptr, h | .sl .., .nilsl, h | .sl .., .nilmap, h | .sl .., .nilfn, h | .sl .., .niliface, h => by simp [eqPV] at h
  | .str _, b, h | .nilptr, b, h | .nilmap, b, h | .nilfn, b, h | .niliface, b, h => by cases b <;> simp [eqPV] at h
theorem eqPVs_eq : ∀ (a b : List PV), eqPVs a b = true → a = b
  | [], [], h => rfl
  | a :: as', b :: bs, h => by
    simp [eqPVs] at h
    rw [eqPV_eq a b h.1, eqPVs_eq as' bs h.2]
  | [], _ :: _, h | _ :: _, [], h => by simp [eqPVs] at h
end

/-- Values that are compared: numbers, slices, structs of these, tuples of these. -/
def flatD : DV → Option (List (Nat × PV))
  | .p v => some [(0, v)]
  | .agg cs => some (cs.filterMap fun c => match c with | .p v => some (1, v) | _ => none)
  | _ => none

def eqD1 : DV → DV → Bool
  | .p v, .p w => eqPV v w
  | _, _ => false
def eqD1s : List DV → List DV → Bool
  | [], [] => true
  | a :: as', b :: bs => eqD1 a b && eqD1s as' bs
  | _, _ => false
def eqD2 : DV → DV → Bool
  | .agg cs, .agg ds => eqD1s cs ds
  | a, b => eqD1 a b
def eqD2s : List DV → List DV → Bool
  | [], [] => true
  | a :: as', b :: bs => eqD2 a b && eqD2s as' bs
  | _, _ => false
def eqD : DV → DV → Bool
  | .tuple cs, .tuple ds => eqD2s cs ds
  | a, b => eqD2 a b

theorem eqD1_eq {a b : DV} (h : eqD1 a b = true) : a = b := by
  unfold eqD1 at h
  split at h
  · rw [eqPV_eq _ _ h]
  · exact absurd h (by simp)
theorem eqD1s_eq : ∀ {a b : List DV}, eqD1s a b = true → a = b
  | [], [], h => rfl
  | a :: as', b :: bs, h => by
    simp only [eqD1s, Bool.and_eq_true] at h
    rw [eqD1_eq h.1, eqD1s_eq h.2]
  | [], _ :: _, h => absurd h (by simp [eqD1s])
  | _ :: _, [], h => absurd h (by simp [eqD1s])
theorem eqD2_eq {a b : DV} (h : eqD2 a b = true) : a = b := by
  unfold eqD2 at h
  split at h
  · rw [eqD1s_eq h]
  · exact eqD1_eq h
theorem eqD2s_eq : ∀ {a b : List DV}, eqD2s a b = true → a = b
  | [], [], h => rfl
  | a :: as', b :: bs, h => by
    simp only [eqD2s, Bool.and_eq_true] at h
    rw [eqD2_eq h.1, eqD2s_eq h.2]
  | [], _ :: _, h => absurd h (by simp [eqD2s])
  | _ :: _, [], h => absurd h (by simp [eqD2s])
theorem eqD_eq {a b : DV} (h : eqD a b = true) : a = b := by
  unfold eqD at h
  split at h
  · rw [eqD2s_eq h]
  · exact eqD2_eq h

def runIs (P : Program) (pol : FuncId → FPol) (k : Nat) (f : FuncId) (args : List DV) (r : DV) : Bool :=
  match callK P pol k 0 f args [] with
  | some (v, σ) => match thawAll 0 σ v with
    | some v' => eqD v' r
    | none => false
  | none => false

theorem pureV_run {k : Nat} {f : FuncId} {args : List DV} {r : DV} {σ : Store} (h : runIs PP pol k f args r = true) (h1 : args.map view = args) (h2 : args.all rowFree = true) : pureV CC f args σ = some r := by
  unfold runIs at h
  split at h
  · rename_i v σ' hc
    split at h
    · rename_i v' ht
      exact pureV_free h1 h2 (callL_at hc) (ht.trans (by rw [eqD_eq h]))
    · exact absurd h (by simp)
  · exact absurd h (by simp)

end Go.D
end
/- Equations of functions 53, 56, 75, 87, 68, 67, 91, 88, 82, 70, 83, 51, 64, 78, 81, 46, 49, 90, 76, 48, 41, 15, 22, 54, printed by gen.py. -/
section
set_option linter.unusedVariables false
set_option maxRecDepth 10000
namespace Go.D
open _root_.Go.D.Code (fstC sndC)
open _root_.Go.D.Ann (left right)
noncomputable def c53_0 : Code := bodyOf Go.Proofs.Try.f53
noncomputable def a53_0 : Ann := (pol 53).ann
noncomputable def F53 (G : GuardT) (lo : Nat) (x0 x1 x2 : DV) (σ : Store) : Option (DV × Store) :=
 codeF G PP (pol 53) CC lo c53_0 a53_0 [x0, x1, x2, ud, ud, ud, ud, ud, ud, ud, ud, ud, ud, ud, ud] σ (finR PP Go.Proofs.Try.f53.results.toList)
theorem F53_eq (G : GuardT) (lo : Nat) (x0 x1 x2 : DV) (σ : Store) : F53 G lo x0 x1 x2 σ =
 (binOp PP .geq 3 x0 x1).bind fun x9 =>
 G _ x9 true (some (x0, σ)) σ fun x11 σ1 =>
 G _ x9 true (some (x2, σ1)) σ1 fun x12 σ2 =>
 G _ x9 true ((binOp PP .leq 3 x11 x12).bind fun v => some (v, σ2)) σ2 fun x13 σ3 =>
 (pickV x9 x13 (DV.p (PV.bool false))).bind fun x14 =>
 some (x14, σ3) := by kernel_rfl
theorem F53_call {lo : Nat} {x0 x1 x2 : DV} {σ : Store} {r : DV × Store} (h : F53 guardT lo x0 x1 x2 σ = some r) : CC lo 53 [x0, x1, x2] σ = some r :=
 callL_run Go.Proofs.Try.func53 (by decide +kernel) rfl (by decide +kernel) h
noncomputable def c56_0 : Code := bodyOf Go.Proofs.Try.f56
noncomputable def a56_0 : Ann := (pol 56).ann
noncomputable def F56 (G : GuardT) (lo : Nat) (x0 x1 : DV) (σ : Store) : Option (DV × Store) :=
 codeF G PP (pol 56) CC lo c56_0 a56_0 [x0, x1, ud, ud, ud, ud, ud] σ (finR PP Go.Proofs.Try.f56.results.toList)
theorem F56_eq (G : GuardT) (lo : Nat) (x0 x1 : DV) (σ : Store) : F56 G lo x0 x1 σ =
 condK x0
 (
 some ((DV.p (PV.int IntKind.i64 (0))), σ)
 )
 (
 some (x1, σ)
 ) := by kernel_rfl
theorem F56_call {lo : Nat} {x0 x1 : DV} {σ : Store} {r : DV × Store} (h : F56 guardT lo x0 x1 σ = some r) : CC lo 56 [x0, x1] σ = some r :=
 callL_run Go.Proofs.Try.func56 (by decide +kernel) rfl (by decide +kernel) h
noncomputable def c75_0 : Code := bodyOf Go.Proofs.Try.f75
noncomputable def a75_0 : Ann := (pol 75).ann
noncomputable def F75 (G : GuardT) (lo : Nat) (x0 : DV) (σ : Store) : Option (DV × Store) :=
 codeF G PP (pol 75) CC lo c75_0 a75_0 [x0, ud, ud, ud, ud, ud] σ (finR PP Go.Proofs.Try.f75.results.toList)
theorem F75_eq (G : GuardT) (lo : Nat) (x0 : DV) (σ : Store) : F75 G lo x0 σ =
 (pureFn CC (DV.fn 53 []) [x0, (DV.p (PV.int IntKind.i64 (0))), (DV.p (PV.int IntKind.i64 (10000)))] σ).bind fun x4 =>
 (unOp .not x4).bind fun x5 =>
 some (x5, σ) := by kernel_rfl
theorem F75_call {lo : Nat} {x0 : DV} {σ : Store} {r : DV × Store} (h : F75 guardT lo x0 σ = some r) : CC lo 75 [x0] σ = some r :=
 callL_run Go.Proofs.Try.func75 (by decide +kernel) rfl (by decide +kernel) h
noncomputable def c87_0 : Code := bodyOf Go.Proofs.Try.f87
noncomputable def a87_0 : Ann := (pol 87).ann
noncomputable def F87 (G : GuardT) (lo : Nat) (x0 : DV) (σ : Store) : Option (DV × Store) :=
 codeF G PP (pol 87) CC lo c87_0 a87_0 [x0, ud, ud, ud, ud, ud] σ (finR PP Go.Proofs.Try.f87.results.toList)
theorem F87_eq (G : GuardT) (lo : Nat) (x0 : DV) (σ : Store) : F87 G lo x0 σ =
 (binOp PP .neq 3 x0 x0).bind fun x5 =>
 some (x5, σ) := by kernel_rfl
theorem F87_call {lo : Nat} {x0 : DV} {σ : Store} {r : DV × Store} (h : F87 guardT lo x0 σ = some r) : CC lo 87 [x0] σ = some r :=
 callL_run Go.Proofs.Try.func87 (by decide +kernel) rfl (by decide +kernel) h
noncomputable def c68_0 : Code := bodyOf Go.Proofs.Try.f68
noncomputable def a68_0 : Ann := (pol 68).ann
noncomputable def F68 (G : GuardT) (lo : Nat) (x0 x1 : DV) (σ : Store) : Option (DV × Store) :=
 codeF G PP (pol 68) CC lo c68_0 a68_0 [x0, x1, ud, ud, ud, ud, ud, ud, ud, ud, ud, ud, ud, ud, ud, ud, ud, ud, ud, ud] σ (finR PP Go.Proofs.Try.f68.results.toList)
theorem F68_eq (G : GuardT) (lo : Nat) (x0 x1 : DV) (σ : Store) : F68 G lo x0 x1 σ =
 (pureFn CC (DV.fn 87 []) [x0] σ).bind fun x8 =>
 (pureFn CC (DV.fn 87 []) [x1] σ).bind fun x10 =>
 condK x8
 (
 condK x10
 (
 some ((DV.p (PV.int IntKind.i64 (0))), σ)
 )
 (
 some ((DV.p (PV.int IntKind.i64 (-1))), σ)
 )
 )
 (
 condK x10
 (
 some ((DV.p (PV.int IntKind.i64 (1))), σ)
 )
 (
 (binOp PP .lss 3 x0 x1).bind fun x16 =>
 condK x16
 (
 some ((DV.p (PV.int IntKind.i64 (-1))), σ)
 )
 (
 (binOp PP .gtr 3 x0 x1).bind fun x19 =>
 condK x19
 (
 some ((DV.p (PV.int IntKind.i64 (1))), σ)
 )
 (
 some ((DV.p (PV.int IntKind.i64 (0))), σ)
 )
 )
 )
 ) := by kernel_rfl
theorem F68_call {lo : Nat} {x0 x1 : DV} {σ : Store} {r : DV × Store} (h : F68 guardT lo x0 x1 σ = some r) : CC lo 68 [x0, x1] σ = some r :=
 callL_run Go.Proofs.Try.func68 (by decide +kernel) rfl (by decide +kernel) h
noncomputable def c67_0 : Code := bodyOf Go.Proofs.Try.f67
noncomputable def a67_0 : Ann := (pol 67).ann
noncomputable def a67_7 : Ann := right (left (right (right a67_0)))
noncomputable def a67_8 : Ann := left a67_7
noncomputable def c67_9 : Code := fstC (fstC (sndC (fstC (sndC (sndC c67_0)))))
noncomputable def c67_27 : Code := sndC (sndC (sndC c67_0))
noncomputable def a67_27 : Ann := right (right (right a67_0))
noncomputable def f67_L0 (G : GuardT) (lo : Nat) (x3 x6 x7 x8 : DV) (σ : Store) : Option (DV × Store) :=
 codeF G PP (pol 67) CC lo (.loop c67_9) a67_8 [ud, ud, ud, x3, ud, ud, x6, x7, x8, ud, ud, ud, ud, ud, ud, ud, ud, ud] σ
 (blockC 0 a67_7 (seqC G PP (pol 67) CC lo c67_27 a67_27 (finR PP Go.Proofs.Try.f67.results.toList)))
noncomputable def F67 (G : GuardT) (lo : Nat) (x0 : DV) (σ : Store) : Option (DV × Store) :=
 codeF G PP (pol 67) CC lo c67_0 a67_0 [x0, ud, ud, ud, ud, ud, ud, ud, ud, ud, ud, ud, ud, ud, ud, ud, ud, ud] σ (finR PP Go.Proofs.Try.f67.results.toList)
theorem f67_L0_eq (G : GuardT) (hG : GuardOk G) (lo : Nat) (x3 x6 x7 x8 : DV) (σ : Store) : f67_L0 G lo x3 x6 x7 x8 σ =
 (binOp PP .lss 3 x8 x7).bind fun x9 =>
 condK x9
 (
 (indexAddr PP 22 x6 x8).bind fun x10 =>
 (load PP 3 x10 σ).bind fun x11 =>
 (binOp PP .neq 3 x11 x3).bind fun x14 =>
 condK x14
 (
 some (x11, σ)
 )
 (
 (binOp PP .add 3 x8 (DV.p (PV.int IntKind.i64 (1)))).bind fun x16 =>
 f67_L0 G lo x3 x6 x7 x16 σ
 )
 )
 (
 some (x3, σ)
 ) := (loopF_eq G hG).trans (by kernel_rfl)
theorem F67_eq (G : GuardT) (lo : Nat) (x0 : DV) (σ : Store) : F67 G lo x0 σ =
 (len PP 22 x0 σ).bind fun x7 =>
 f67_L0 G lo (DV.p (PV.int IntKind.i64 (0))) x0 x7 (DV.p (PV.int IntKind.i64 (0))) σ := by kernel_rfl
theorem F67_call {lo : Nat} {x0 : DV} {σ : Store} {r : DV × Store} (h : F67 guardT lo x0 σ = some r) : CC lo 67 [x0] σ = some r :=
 callL_run Go.Proofs.Try.func67 (by decide +kernel) rfl (by decide +kernel) h
noncomputable def c91_0 : Code := bodyOf Go.Proofs.Try.f91
noncomputable def a91_0 : Ann := (pol 91).ann
noncomputable def F91 (G : GuardT) (lo : Nat) (x0 x1 : DV) (σ : Store) : Option (DV × Store) :=
 codeF G PP (pol 91) CC lo c91_0 a91_0 [x0, x1, ud, ud, ud, ud, ud, ud, ud, ud, ud, ud, ud, ud, ud, ud, ud, ud, ud, ud, ud, ud] σ (finR PP Go.Proofs.Try.f91.results.toList)
theorem F91_eq (G : GuardT) (lo : Nat) (x0 x1 : DV) (σ : Store) : F91 G lo x0 x1 σ =
 (boxV x0).bind fun z2 =>
 (boxV x1).bind fun z3 =>
 (fieldAddr PP 100 (DV.ptr (List.length σ) 0) 0).bind fun x5 =>
 (load PP 3 x5 ((σ ++ [Row.mix z2]) ++ [Row.mix z3])).bind fun x6 =>
 (fieldAddr PP 100 (DV.ptr (List.length (σ ++ [Row.mix z2])) 0) 0).bind fun x7 =>
 (load PP 3 x7 ((σ ++ [Row.mix z2]) ++ [Row.mix z3])).bind fun x8 =>
 (pureFn CC (DV.fn 68 []) [x6, x8] ((σ ++ [Row.mix z2]) ++ [Row.mix z3])).bind fun x9 =>
 (fieldAddr PP 100 (DV.ptr (List.length σ) 0) 1).bind fun x10 =>
 (load PP 3 x10 ((σ ++ [Row.mix z2]) ++ [Row.mix z3])).bind fun x11 =>
 (fieldAddr PP 100 (DV.ptr (List.length (σ ++ [Row.mix z2])) 0) 1).bind fun x12 =>
 (load PP 3 x12 ((σ ++ [Row.mix z2]) ++ [Row.mix z3])).bind fun x13 =>
 (pureFn CC (DV.fn 68 []) [x11, x13] ((σ ++ [Row.mix z2]) ++ [Row.mix z3])).bind fun x14 =>
 (fieldAddr PP 100 (DV.ptr (List.length σ) 0) 2).bind fun x15 =>
 (load PP 3 x15 ((σ ++ [Row.mix z2]) ++ [Row.mix z3])).bind fun x16 =>
 (fieldAddr PP 100 (DV.ptr (List.length (σ ++ [Row.mix z2])) 0) 2).bind fun x17 =>
 (load PP 3 x17 ((σ ++ [Row.mix z2]) ++ [Row.mix z3])).bind fun x18 =>
 (pureFn CC (DV.fn 68 []) [x16, x18] ((σ ++ [Row.mix z2]) ++ [Row.mix z3])).bind fun x19 =>
 (buildSlice PP none 22 3 [(0, x9), (1, x14), (2, x19)] ((σ ++ [Row.mix z2]) ++ [Row.mix z3])).bind fun r20_1 =>
 (pureFn CC (DV.fn 67 []) [r20_1.1] r20_1.2).bind fun x21 =>
 some (x21, r20_1.2) := by kernel_rfl
theorem F91_call {lo : Nat} {x0 x1 : DV} {σ : Store} {r : DV × Store} (h : F91 guardT lo x0 x1 σ = some r) : CC lo 91 [x0, x1] σ = some r :=
 callL_run Go.Proofs.Try.func91 (by decide +kernel) rfl (by decide +kernel) h
noncomputable def c88_0 : Code := bodyOf Go.Proofs.Try.f88
noncomputable def a88_0 : Ann := (pol 88).ann
noncomputable def F88 (G : GuardT) (lo : Nat) (x0 : DV) (σ : Store) : Option (DV × Store) :=
 codeF G PP (pol 88) CC lo c88_0 a88_0 [x0, ud, ud, ud] σ (finR PP Go.Proofs.Try.f88.results.toList)
theorem F88_eq (G : GuardT) (lo : Nat) (x0 : DV) (σ : Store) : F88 G lo x0 σ =
 condK x0
 (
 some ((DV.p (PV.int IntKind.i64 (1))), σ)
 )
 (
 some ((DV.p (PV.int IntKind.i64 (0))), σ)
 ) := by kernel_rfl
theorem F88_call {lo : Nat} {x0 : DV} {σ : Store} {r : DV × Store} (h : F88 guardT lo x0 σ = some r) : CC lo 88 [x0] σ = some r :=
 callL_run Go.Proofs.Try.func88 (by decide +kernel) rfl (by decide +kernel) h
noncomputable def c82_0 : Code := bodyOf Go.Proofs.Try.f82
noncomputable def a82_0 : Ann := (pol 82).ann
noncomputable def F82 (G : GuardT) (lo : Nat) (x0 : DV) (σ : Store) : Option (DV × Store) :=
 codeF G PP (pol 82) CC lo c82_0 a82_0 [x0, ud, ud, ud, ud, ud, ud, ud, ud, ud] σ (finR PP Go.Proofs.Try.f82.results.toList)
theorem F82_eq (G : GuardT) (lo : Nat) (x0 : DV) (σ : Store) : F82 G lo x0 σ =
 (boxV x0).bind fun z1 =>
 (fieldAddr PP 100 (DV.ptr (List.length σ) 0) 0).bind fun x3 =>
 (load PP 3 x3 (σ ++ [Row.mix z1])).bind fun x4 =>
 (fieldAddr PP 100 (DV.ptr (List.length σ) 0) 1).bind fun x5 =>
 (load PP 3 x5 (σ ++ [Row.mix z1])).bind fun x6 =>
 (fieldAddr PP 100 (DV.ptr (List.length σ) 0) 2).bind fun x7 =>
 (load PP 3 x7 (σ ++ [Row.mix z1])).bind fun x8 =>
 (buildSlice PP none 22 3 [(0, x4), (1, x6), (2, x8)] (σ ++ [Row.mix z1])).bind fun r9_1 =>
 some (r9_1.1, r9_1.2) := by kernel_rfl
theorem F82_call {lo : Nat} {x0 : DV} {σ : Store} {r : DV × Store} (h : F82 guardT lo x0 σ = some r) : CC lo 82 [x0] σ = some r :=
 callL_run Go.Proofs.Try.func82 (by decide +kernel) rfl (by decide +kernel) h
noncomputable def c70_0 : Code := bodyOf Go.Proofs.Try.f70
noncomputable def a70_0 : Ann := (pol 70).ann
noncomputable def a70_5 : Ann := right (left (right a70_0))
noncomputable def a70_6 : Ann := left a70_5
noncomputable def c70_7 : Code := fstC (fstC (sndC (fstC (sndC c70_0))))
noncomputable def c70_23 : Code := sndC (sndC c70_0)
noncomputable def a70_23 : Ann := right (right a70_0)
noncomputable def f70_L0 (G : GuardT) (lo : Nat) (x0 x1 x5 : DV) (σ : Store) : Option (DV × Store) :=
 codeF G PP (pol 70) CC lo (.loop c70_7) a70_6 [x0, x1, ud, ud, ud, x5, ud, ud, ud, ud, ud, ud, ud, ud, ud, ud, ud, ud, ud, ud, ud, ud, ud, ud, ud, ud, ud, ud, ud, ud, ud, ud, ud, ud, ud, ud, ud, ud, ud, ud, ud, ud, ud, ud, ud, ud, ud, ud, ud, ud, ud, ud] σ
 (blockC 0 a70_5 (seqC G PP (pol 70) CC lo c70_23 a70_23 (finR PP Go.Proofs.Try.f70.results.toList)))
noncomputable def F70 (G : GuardT) (lo : Nat) (x0 x1 : DV) (σ : Store) : Option (DV × Store) :=
 codeF G PP (pol 70) CC lo c70_0 a70_0 [x0, x1, ud, ud, ud, ud, ud, ud, ud, ud, ud, ud, ud, ud, ud, ud, ud, ud, ud, ud, ud, ud, ud, ud, ud, ud, ud, ud, ud, ud, ud, ud, ud, ud, ud, ud, ud, ud, ud, ud, ud, ud, ud, ud, ud, ud, ud, ud, ud, ud, ud, ud] σ (finR PP Go.Proofs.Try.f70.results.toList)
theorem f70_L0_eq (G : GuardT) (hG : GuardOk G) (lo : Nat) (x0 x1 x5 : DV) (σ : Store) : f70_L0 G lo x0 x1 x5 σ =
 (len PP 22 x0 σ).bind fun x8 =>
 (binOp PP .lss 3 x5 x8).bind fun x9 =>
 G _ x9 true (some (x5, σ)) σ fun x11 σ1 =>
 G _ x9 true (some (x1, σ1)) σ1 fun x12 σ2 =>
 G _ x9 true ((len PP 22 x12 σ2).bind fun v => some (v, σ2)) σ2 fun x13 σ3 =>
 G _ x9 true ((binOp PP .lss 3 x11 x13).bind fun v => some (v, σ3)) σ3 fun x14 σ4 =>
 (pickV x9 x14 (DV.p (PV.bool false))).bind fun x15 =>
 condK x15
 (
 (indexAddr PP 22 x0 x5).bind fun x20 =>
 (load PP 3 x20 σ4).bind fun x21 =>
 (indexAddr PP 22 x1 x5).bind fun x24 =>
 (load PP 3 x24 σ4).bind fun x25 =>
 (binOp PP .neq 3 x21 x25).bind fun x26 =>
 condK x26
 (
 (indexAddr PP 22 x0 x5).bind fun x29 =>
 (load PP 3 x29 σ4).bind fun x30 =>
 (indexAddr PP 22 x1 x5).bind fun x33 =>
 (load PP 3 x33 σ4).bind fun x34 =>
 (binOp PP .lss 3 x30 x34).bind fun x35 =>
 (pureFn CC (DV.fn 88 []) [x35] σ4).bind fun x36 =>
 (binOp PP .mul 3 (DV.p (PV.int IntKind.i64 (2))) x36).bind fun x37 =>
 (binOp PP .sub 3 (DV.p (PV.int IntKind.i64 (1))) x37).bind fun x38 =>
 some (x38, σ4)
 )
 (
 (binOp PP .add 3 x5 (DV.p (PV.int IntKind.i64 (1)))).bind fun x17 =>
 f70_L0 G lo x0 x1 x17 σ4
 )
 )
 (
 (len PP 22 x0 σ4).bind fun x40 =>
 (len PP 22 x1 σ4).bind fun x42 =>
 (binOp PP .gtr 3 x40 x42).bind fun x43 =>
 (pureFn CC (DV.fn 88 []) [x43] σ4).bind fun x44 =>
 (len PP 22 x0 σ4).bind fun x46 =>
 (len PP 22 x1 σ4).bind fun x48 =>
 (binOp PP .lss 3 x46 x48).bind fun x49 =>
 (pureFn CC (DV.fn 88 []) [x49] σ4).bind fun x50 =>
 (binOp PP .sub 3 x44 x50).bind fun x51 =>
 some (x51, σ4)
 ) := (loopF_eq G hG).trans (by kernel_rfl)
theorem F70_eq (G : GuardT) (lo : Nat) (x0 x1 : DV) (σ : Store) : F70 G lo x0 x1 σ =
 f70_L0 G lo x0 x1 (DV.p (PV.int IntKind.i64 (0))) σ := by kernel_rfl
theorem F70_call {lo : Nat} {x0 x1 : DV} {σ : Store} {r : DV × Store} (h : F70 guardT lo x0 x1 σ = some r) : CC lo 70 [x0, x1] σ = some r :=
 callL_run Go.Proofs.Try.func70 (by decide +kernel) rfl (by decide +kernel) h
noncomputable def c83_0 : Code := bodyOf Go.Proofs.Try.f83
noncomputable def a83_0 : Ann := (pol 83).ann
noncomputable def a83_5 : Ann := right (left (right a83_0))
noncomputable def a83_6 : Ann := left a83_5
noncomputable def c83_7 : Code := fstC (fstC (sndC (fstC (sndC c83_0))))
noncomputable def c83_25 : Code := sndC (sndC c83_0)
noncomputable def a83_25 : Ann := right (right a83_0)
noncomputable def f83_L0 (G : GuardT) (lo : Nat) (x0 x1 x7 x8 : DV) (σ : Store) : Option (DV × Store) :=
 codeF G PP (pol 83) CC lo (.loop c83_7) a83_6 [x0, x1, ud, ud, ud, ud, ud, x7, x8, ud, ud, ud, ud, ud, ud, ud, ud, ud, ud] σ
 (blockC 0 a83_5 (seqC G PP (pol 83) CC lo c83_25 a83_25 (finR PP Go.Proofs.Try.f83.results.toList)))
noncomputable def F83 (G : GuardT) (lo : Nat) (x0 x1 : DV) (σ : Store) : Option (DV × Store) :=
 codeF G PP (pol 83) CC lo c83_0 a83_0 [x0, x1, ud, ud, ud, ud, ud, ud, ud, ud, ud, ud, ud, ud, ud, ud, ud, ud, ud] σ (finR PP Go.Proofs.Try.f83.results.toList)
theorem f83_L0_eq (G : GuardT) (hG : GuardOk G) (lo : Nat) (x0 x1 x7 x8 : DV) (σ : Store) : f83_L0 G lo x0 x1 x7 x8 σ =
 (binOp PP .lss 3 x8 x7).bind fun x9 =>
 condK x9
 (
 (indexAddr PP 22 x0 x8).bind fun x14 =>
 (load PP 3 x14 σ).bind fun x15 =>
 (pureFn CC x1 [x15] σ).bind fun x16 =>
 condK x16
 (
 some (x8, σ)
 )
 (
 (binOp PP .add 3 x8 (DV.p (PV.int IntKind.i64 (1)))).bind fun x18 =>
 f83_L0 G lo x0 x1 x7 x18 σ
 )
 )
 (
 some ((DV.p (PV.int IntKind.i64 (-1))), σ)
 ) := (loopF_eq G hG).trans (by kernel_rfl)
theorem F83_eq (G : GuardT) (lo : Nat) (x0 x1 : DV) (σ : Store) : F83 G lo x0 x1 σ =
 (len PP 22 x0 σ).bind fun x7 =>
 f83_L0 G lo x0 x1 x7 (DV.p (PV.int IntKind.i64 (0))) σ := by kernel_rfl
theorem F83_call {lo : Nat} {x0 x1 : DV} {σ : Store} {r : DV × Store} (h : F83 guardT lo x0 x1 σ = some r) : CC lo 83 [x0, x1] σ = some r :=
 callL_run Go.Proofs.Try.func83 (by decide +kernel) rfl (by decide +kernel) h
noncomputable def c51_0 : Code := bodyOf Go.Proofs.Try.f51
noncomputable def a51_0 : Ann := (pol 51).ann
noncomputable def F51 (G : GuardT) (lo : Nat) (x0 x1 : DV) (σ : Store) : Option (DV × Store) :=
 codeF G PP (pol 51) CC lo c51_0 a51_0 [x0, x1, ud, ud, ud, ud, ud, ud, ud] σ (finR PP Go.Proofs.Try.f51.results.toList)
theorem F51_eq (G : GuardT) (lo : Nat) (x0 x1 : DV) (σ : Store) : F51 G lo x0 x1 σ =
 (pureFn CC (DV.fn 83 []) [x0, x1] σ).bind fun x7 =>
 (binOp PP .geq 3 x7 (DV.p (PV.int IntKind.i64 (0)))).bind fun x8 =>
 some (x8, σ) := by kernel_rfl
theorem F51_call {lo : Nat} {x0 x1 : DV} {σ : Store} {r : DV × Store} (h : F51 guardT lo x0 x1 σ = some r) : CC lo 51 [x0, x1] σ = some r :=
 callL_run Go.Proofs.Try.func51 (by decide +kernel) rfl (by decide +kernel) h
noncomputable def c64_0 : Code := bodyOf Go.Proofs.Try.f64
noncomputable def a64_0 : Ann := (pol 64).ann
noncomputable def a64_5 : Ann := right (left (right a64_0))
noncomputable def a64_6 : Ann := left a64_5
noncomputable def c64_7 : Code := fstC (fstC (sndC (fstC (sndC c64_0))))
noncomputable def c64_25 : Code := sndC (sndC c64_0)
noncomputable def a64_25 : Ann := right (right a64_0)
noncomputable def f64_L0 (G : GuardT) (lo : Nat) (x0 x1 x7 x8 : DV) (σ : Store) : Option (DV × Store) :=
 codeF G PP (pol 64) CC lo (.loop c64_7) a64_6 [x0, x1, ud, ud, ud, ud, ud, x7, x8, ud, ud, ud, ud, ud, ud, ud, ud, ud, ud] σ
 (blockC 0 a64_5 (seqC G PP (pol 64) CC lo c64_25 a64_25 (finR PP Go.Proofs.Try.f64.results.toList)))
noncomputable def F64 (G : GuardT) (lo : Nat) (x0 x1 : DV) (σ : Store) : Option (DV × Store) :=
 codeF G PP (pol 64) CC lo c64_0 a64_0 [x0, x1, ud, ud, ud, ud, ud, ud, ud, ud, ud, ud, ud, ud, ud, ud, ud, ud, ud] σ (finR PP Go.Proofs.Try.f64.results.toList)
theorem f64_L0_eq (G : GuardT) (hG : GuardOk G) (lo : Nat) (x0 x1 x7 x8 : DV) (σ : Store) : f64_L0 G lo x0 x1 x7 x8 σ =
 (binOp PP .lss 3 x8 x7).bind fun x9 =>
 condK x9
 (
 (indexAddr PP 23 x0 x8).bind fun x14 =>
 (load PP 100 x14 σ).bind fun x15 =>
 (pureFn CC x1 [x15] σ).bind fun x16 =>
 condK x16
 (
 some (x8, σ)
 )
 (
 (binOp PP .add 3 x8 (DV.p (PV.int IntKind.i64 (1)))).bind fun x18 =>
 f64_L0 G lo x0 x1 x7 x18 σ
 )
 )
 (
 some ((DV.p (PV.int IntKind.i64 (-1))), σ)
 ) := (loopF_eq G hG).trans (by kernel_rfl)
theorem F64_eq (G : GuardT) (lo : Nat) (x0 x1 : DV) (σ : Store) : F64 G lo x0 x1 σ =
 (len PP 23 x0 σ).bind fun x7 =>
 f64_L0 G lo x0 x1 x7 (DV.p (PV.int IntKind.i64 (0))) σ := by kernel_rfl
theorem F64_call {lo : Nat} {x0 x1 : DV} {σ : Store} {r : DV × Store} (h : F64 guardT lo x0 x1 σ = some r) : CC lo 64 [x0, x1] σ = some r :=
 callL_run Go.Proofs.Try.func64 (by decide +kernel) rfl (by decide +kernel) h
noncomputable def c78_0 : Code := bodyOf Go.Proofs.Try.f78
noncomputable def a78_0 : Ann := (pol 78).ann
noncomputable def F78 (G : GuardT) (lo : Nat) (x0 x1 : DV) (σ : Store) : Option (DV × Store) :=
 codeF G PP (pol 78) CC lo c78_0 a78_0 [x0, x1, ud, ud, ud, ud, ud, ud, ud] σ (finR PP Go.Proofs.Try.f78.results.toList)
theorem F78_eq (G : GuardT) (lo : Nat) (x0 x1 : DV) (σ : Store) : F78 G lo x0 x1 σ =
 (pureFn CC (DV.fn 64 []) [x0, x1] σ).bind fun x7 =>
 (binOp PP .geq 3 x7 (DV.p (PV.int IntKind.i64 (0)))).bind fun x8 =>
 some (x8, σ) := by kernel_rfl
theorem F78_call {lo : Nat} {x0 x1 : DV} {σ : Store} {r : DV × Store} (h : F78 guardT lo x0 x1 σ = some r) : CC lo 78 [x0, x1] σ = some r :=
 callL_run Go.Proofs.Try.func78 (by decide +kernel) rfl (by decide +kernel) h
noncomputable def c81_0 : Code := bodyOf Go.Proofs.Try.f81
noncomputable def a81_0 : Ann := (pol 81).ann
noncomputable def a81_5 : Ann := right (left (right a81_0))
noncomputable def a81_6 : Ann := left a81_5
noncomputable def c81_7 : Code := fstC (fstC (sndC (fstC (sndC c81_0))))
noncomputable def c81_25 : Code := sndC (sndC c81_0)
noncomputable def a81_25 : Ann := right (right a81_0)
noncomputable def f81_L0 (G : GuardT) (lo : Nat) (x0 x1 x7 x8 : DV) (σ : Store) : Option (DV × Store) :=
 codeF G PP (pol 81) CC lo (.loop c81_7) a81_6 [x0, x1, ud, ud, ud, ud, ud, x7, x8, ud, ud, ud, ud, ud, ud, ud, ud, ud, ud] σ
 (blockC 0 a81_5 (seqC G PP (pol 81) CC lo c81_25 a81_25 (finR PP Go.Proofs.Try.f81.results.toList)))
noncomputable def F81 (G : GuardT) (lo : Nat) (x0 x1 : DV) (σ : Store) : Option (DV × Store) :=
 codeF G PP (pol 81) CC lo c81_0 a81_0 [x0, x1, ud, ud, ud, ud, ud, ud, ud, ud, ud, ud, ud, ud, ud, ud, ud, ud, ud] σ (finR PP Go.Proofs.Try.f81.results.toList)
theorem f81_L0_eq (G : GuardT) (hG : GuardOk G) (lo : Nat) (x0 x1 x7 x8 : DV) (σ : Store) : f81_L0 G lo x0 x1 x7 x8 σ =
 (binOp PP .lss 3 x8 x7).bind fun x9 =>
 condK x9
 (
 (indexAddr PP 22 x0 x8).bind fun x14 =>
 (load PP 3 x14 σ).bind fun x15 =>
 (binOp PP .eql 3 x1 x15).bind fun x16 =>
 condK x16
 (
 some (x8, σ)
 )
 (
 (binOp PP .add 3 x8 (DV.p (PV.int IntKind.i64 (1)))).bind fun x18 =>
 f81_L0 G lo x0 x1 x7 x18 σ
 )
 )
 (
 some ((DV.p (PV.int IntKind.i64 (-1))), σ)
 ) := (loopF_eq G hG).trans (by kernel_rfl)
theorem F81_eq (G : GuardT) (lo : Nat) (x0 x1 : DV) (σ : Store) : F81 G lo x0 x1 σ =
 (len PP 22 x0 σ).bind fun x7 =>
 f81_L0 G lo x0 x1 x7 (DV.p (PV.int IntKind.i64 (0))) σ := by kernel_rfl
theorem F81_call {lo : Nat} {x0 x1 : DV} {σ : Store} {r : DV × Store} (h : F81 guardT lo x0 x1 σ = some r) : CC lo 81 [x0, x1] σ = some r :=
 callL_run Go.Proofs.Try.func81 (by decide +kernel) rfl (by decide +kernel) h
noncomputable def c46_0 : Code := bodyOf Go.Proofs.Try.f46
noncomputable def a46_0 : Ann := (pol 46).ann
noncomputable def F46 (G : GuardT) (lo : Nat) (x0 x1 : DV) (σ : Store) : Option (DV × Store) :=
 codeF G PP (pol 46) CC lo c46_0 a46_0 [x0, x1, ud, ud, ud, ud, ud, ud, ud] σ (finR PP Go.Proofs.Try.f46.results.toList)
theorem F46_eq (G : GuardT) (lo : Nat) (x0 x1 : DV) (σ : Store) : F46 G lo x0 x1 σ =
 (pureFn CC (DV.fn 81 []) [x0, x1] σ).bind fun x7 =>
 (binOp PP .geq 3 x7 (DV.p (PV.int IntKind.i64 (0)))).bind fun x8 =>
 some (x8, σ) := by kernel_rfl
theorem F46_call {lo : Nat} {x0 x1 : DV} {σ : Store} {r : DV × Store} (h : F46 guardT lo x0 x1 σ = some r) : CC lo 46 [x0, x1] σ = some r :=
 callL_run Go.Proofs.Try.func46 (by decide +kernel) rfl (by decide +kernel) h
noncomputable def c49_0 : Code := bodyOf Go.Proofs.Try.f49
noncomputable def a49_0 : Ann := (pol 49).ann
noncomputable def a49_5 : Ann := right (left (right a49_0))
noncomputable def a49_6 : Ann := left a49_5
noncomputable def c49_7 : Code := fstC (fstC (sndC (fstC (sndC c49_0))))
noncomputable def c49_23 : Code := sndC (sndC c49_0)
noncomputable def a49_23 : Ann := right (right a49_0)
noncomputable def f49_L0 (G : GuardT) (lo : Nat) (x0 x1 x5 : DV) (σ : Store) : Option (DV × Store) :=
 codeF G PP (pol 49) CC lo (.loop c49_7) a49_6 [x0, x1, ud, ud, ud, x5, ud, ud, ud, ud, ud, ud, ud, ud, ud, ud, ud, ud] σ
 (blockC 0 a49_5 (seqC G PP (pol 49) CC lo c49_23 a49_23 (finR PP Go.Proofs.Try.f49.results.toList)))
noncomputable def F49 (G : GuardT) (lo : Nat) (x0 x1 : DV) (σ : Store) : Option (DV × Store) :=
 codeF G PP (pol 49) CC lo c49_0 a49_0 [x0, x1, ud, ud, ud, ud, ud, ud, ud, ud, ud, ud, ud, ud, ud, ud, ud, ud] σ (finR PP Go.Proofs.Try.f49.results.toList)
theorem f49_L0_eq (G : GuardT) (hG : GuardOk G) (lo : Nat) (x0 x1 x5 : DV) (σ : Store) : f49_L0 G lo x0 x1 x5 σ =
 (len PP 22 x0 σ).bind fun x8 =>
 (binOp PP .lss 3 x5 x8).bind fun x9 =>
 condK x9
 (
 (indexAddr PP 22 x0 x5).bind fun x14 =>
 (load PP 3 x14 σ).bind fun x15 =>
 (binOp PP .eql 3 x15 x1).bind fun x17 =>
 condK x17
 (
 some ((DV.p (PV.bool true)), σ)
 )
 (
 (binOp PP .add 3 x5 (DV.p (PV.int IntKind.i64 (1)))).bind fun x11 =>
 f49_L0 G lo x0 x1 x11 σ
 )
 )
 (
 some ((DV.p (PV.bool false)), σ)
 ) := (loopF_eq G hG).trans (by kernel_rfl)
theorem F49_eq (G : GuardT) (lo : Nat) (x0 x1 : DV) (σ : Store) : F49 G lo x0 x1 σ =
 f49_L0 G lo x0 x1 (DV.p (PV.int IntKind.i64 (0))) σ := by kernel_rfl
theorem F49_call {lo : Nat} {x0 x1 : DV} {σ : Store} {r : DV × Store} (h : F49 guardT lo x0 x1 σ = some r) : CC lo 49 [x0, x1] σ = some r :=
 callL_run Go.Proofs.Try.func49 (by decide +kernel) rfl (by decide +kernel) h
noncomputable def c90_0 : Code := bodyOf Go.Proofs.Try.f90
noncomputable def a90_0 : Ann := (pol 90).ann
noncomputable def F90 (G : GuardT) (lo : Nat) (x0 x1 : DV) (σ : Store) : Option (DV × Store) :=
 codeF G PP (pol 90) CC lo c90_0 a90_0 [x0, x1, ud, ud, ud, ud, ud, ud, ud] σ (finR PP Go.Proofs.Try.f90.results.toList)
theorem F90_eq (G : GuardT) (lo : Nat) (x0 x1 : DV) (σ : Store) : F90 G lo x0 x1 σ =
 (fieldAddr PP 25 x1 0).bind fun x5 =>
 (load PP 3 x5 σ).bind fun x6 =>
 (binOp PP .sub 3 x6 (DV.p (PV.int IntKind.i64 (1)))).bind fun x7 =>
 (pureFn CC (DV.fn 53 []) [x0, (DV.p (PV.int IntKind.i64 (0))), x7] σ).bind fun x8 =>
 some (x8, σ) := by kernel_rfl
theorem F90_call {lo : Nat} {x0 x1 : DV} {σ : Store} {r : DV × Store} (h : F90 guardT lo x0 x1 σ = some r) : CC lo 90 [x0, x1] σ = some r :=
 callL_run Go.Proofs.Try.func90 (by decide +kernel) rfl (by decide +kernel) h
noncomputable def c76_0 : Code := bodyOf Go.Proofs.Try.f76
noncomputable def a76_0 : Ann := (pol 76).ann
noncomputable def a76_9 : Ann := right (left (right (right (right a76_0))))
noncomputable def a76_10 : Ann := left a76_9
noncomputable def c76_11 : Code := fstC (fstC (sndC (fstC (sndC (sndC (sndC c76_0))))))
noncomputable def c76_23 : Code := sndC (sndC (sndC (sndC c76_0)))
noncomputable def a76_23 : Ann := right (right (right (right a76_0)))
noncomputable def a76_26 : Ann := right (left a76_23)
noncomputable def a76_27 : Ann := left a76_26
noncomputable def c76_28 : Code := fstC (fstC (sndC (fstC c76_23)))
noncomputable def c76_40 : Code := sndC c76_23
noncomputable def a76_40 : Ann := right a76_23
noncomputable def f76_L0 (G : GuardT) (lo : Nat) (x1 x3 x4 x20 x21 x22 : DV) (σ : Store) : Option (DV × Store) :=
 codeF G PP (pol 76) CC lo (.loop c76_11) a76_10 [ud, x1, ud, x3, x4, ud, ud, ud, ud, ud, ud, ud, ud, ud, ud, ud, ud, ud, ud, ud, x20, x21, x22, ud, ud, ud, ud, ud, ud, ud, ud, ud, ud, ud, ud, ud, ud, ud, ud, ud, ud, ud, ud, ud, ud, ud, ud, ud, ud, ud, ud, ud, ud, ud, ud, ud, ud, ud, ud, ud, ud, ud, ud, ud, ud, ud, ud, ud, ud, ud, ud, ud, ud, ud, ud, ud, ud, ud, ud, ud, ud, ud, ud, ud, ud, ud, ud, ud, ud, ud, ud] σ
 (blockC 0 a76_9 (seqC G PP (pol 76) CC lo c76_23 a76_23 (finR PP Go.Proofs.Try.f76.results.toList)))
noncomputable def f76_L1 (G : GuardT) (lo : Nat) (x1 x3 x4 x49 x50 x51 : DV) (σ : Store) : Option (DV × Store) :=
 codeF G PP (pol 76) CC lo (.loop c76_28) a76_27 [ud, x1, ud, x3, x4, ud, ud, ud, ud, ud, ud, ud, ud, ud, ud, ud, ud, ud, ud, ud, ud, ud, ud, ud, ud, ud, ud, ud, ud, ud, ud, ud, ud, ud, ud, ud, ud, ud, ud, ud, ud, ud, ud, ud, ud, ud, ud, ud, ud, x49, x50, x51, ud, ud, ud, ud, ud, ud, ud, ud, ud, ud, ud, ud, ud, ud, ud, ud, ud, ud, ud, ud, ud, ud, ud, ud, ud, ud, ud, ud, ud, ud, ud, ud, ud, ud, ud, ud, ud, ud, ud] σ
 (blockC 2 a76_26 (seqC G PP (pol 76) CC lo c76_40 a76_40 (finR PP Go.Proofs.Try.f76.results.toList)))
noncomputable def F76 (G : GuardT) (lo : Nat) (x0 : DV) (σ : Store) : Option (DV × Store) :=
 codeF G PP (pol 76) CC lo c76_0 a76_0 [x0, ud, ud, ud, ud, ud, ud, ud, ud, ud, ud, ud, ud, ud, ud, ud, ud, ud, ud, ud, ud, ud, ud, ud, ud, ud, ud, ud, ud, ud, ud, ud, ud, ud, ud, ud, ud, ud, ud, ud, ud, ud, ud, ud, ud, ud, ud, ud, ud, ud, ud, ud, ud, ud, ud, ud, ud, ud, ud, ud, ud, ud, ud, ud, ud, ud, ud, ud, ud, ud, ud, ud, ud, ud, ud, ud, ud, ud, ud, ud, ud, ud, ud, ud, ud, ud, ud, ud, ud, ud, ud] σ (finR PP Go.Proofs.Try.f76.results.toList)
theorem f76_L0_eq (G : GuardT) (hG : GuardOk G) (lo : Nat) (x1 x3 x4 x20 x21 x22 : DV) (σ : Store) : f76_L0 G lo x1 x3 x4 x20 x21 x22 σ =
 (binOp PP .lss 3 x22 x21).bind fun x23 =>
 condK x23
 (
 (indexAddr PP 22 x20 x22).bind fun x25 =>
 (load PP 3 x25 σ).bind fun x26 =>
 G _ x4 true (some (x3, σ)) σ fun x29 σ5 =>
 G _ x4 true (some (x26, σ5)) σ5 fun x30 σ6 =>
 G _ x4 true ((pureFn CC x29 [x30] σ6).bind fun v => some (v, σ6)) σ6 fun x31 σ7 =>
 (pickV x4 x31 (DV.p (PV.bool false))).bind fun x32 =>
 G _ x32 true (some (x22, σ7)) σ7 fun x34 σ8 =>
 G _ x32 true ((binOp PP .eql 3 x34 (DV.p (PV.int IntKind.i64 (0)))).bind fun v => some (v, σ8)) σ8 fun x35 σ9 =>
 G _ x32 true (some (x35, σ9)) σ9 fun x36 σ10 =>
 G _ x36 false ((fieldAddr PP 25 x1 1).bind fun v => some (v, σ10)) σ10 fun x37 σ11 =>
 G _ x36 false ((load PP 22 x37 σ11).bind fun v => some (v, σ11)) σ11 fun x38 σ12 =>
 G _ x36 false (some (x22, σ12)) σ12 fun x39 σ13 =>
 G _ x36 false ((binOp PP .sub 3 x39 (DV.p (PV.int IntKind.i64 (1)))).bind fun v => some (v, σ13)) σ13 fun x40 σ14 =>
 G _ x36 false ((indexAddr PP 22 x38 x40).bind fun v => some (v, σ14)) σ14 fun x41 σ15 =>
 G _ x36 false ((load PP 3 x41 σ15).bind fun v => some (v, σ15)) σ15 fun x42 σ16 =>
 G _ x36 false (some (x26, σ16)) σ16 fun x43 σ17 =>
 G _ x36 false ((binOp PP .lss 3 x42 x43).bind fun v => some (v, σ17)) σ17 fun x44 σ18 =>
 G _ x32 true ((pickV x36 (DV.p (PV.bool true)) x44).bind fun v => some (v, σ18)) σ18 fun x45 σ19 =>
 (pickV x32 x45 (DV.p (PV.bool false))).bind fun x46 =>
 (binOp PP .add 3 x22 (DV.p (PV.int IntKind.i64 (1)))).bind fun x47 =>
 f76_L0 G lo x1 x3 x46 x20 x21 x47 σ19
 )
 (
 (fieldAddr PP 25 x1 2).bind fun x48 =>
 (load PP 23 x48 σ).bind fun x49 =>
 (len PP 23 x49 σ).bind fun x50 =>
 f76_L1 G lo x1 x3 x4 x49 x50 (DV.p (PV.int IntKind.i64 (0))) σ
 ) := (loopF_eq G hG).trans (by kernel_rfl)
theorem f76_L1_eq (G : GuardT) (hG : GuardOk G) (lo : Nat) (x1 x3 x4 x49 x50 x51 : DV) (σ : Store) : f76_L1 G lo x1 x3 x4 x49 x50 x51 σ =
 (binOp PP .lss 3 x51 x50).bind fun x52 =>
 condK x52
 (
 (indexAddr PP 23 x49 x51).bind fun x54 =>
 (load PP 100 x54 σ).bind fun x55 =>
 (zeroOf PP 100).bind fun z8 =>
 (store PP lo 100 (DV.ptr (List.length σ) 0) x55 (σ ++ [Row.mix z8])).bind fun σ20 =>
 G _ x4 true (some (x3, σ20)) σ20 fun x58 σ21 =>
 G _ x4 true ((fieldAddr PP 100 (DV.ptr (List.length σ) 0) 0).bind fun v => some (v, σ21)) σ21 fun x59 σ22 =>
 G _ x4 true ((load PP 3 x59 σ22).bind fun v => some (v, σ22)) σ22 fun x60 σ23 =>
 G _ x4 true ((pureFn CC x58 [x60] σ23).bind fun v => some (v, σ23)) σ23 fun x61 σ24 =>
 (pickV x4 x61 (DV.p (PV.bool false))).bind fun x62 =>
 G _ x62 true (some (x3, σ24)) σ24 fun x64 σ25 =>
 G _ x62 true ((fieldAddr PP 100 (DV.ptr (List.length σ) 0) 1).bind fun v => some (v, σ25)) σ25 fun x65 σ26 =>
 G _ x62 true ((load PP 3 x65 σ26).bind fun v => some (v, σ26)) σ26 fun x66 σ27 =>
 G _ x62 true ((pureFn CC x64 [x66] σ27).bind fun v => some (v, σ27)) σ27 fun x67 σ28 =>
 (pickV x62 x67 (DV.p (PV.bool false))).bind fun x68 =>
 G _ x68 true ((fieldAddr PP 100 (DV.ptr (List.length σ) 0) 2).bind fun v => some (v, σ28)) σ28 fun x70 σ29 =>
 G _ x68 true ((load PP 3 x70 σ29).bind fun v => some (v, σ29)) σ29 fun x71 σ30 =>
 G _ x68 true ((pureFn CC (DV.fn 53 []) [x71, (DV.p (PV.int IntKind.i64 (0))), (DV.p (PV.int IntKind.i64 (11)))] σ30).bind fun v => some (v, σ30)) σ30 fun x72 σ31 =>
 (pickV x68 x72 (DV.p (PV.bool false))).bind fun x73 =>
 G _ x73 true (some (x51, σ31)) σ31 fun x75 σ32 =>
 G _ x73 true ((binOp PP .eql 3 x75 (DV.p (PV.int IntKind.i64 (0)))).bind fun v => some (v, σ32)) σ32 fun x76 σ33 =>
 G _ x73 true (some (x76, σ33)) σ33 fun x77 σ34 =>
 G _ x77 false ((fieldAddr PP 25 x1 2).bind fun v => some (v, σ34)) σ34 fun x78 σ35 =>
 G _ x77 false ((load PP 23 x78 σ35).bind fun v => some (v, σ35)) σ35 fun x79 σ36 =>
 G _ x77 false (some (x51, σ36)) σ36 fun x80 σ37 =>
 G _ x77 false ((binOp PP .sub 3 x80 (DV.p (PV.int IntKind.i64 (1)))).bind fun v => some (v, σ37)) σ37 fun x81 σ38 =>
 G _ x77 false ((indexAddr PP 23 x79 x81).bind fun v => some (v, σ38)) σ38 fun x82 σ39 =>
 G _ x77 false ((load PP 100 x82 σ39).bind fun v => some (v, σ39)) σ39 fun x83 σ40 =>
 G _ x77 false ((load PP 100 (DV.ptr (List.length σ) 0) σ40).bind fun v => some (v, σ40)) σ40 fun x84 σ41 =>
 G _ x77 false ((pureFn CC (DV.fn 91 []) [x83, x84] σ41).bind fun v => some (v, σ41)) σ41 fun x85 σ42 =>
 G _ x77 false ((binOp PP .lss 3 x85 (DV.p (PV.int IntKind.i64 (0)))).bind fun v => some (v, σ42)) σ42 fun x86 σ43 =>
 G _ x73 true ((pickV x77 (DV.p (PV.bool true)) x86).bind fun v => some (v, σ43)) σ43 fun x87 σ44 =>
 (pickV x73 x87 (DV.p (PV.bool false))).bind fun x88 =>
 (binOp PP .add 3 x51 (DV.p (PV.int IntKind.i64 (1)))).bind fun x89 =>
 f76_L1 G lo x1 x3 x88 x49 x50 x89 σ44
 )
 (
 some (x4, σ)
 ) := (loopF_eq G hG).trans (by kernel_rfl)
theorem F76_eq (G : GuardT) (lo : Nat) (x0 : DV) (σ : Store) : F76 G lo x0 σ =
 (boxV x0).bind fun z1 =>
 (fieldAddr PP 25 (DV.ptr (List.length σ) 0) 0).bind fun x10 =>
 (load PP 3 x10 (σ ++ [Row.mix z1])).bind fun x11 =>
 (pureFn CC (DV.fn 53 []) [x11, (DV.p (PV.int IntKind.i64 (0))), (DV.p (PV.int IntKind.i64 (400)))] (σ ++ [Row.mix z1])).bind fun x12 =>
 G _ x12 true ((fieldAddr PP 25 (DV.ptr (List.length σ) 0) 2).bind fun v => some (v, (σ ++ [Row.mix z1]))) (σ ++ [Row.mix z1]) fun x14 σ1 =>
 G _ x12 true ((load PP 23 x14 σ1).bind fun v => some (v, σ1)) σ1 fun x15 σ2 =>
 G _ x12 true ((len PP 23 x15 σ2).bind fun v => some (v, σ2)) σ2 fun x16 σ3 =>
 G _ x12 true ((binOp PP .leq 3 x16 (DV.p (PV.int IntKind.i64 (2000)))).bind fun v => some (v, σ3)) σ3 fun x17 σ4 =>
 (pickV x12 x17 (DV.p (PV.bool false))).bind fun x18 =>
 (fieldAddr PP 25 (DV.ptr (List.length σ) 0) 1).bind fun x19 =>
 (load PP 22 x19 σ4).bind fun x20 =>
 (len PP 22 x20 σ4).bind fun x21 =>
 f76_L0 G lo (DV.ptr (List.length σ) 0) (DV.fn 90 [(DV.ptr (List.length σ) 0)]) x18 x20 x21 (DV.p (PV.int IntKind.i64 (0))) σ4 := by kernel_rfl
theorem F76_call {lo : Nat} {x0 : DV} {σ : Store} {r : DV × Store} (h : F76 guardT lo x0 σ = some r) : CC lo 76 [x0] σ = some r :=
 callL_run Go.Proofs.Try.func76 (by decide +kernel) rfl (by decide +kernel) h
noncomputable def c48_0 : Code := bodyOf Go.Proofs.Try.f48
noncomputable def a48_0 : Ann := (pol 48).ann
noncomputable def a48_13 : Ann := right (left (right (right a48_0)))
noncomputable def a48_14 : Ann := left a48_13
noncomputable def c48_15 : Code := fstC (fstC (sndC (fstC (sndC (sndC c48_0)))))
noncomputable def c48_31 : Code := sndC (sndC (sndC c48_0))
noncomputable def a48_31 : Ann := right (right (right a48_0))
noncomputable def a48_34 : Ann := right (left a48_31)
noncomputable def a48_35 : Ann := left a48_34
noncomputable def c48_36 : Code := fstC (fstC (sndC (fstC c48_31)))
noncomputable def c48_54 : Code := sndC c48_31
noncomputable def a48_54 : Ann := right a48_31
noncomputable def f48_L0 (G : GuardT) (lo : Nat) (x1 x3 : DV) (σ : Store) : Option (DV × Store) :=
 codeF G PP (pol 48) CC lo (.loop c48_15) a48_14 [ud, x1, ud, x3, ud, ud, ud, ud, ud, ud, ud, ud, ud, ud, ud, ud, ud, ud, ud, ud, ud, ud, ud, ud, ud, ud, ud, ud, ud, ud, ud, ud, ud, ud, ud, ud, ud, ud, ud, ud, ud, ud, ud, ud, ud, ud, ud, ud, ud, ud, ud, ud, ud, ud, ud, ud, ud, ud, ud, ud, ud, ud, ud, ud, ud, ud, ud, ud, ud, ud, ud, ud, ud, ud, ud, ud, ud, ud, ud, ud, ud, ud, ud, ud, ud, ud, ud, ud, ud, ud, ud, ud, ud, ud, ud, ud, ud, ud, ud, ud, ud, ud, ud, ud, ud, ud, ud, ud, ud, ud] σ
 (blockC 0 a48_13 (seqC G PP (pol 48) CC lo c48_31 a48_31 (finR PP Go.Proofs.Try.f48.results.toList)))
noncomputable def f48_L1 (G : GuardT) (lo : Nat) (x1 x4 : DV) (σ : Store) : Option (DV × Store) :=
 codeF G PP (pol 48) CC lo (.loop c48_36) a48_35 [ud, x1, ud, ud, x4, ud, ud, ud, ud, ud, ud, ud, ud, ud, ud, ud, ud, ud, ud, ud, ud, ud, ud, ud, ud, ud, ud, ud, ud, ud, ud, ud, ud, ud, ud, ud, ud, ud, ud, ud, ud, ud, ud, ud, ud, ud, ud, ud, ud, ud, ud, ud, ud, ud, ud, ud, ud, ud, ud, ud, ud, ud, ud, ud, ud, ud, ud, ud, ud, ud, ud, ud, ud, ud, ud, ud, ud, ud, ud, ud, ud, ud, ud, ud, ud, ud, ud, ud, ud, ud, ud, ud, ud, ud, ud, ud, ud, ud, ud, ud, ud, ud, ud, ud, ud, ud, ud, ud, ud, ud] σ
 (blockC 2 a48_34 (seqC G PP (pol 48) CC lo c48_54 a48_54 (finR PP Go.Proofs.Try.f48.results.toList)))
noncomputable def F48 (G : GuardT) (lo : Nat) (x0 : DV) (σ : Store) : Option (DV × Store) :=
 codeF G PP (pol 48) CC lo c48_0 a48_0 [x0, ud, ud, ud, ud, ud, ud, ud, ud, ud, ud, ud, ud, ud, ud, ud, ud, ud, ud, ud, ud, ud, ud, ud, ud, ud, ud, ud, ud, ud, ud, ud, ud, ud, ud, ud, ud, ud, ud, ud, ud, ud, ud, ud, ud, ud, ud, ud, ud, ud, ud, ud, ud, ud, ud, ud, ud, ud, ud, ud, ud, ud, ud, ud, ud, ud, ud, ud, ud, ud, ud, ud, ud, ud, ud, ud, ud, ud, ud, ud, ud, ud, ud, ud, ud, ud, ud, ud, ud, ud, ud, ud, ud, ud, ud, ud, ud, ud, ud, ud, ud, ud, ud, ud, ud, ud, ud, ud, ud, ud] σ (finR PP Go.Proofs.Try.f48.results.toList)
theorem f48_L0_eq (G : GuardT) (hG : GuardOk G) (lo : Nat) (x1 x3 : DV) (σ : Store) : f48_L0 G lo x1 x3 σ =
 (fieldAddr PP 25 x1 1).bind fun x25 =>
 (load PP 22 x25 σ).bind fun x26 =>
 (len PP 22 x26 σ).bind fun x27 =>
 (binOp PP .lss 3 x3 x27).bind fun x28 =>
 condK x28
 (
 (fieldAddr PP 25 x1 1).bind fun x31 =>
 (load PP 22 x31 σ).bind fun x32 =>
 (indexAddr PP 22 x32 x3).bind fun x34 =>
 (load PP 3 x34 σ).bind fun x35 =>
 (fieldAddr PP 25 x1 0).bind fun x36 =>
 (load PP 3 x36 σ).bind fun x37 =>
 (binOp PP .sub 3 x37 (DV.p (PV.int IntKind.i64 (1)))).bind fun x38 =>
 (pureFn CC (DV.fn 22 []) [x35, (DV.p (PV.int IntKind.i64 (0))), x38] σ).bind fun x39 =>
 (unOp .not x39).bind fun x40 =>
 G _ x40 false (some (x3, σ)) σ fun x42 σ11 =>
 G _ x40 false ((binOp PP .gtr 3 x42 (DV.p (PV.int IntKind.i64 (0)))).bind fun v => some (v, σ11)) σ11 fun x43 σ12 =>
 G _ x40 false (some (x43, σ12)) σ12 fun x44 σ13 =>
 G _ x44 true ((fieldAddr PP 25 x1 1).bind fun v => some (v, σ13)) σ13 fun x45 σ14 =>
 G _ x44 true ((load PP 22 x45 σ14).bind fun v => some (v, σ14)) σ14 fun x46 σ15 =>
 G _ x44 true (some (x3, σ15)) σ15 fun x47 σ16 =>
 G _ x44 true ((indexAddr PP 22 x46 x47).bind fun v => some (v, σ16)) σ16 fun x48 σ17 =>
 G _ x44 true ((load PP 3 x48 σ17).bind fun v => some (v, σ17)) σ17 fun x49 σ18 =>
 G _ x44 true ((fieldAddr PP 25 x1 1).bind fun v => some (v, σ18)) σ18 fun x50 σ19 =>
 G _ x44 true ((load PP 22 x50 σ19).bind fun v => some (v, σ19)) σ19 fun x51 σ20 =>
 G _ x44 true (some (x3, σ20)) σ20 fun x52 σ21 =>
 G _ x44 true ((binOp PP .sub 3 x52 (DV.p (PV.int IntKind.i64 (1)))).bind fun v => some (v, σ21)) σ21 fun x53 σ22 =>
 G _ x44 true ((indexAddr PP 22 x51 x53).bind fun v => some (v, σ22)) σ22 fun x54 σ23 =>
 G _ x44 true ((load PP 3 x54 σ23).bind fun v => some (v, σ23)) σ23 fun x55 σ24 =>
 G _ x44 true ((binOp PP .leq 3 x49 x55).bind fun v => some (v, σ24)) σ24 fun x56 σ25 =>
 G _ x40 false ((pickV x44 x56 (DV.p (PV.bool false))).bind fun v => some (v, σ25)) σ25 fun x57 σ26 =>
 (pickV x40 (DV.p (PV.bool true)) x57).bind fun x58 =>
 condK x58
 (
 some ((DV.p (PV.bool false)), σ26)
 )
 (
 (binOp PP .add 3 x3 (DV.p (PV.int IntKind.i64 (1)))).bind fun x30 =>
 f48_L0 G lo x1 x30 σ26
 )
 )
 (
 f48_L1 G lo x1 (DV.p (PV.int IntKind.i64 (0))) σ
 ) := (loopF_eq G hG).trans (by kernel_rfl)
theorem f48_L1_eq (G : GuardT) (hG : GuardOk G) (lo : Nat) (x1 x4 : DV) (σ : Store) : f48_L1 G lo x1 x4 σ =
 (fieldAddr PP 25 x1 2).bind fun x60 =>
 (load PP 23 x60 σ).bind fun x61 =>
 (len PP 23 x61 σ).bind fun x62 =>
 (binOp PP .lss 3 x4 x62).bind fun x63 =>
 condK x63
 (
 (fieldAddr PP 25 x1 2).bind fun x66 =>
 (load PP 23 x66 σ).bind fun x67 =>
 (indexAddr PP 23 x67 x4).bind fun x69 =>
 (load PP 100 x69 σ).bind fun x70 =>
 (zeroOf PP 100).bind fun z5 =>
 (store PP lo 100 (DV.ptr (List.length σ) 0) x70 (σ ++ [Row.mix z5])).bind fun σ27 =>
 (fieldAddr PP 100 (DV.ptr (List.length σ) 0) 0).bind fun x71 =>
 (load PP 3 x71 σ27).bind fun x72 =>
 (fieldAddr PP 25 x1 0).bind fun x73 =>
 (load PP 3 x73 σ27).bind fun x74 =>
 (binOp PP .sub 3 x74 (DV.p (PV.int IntKind.i64 (1)))).bind fun x75 =>
 (pureFn CC (DV.fn 22 []) [x72, (DV.p (PV.int IntKind.i64 (0))), x75] σ27).bind fun x76 =>
 (unOp .not x76).bind fun x77 =>
 G _ x77 false ((fieldAddr PP 100 (DV.ptr (List.length σ) 0) 1).bind fun v => some (v, σ27)) σ27 fun x79 σ28 =>
 G _ x77 false ((load PP 3 x79 σ28).bind fun v => some (v, σ28)) σ28 fun x80 σ29 =>
 G _ x77 false ((fieldAddr PP 25 x1 0).bind fun v => some (v, σ29)) σ29 fun x81 σ30 =>
 G _ x77 false ((load PP 3 x81 σ30).bind fun v => some (v, σ30)) σ30 fun x82 σ31 =>
 G _ x77 false ((binOp PP .sub 3 x82 (DV.p (PV.int IntKind.i64 (1)))).bind fun v => some (v, σ31)) σ31 fun x83 σ32 =>
 G _ x77 false ((pureFn CC (DV.fn 22 []) [x80, (DV.p (PV.int IntKind.i64 (0))), x83] σ32).bind fun v => some (v, σ32)) σ32 fun x84 σ33 =>
 G _ x77 false ((unOp .not x84).bind fun v => some (v, σ33)) σ33 fun x85 σ34 =>
 (pickV x77 (DV.p (PV.bool true)) x85).bind fun x86 =>
 G _ x86 false ((fieldAddr PP 100 (DV.ptr (List.length σ) 0) 2).bind fun v => some (v, σ34)) σ34 fun x88 σ35 =>
 G _ x86 false ((load PP 3 x88 σ35).bind fun v => some (v, σ35)) σ35 fun x89 σ36 =>
 G _ x86 false ((pureFn CC (DV.fn 22 []) [x89, (DV.p (PV.int IntKind.i64 (0))), (DV.p (PV.int IntKind.i64 (11)))] σ36).bind fun v => some (v, σ36)) σ36 fun x90 σ37 =>
 G _ x86 false ((unOp .not x90).bind fun v => some (v, σ37)) σ37 fun x91 σ38 =>
 (pickV x86 (DV.p (PV.bool true)) x91).bind fun x92 =>
 G _ x92 false (some (x4, σ38)) σ38 fun x94 σ39 =>
 G _ x92 false ((binOp PP .gtr 3 x94 (DV.p (PV.int IntKind.i64 (0)))).bind fun v => some (v, σ39)) σ39 fun x95 σ40 =>
 G _ x92 false (some (x95, σ40)) σ40 fun x96 σ41 =>
 G _ x96 true ((fieldAddr PP 25 x1 2).bind fun v => some (v, σ41)) σ41 fun x97 σ42 =>
 G _ x96 true ((load PP 23 x97 σ42).bind fun v => some (v, σ42)) σ42 fun x98 σ43 =>
 G _ x96 true (some (x4, σ43)) σ43 fun x99 σ44 =>
 G _ x96 true ((binOp PP .sub 3 x99 (DV.p (PV.int IntKind.i64 (1)))).bind fun v => some (v, σ44)) σ44 fun x100 σ45 =>
 G _ x96 true ((indexAddr PP 23 x98 x100).bind fun v => some (v, σ45)) σ45 fun x101 σ46 =>
 G _ x96 true ((load PP 100 x101 σ46).bind fun v => some (v, σ46)) σ46 fun x102 σ47 =>
 G _ x96 true ((pureFn CC (DV.fn 82 []) [x102] σ47).bind fun v => some (v, σ47)) σ47 fun x103 σ48 =>
 G _ x96 true ((load PP 100 (DV.ptr (List.length σ) 0) σ48).bind fun v => some (v, σ48)) σ48 fun x104 σ49 =>
 G _ x96 true ((pureFn CC (DV.fn 82 []) [x104] σ49).bind fun v => some (v, σ49)) σ49 fun x105 σ50 =>
 G _ x96 true ((pureFn CC (DV.fn 70 []) [x103, x105] σ50).bind fun v => some (v, σ50)) σ50 fun x106 σ51 =>
 G _ x96 true ((binOp PP .geq 3 x106 (DV.p (PV.int IntKind.i64 (0)))).bind fun v => some (v, σ51)) σ51 fun x107 σ52 =>
 G _ x92 false ((pickV x96 x107 (DV.p (PV.bool false))).bind fun v => some (v, σ52)) σ52 fun x108 σ53 =>
 (pickV x92 (DV.p (PV.bool true)) x108).bind fun x109 =>
 condK x109
 (
 some ((DV.p (PV.bool false)), σ53)
 )
 (
 (binOp PP .add 3 x4 (DV.p (PV.int IntKind.i64 (1)))).bind fun x65 =>
 f48_L1 G lo x1 x65 σ53
 )
 )
 (
 some ((DV.p (PV.bool true)), σ)
 ) := (loopF_eq G hG).trans (by kernel_rfl)
theorem F48_eq (G : GuardT) (lo : Nat) (x0 : DV) (σ : Store) : F48 G lo x0 σ =
 (boxV x0).bind fun z1 =>
 (fieldAddr PP 25 (DV.ptr (List.length σ) 0) 0).bind fun x6 =>
 (load PP 3 x6 (σ ++ [Row.mix z1])).bind fun x7 =>
 (pureFn CC (DV.fn 22 []) [x7, (DV.p (PV.int IntKind.i64 (0))), (DV.p (PV.int IntKind.i64 (400)))] (σ ++ [Row.mix z1])).bind fun x8 =>
 (unOp .not x8).bind fun x9 =>
 G _ x9 false ((fieldAddr PP 25 (DV.ptr (List.length σ) 0) 1).bind fun v => some (v, (σ ++ [Row.mix z1]))) (σ ++ [Row.mix z1]) fun x11 σ1 =>
 G _ x9 false ((load PP 22 x11 σ1).bind fun v => some (v, σ1)) σ1 fun x12 σ2 =>
 G _ x9 false ((len PP 22 x12 σ2).bind fun v => some (v, σ2)) σ2 fun x13 σ3 =>
 G _ x9 false ((fieldAddr PP 25 (DV.ptr (List.length σ) 0) 0).bind fun v => some (v, σ3)) σ3 fun x14 σ4 =>
 G _ x9 false ((load PP 3 x14 σ4).bind fun v => some (v, σ4)) σ4 fun x15 σ5 =>
 G _ x9 false ((binOp PP .gtr 3 x13 x15).bind fun v => some (v, σ5)) σ5 fun x16 σ6 =>
 (pickV x9 (DV.p (PV.bool true)) x16).bind fun x17 =>
 G _ x17 false ((fieldAddr PP 25 (DV.ptr (List.length σ) 0) 2).bind fun v => some (v, σ6)) σ6 fun x19 σ7 =>
 G _ x17 false ((load PP 23 x19 σ7).bind fun v => some (v, σ7)) σ7 fun x20 σ8 =>
 G _ x17 false ((len PP 23 x20 σ8).bind fun v => some (v, σ8)) σ8 fun x21 σ9 =>
 G _ x17 false ((binOp PP .gtr 3 x21 (DV.p (PV.int IntKind.i64 (2000)))).bind fun v => some (v, σ9)) σ9 fun x22 σ10 =>
 (pickV x17 (DV.p (PV.bool true)) x22).bind fun x23 =>
 condK x23
 (
 some ((DV.p (PV.bool false)), σ10)
 )
 (
 f48_L0 G lo (DV.ptr (List.length σ) 0) (DV.p (PV.int IntKind.i64 (0))) σ10
 ) := by kernel_rfl
theorem F48_call {lo : Nat} {x0 : DV} {σ : Store} {r : DV × Store} (h : F48 guardT lo x0 σ = some r) : CC lo 48 [x0] σ = some r :=
 callL_run Go.Proofs.Try.func48 (by decide +kernel) rfl (by decide +kernel) h
noncomputable def c41_0 : Code := bodyOf Go.Proofs.Try.f41
noncomputable def a41_0 : Ann := (pol 41).ann
noncomputable def F41 (G : GuardT) (lo : Nat) (x0 : DV) (σ : Store) : Option (DV × Store) :=
 codeF G PP (pol 41) CC lo c41_0 a41_0 [x0, ud, ud, ud, ud, ud, ud, ud, ud, ud, ud, ud, ud, ud, ud, ud, ud, ud, ud, ud, ud, ud, ud, ud, ud, ud, ud, ud, ud, ud, ud, ud, ud, ud, ud, ud, ud, ud, ud, ud, ud, ud, ud, ud, ud, ud, ud, ud, ud, ud, ud, ud, ud, ud, ud, ud] σ (finR PP Go.Proofs.Try.f41.results.toList)
theorem F41_eq (G : GuardT) (lo : Nat) (x0 : DV) (σ : Store) : F41 G lo x0 σ =
 (boxV x0).bind fun z1 =>
 (fieldAddr PP 27 (DV.ptr (List.length σ) 0) 0).bind fun x4 =>
 (load PP 25 x4 (σ ++ [Row.mix z1])).bind fun x5 =>
 (pureFn CC (DV.fn 76 []) [x5] (σ ++ [Row.mix z1])).bind fun x6 =>
 G _ x6 true ((fieldAddr PP 27 (DV.ptr (List.length σ) 0) 1).bind fun v => some (v, (σ ++ [Row.mix z1]))) (σ ++ [Row.mix z1]) fun x8 σ1 =>
 G _ x6 true ((load PP 25 x8 σ1).bind fun v => some (v, σ1)) σ1 fun x9 σ2 =>
 G _ x6 true ((pureFn CC (DV.fn 76 []) [x9] σ2).bind fun v => some (v, σ2)) σ2 fun x10 σ3 =>
 (pickV x6 x10 (DV.p (PV.bool false))).bind fun x11 =>
 (pureFn CC (DV.fn 56 []) [x11, (DV.p (PV.int IntKind.i64 (5)))] σ3).bind fun x12 =>
 (fieldAddr PP 27 (DV.ptr (List.length σ) 0) 0).bind fun x13 =>
 (fieldAddr PP 25 x13 0).bind fun x14 =>
 (load PP 3 x14 σ3).bind fun x15 =>
 (binOp PP .leq 3 x15 (DV.p (PV.int IntKind.i64 (40)))).bind fun x16 =>
 G _ x16 true ((fieldAddr PP 27 (DV.ptr (List.length σ) 0) 1).bind fun v => some (v, σ3)) σ3 fun x18 σ4 =>
 G _ x16 true ((fieldAddr PP 25 x18 0).bind fun v => some (v, σ4)) σ4 fun x19 σ5 =>
 G _ x16 true ((load PP 3 x19 σ5).bind fun v => some (v, σ5)) σ5 fun x20 σ6 =>
 G _ x16 true ((binOp PP .leq 3 x20 (DV.p (PV.int IntKind.i64 (40)))).bind fun v => some (v, σ6)) σ6 fun x21 σ7 =>
 (pickV x16 x21 (DV.p (PV.bool false))).bind fun x22 =>
 (pureFn CC (DV.fn 56 []) [x22, (DV.p (PV.int IntKind.i64 (2)))] σ7).bind fun x23 =>
 (fieldAddr PP 27 (DV.ptr (List.length σ) 0) 2).bind fun x24 =>
 (load PP 22 x24 σ7).bind fun x25 =>
 (len PP 22 x25 σ7).bind fun x26 =>
 (fieldAddr PP 27 (DV.ptr (List.length σ) 0) 0).bind fun x27 =>
 (fieldAddr PP 25 x27 0).bind fun x28 =>
 (load PP 3 x28 σ7).bind fun x29 =>
 (binOp PP .eql 3 x26 x29).bind fun x30 =>
 G _ x30 true ((fieldAddr PP 27 (DV.ptr (List.length σ) 0) 3).bind fun v => some (v, σ7)) σ7 fun x32 σ8 =>
 G _ x30 true ((load PP 22 x32 σ8).bind fun v => some (v, σ8)) σ8 fun x33 σ9 =>
 G _ x30 true ((len PP 22 x33 σ9).bind fun v => some (v, σ9)) σ9 fun x34 σ10 =>
 G _ x30 true ((fieldAddr PP 27 (DV.ptr (List.length σ) 0) 1).bind fun v => some (v, σ10)) σ10 fun x35 σ11 =>
 G _ x30 true ((fieldAddr PP 25 x35 0).bind fun v => some (v, σ11)) σ11 fun x36 σ12 =>
 G _ x30 true ((load PP 3 x36 σ12).bind fun v => some (v, σ12)) σ12 fun x37 σ13 =>
 G _ x30 true ((binOp PP .eql 3 x34 x37).bind fun v => some (v, σ13)) σ13 fun x38 σ14 =>
 (pickV x30 x38 (DV.p (PV.bool false))).bind fun x39 =>
 (pureFn CC (DV.fn 56 []) [x39, (DV.p (PV.int IntKind.i64 (6)))] σ14).bind fun x40 =>
 (fieldAddr PP 27 (DV.ptr (List.length σ) 0) 2).bind fun x41 =>
 (load PP 22 x41 σ14).bind fun x42 =>
 (pureFn CC (DV.fn 51 []) [x42, (DV.fn 75 [])] σ14).bind fun x44 =>
 (unOp .not x44).bind fun x45 =>
 G _ x45 true ((fieldAddr PP 27 (DV.ptr (List.length σ) 0) 3).bind fun v => some (v, σ14)) σ14 fun x47 σ15 =>
 G _ x45 true ((load PP 22 x47 σ15).bind fun v => some (v, σ15)) σ15 fun x48 σ16 =>
 G _ x45 true (some ((DV.fn 75 []), σ16)) σ16 fun x49 σ17 =>
 G _ x45 true ((pureFn CC (DV.fn 51 []) [x48, x49] σ17).bind fun v => some (v, σ17)) σ17 fun x50 σ18 =>
 G _ x45 true ((unOp .not x50).bind fun v => some (v, σ18)) σ18 fun x51 σ19 =>
 (pickV x45 x51 (DV.p (PV.bool false))).bind fun x52 =>
 (pureFn CC (DV.fn 56 []) [x52, (DV.p (PV.int IntKind.i64 (3)))] σ19).bind fun x53 =>
 (buildSlice PP none 122 4 [(0, x12), (1, x23), (2, x40), (3, x53)] σ19).bind fun r54_20 =>
 (pureFn CC (DV.fn 54 []) [r54_20.1] r54_20.2).bind fun x55 =>
 some (x55, r54_20.2) := by kernel_rfl
theorem F41_call {lo : Nat} {x0 : DV} {σ : Store} {r : DV × Store} (h : F41 guardT lo x0 σ = some r) : CC lo 41 [x0] σ = some r :=
 callL_run Go.Proofs.Try.func41 (by decide +kernel) rfl (by decide +kernel) h
noncomputable def c15_0 : Code := bodyOf Go.Proofs.Try.f15
noncomputable def a15_0 : Ann := (pol 15).ann
noncomputable def a15_29 : Ann := right (left (right (right (right (right a15_0)))))
noncomputable def a15_30 : Ann := left a15_29
noncomputable def c15_31 : Code := fstC (fstC (sndC (fstC (sndC (sndC (sndC (sndC c15_0)))))))
noncomputable def c15_47 : Code := sndC (sndC (sndC (sndC (sndC c15_0))))
noncomputable def a15_47 : Ann := right (right (right (right (right a15_0))))
noncomputable def a15_50 : Ann := right (left a15_47)
noncomputable def a15_51 : Ann := left a15_50
noncomputable def c15_52 : Code := fstC (fstC (sndC (fstC c15_47)))
noncomputable def c15_68 : Code := sndC c15_47
noncomputable def a15_68 : Ann := right a15_47
noncomputable def f15_L0 (G : GuardT) (lo : Nat) (x1 x3 : DV) (σ : Store) : Option (DV × Store) :=
 codeF G PP (pol 15) CC lo (.loop c15_31) a15_30 [ud, x1, ud, x3, ud, ud, ud, ud, ud, ud, ud, ud, ud, ud, ud, ud, ud, ud, ud, ud, ud, ud, ud, ud, ud, ud, ud, ud, ud, ud, ud, ud, ud, ud, ud, ud, ud, ud, ud, ud, ud, ud, ud, ud, ud, ud, ud, ud, ud, ud, ud, ud, ud, ud, ud, ud, ud, ud, ud, ud, ud, ud, ud, ud, ud, ud, ud, ud, ud] σ
 (blockC 0 a15_29 (seqC G PP (pol 15) CC lo c15_47 a15_47 (finR PP Go.Proofs.Try.f15.results.toList)))
noncomputable def f15_L1 (G : GuardT) (lo : Nat) (x1 x4 : DV) (σ : Store) : Option (DV × Store) :=
 codeF G PP (pol 15) CC lo (.loop c15_52) a15_51 [ud, x1, ud, ud, x4, ud, ud, ud, ud, ud, ud, ud, ud, ud, ud, ud, ud, ud, ud, ud, ud, ud, ud, ud, ud, ud, ud, ud, ud, ud, ud, ud, ud, ud, ud, ud, ud, ud, ud, ud, ud, ud, ud, ud, ud, ud, ud, ud, ud, ud, ud, ud, ud, ud, ud, ud, ud, ud, ud, ud, ud, ud, ud, ud, ud, ud, ud, ud, ud] σ
 (blockC 2 a15_50 (seqC G PP (pol 15) CC lo c15_68 a15_68 (finR PP Go.Proofs.Try.f15.results.toList)))
noncomputable def F15 (G : GuardT) (lo : Nat) (x0 : DV) (σ : Store) : Option (DV × Store) :=
 codeF G PP (pol 15) CC lo c15_0 a15_0 [x0, ud, ud, ud, ud, ud, ud, ud, ud, ud, ud, ud, ud, ud, ud, ud, ud, ud, ud, ud, ud, ud, ud, ud, ud, ud, ud, ud, ud, ud, ud, ud, ud, ud, ud, ud, ud, ud, ud, ud, ud, ud, ud, ud, ud, ud, ud, ud, ud, ud, ud, ud, ud, ud, ud, ud, ud, ud, ud, ud, ud, ud, ud, ud, ud, ud, ud, ud, ud] σ (finR PP Go.Proofs.Try.f15.results.toList)
theorem f15_L0_eq (G : GuardT) (hG : GuardOk G) (lo : Nat) (x1 x3 : DV) (σ : Store) : f15_L0 G lo x1 x3 σ =
 (fieldAddr PP 27 x1 2).bind fun x42 =>
 (load PP 22 x42 σ).bind fun x43 =>
 (len PP 22 x43 σ).bind fun x44 =>
 (binOp PP .lss 3 x3 x44).bind fun x45 =>
 condK x45
 (
 (fieldAddr PP 27 x1 2).bind fun x48 =>
 (load PP 22 x48 σ).bind fun x49 =>
 (indexAddr PP 22 x49 x3).bind fun x51 =>
 (load PP 3 x51 σ).bind fun x52 =>
 (pureFn CC (DV.fn 22 []) [x52, (DV.p (PV.int IntKind.i64 (0))), (DV.p (PV.int IntKind.i64 (10000)))] σ).bind fun x53 =>
 (unOp .not x53).bind fun x54 =>
 condK x54
 (
 some ((DV.p (PV.int IntKind.i64 (3))), σ)
 )
 (
 (binOp PP .add 3 x3 (DV.p (PV.int IntKind.i64 (1)))).bind fun x47 =>
 f15_L0 G lo x1 x47 σ
 )
 )
 (
 f15_L1 G lo x1 (DV.p (PV.int IntKind.i64 (0))) σ
 ) := (loopF_eq G hG).trans (by kernel_rfl)
theorem f15_L1_eq (G : GuardT) (hG : GuardOk G) (lo : Nat) (x1 x4 : DV) (σ : Store) : f15_L1 G lo x1 x4 σ =
 (fieldAddr PP 27 x1 3).bind fun x56 =>
 (load PP 22 x56 σ).bind fun x57 =>
 (len PP 22 x57 σ).bind fun x58 =>
 (binOp PP .lss 3 x4 x58).bind fun x59 =>
 condK x59
 (
 (fieldAddr PP 27 x1 3).bind fun x62 =>
 (load PP 22 x62 σ).bind fun x63 =>
 (indexAddr PP 22 x63 x4).bind fun x65 =>
 (load PP 3 x65 σ).bind fun x66 =>
 (pureFn CC (DV.fn 22 []) [x66, (DV.p (PV.int IntKind.i64 (0))), (DV.p (PV.int IntKind.i64 (10000)))] σ).bind fun x67 =>
 (unOp .not x67).bind fun x68 =>
 condK x68
 (
 some ((DV.p (PV.int IntKind.i64 (3))), σ)
 )
 (
 (binOp PP .add 3 x4 (DV.p (PV.int IntKind.i64 (1)))).bind fun x61 =>
 f15_L1 G lo x1 x61 σ
 )
 )
 (
 some ((DV.p (PV.int IntKind.i64 (0))), σ)
 ) := (loopF_eq G hG).trans (by kernel_rfl)
theorem F15_eq (G : GuardT) (lo : Nat) (x0 : DV) (σ : Store) : F15 G lo x0 σ =
 (boxV x0).bind fun z1 =>
 (fieldAddr PP 27 (DV.ptr (List.length σ) 0) 0).bind fun x5 =>
 (load PP 25 x5 (σ ++ [Row.mix z1])).bind fun x6 =>
 (pureFn CC (DV.fn 48 []) [x6] (σ ++ [Row.mix z1])).bind fun x7 =>
 (unOp .not x7).bind fun x8 =>
 G _ x8 false ((fieldAddr PP 27 (DV.ptr (List.length σ) 0) 1).bind fun v => some (v, (σ ++ [Row.mix z1]))) (σ ++ [Row.mix z1]) fun x10 σ1 =>
 G _ x8 false ((load PP 25 x10 σ1).bind fun v => some (v, σ1)) σ1 fun x11 σ2 =>
 G _ x8 false ((pureFn CC (DV.fn 48 []) [x11] σ2).bind fun v => some (v, σ2)) σ2 fun x12 σ3 =>
 G _ x8 false ((unOp .not x12).bind fun v => some (v, σ3)) σ3 fun x13 σ4 =>
 (pickV x8 (DV.p (PV.bool true)) x13).bind fun x14 =>
 condK x14
 (
 some ((DV.p (PV.int IntKind.i64 (5))), σ4)
 )
 (
 (fieldAddr PP 27 (DV.ptr (List.length σ) 0) 0).bind fun x15 =>
 (fieldAddr PP 25 x15 0).bind fun x16 =>
 (load PP 3 x16 σ4).bind fun x17 =>
 (binOp PP .gtr 3 x17 (DV.p (PV.int IntKind.i64 (40)))).bind fun x18 =>
 G _ x18 false ((fieldAddr PP 27 (DV.ptr (List.length σ) 0) 1).bind fun v => some (v, σ4)) σ4 fun x20 σ5 =>
 G _ x18 false ((fieldAddr PP 25 x20 0).bind fun v => some (v, σ5)) σ5 fun x21 σ6 =>
 G _ x18 false ((load PP 3 x21 σ6).bind fun v => some (v, σ6)) σ6 fun x22 σ7 =>
 G _ x18 false ((binOp PP .gtr 3 x22 (DV.p (PV.int IntKind.i64 (40)))).bind fun v => some (v, σ7)) σ7 fun x23 σ8 =>
 (pickV x18 (DV.p (PV.bool true)) x23).bind fun x24 =>
 condK x24
 (
 some ((DV.p (PV.int IntKind.i64 (2))), σ8)
 )
 (
 (fieldAddr PP 27 (DV.ptr (List.length σ) 0) 2).bind fun x25 =>
 (load PP 22 x25 σ8).bind fun x26 =>
 (len PP 22 x26 σ8).bind fun x27 =>
 (fieldAddr PP 27 (DV.ptr (List.length σ) 0) 0).bind fun x28 =>
 (fieldAddr PP 25 x28 0).bind fun x29 =>
 (load PP 3 x29 σ8).bind fun x30 =>
 (binOp PP .neq 3 x27 x30).bind fun x31 =>
 G _ x31 false ((fieldAddr PP 27 (DV.ptr (List.length σ) 0) 3).bind fun v => some (v, σ8)) σ8 fun x33 σ9 =>
 G _ x31 false ((load PP 22 x33 σ9).bind fun v => some (v, σ9)) σ9 fun x34 σ10 =>
 G _ x31 false ((len PP 22 x34 σ10).bind fun v => some (v, σ10)) σ10 fun x35 σ11 =>
 G _ x31 false ((fieldAddr PP 27 (DV.ptr (List.length σ) 0) 1).bind fun v => some (v, σ11)) σ11 fun x36 σ12 =>
 G _ x31 false ((fieldAddr PP 25 x36 0).bind fun v => some (v, σ12)) σ12 fun x37 σ13 =>
 G _ x31 false ((load PP 3 x37 σ13).bind fun v => some (v, σ13)) σ13 fun x38 σ14 =>
 G _ x31 false ((binOp PP .neq 3 x35 x38).bind fun v => some (v, σ14)) σ14 fun x39 σ15 =>
 (pickV x31 (DV.p (PV.bool true)) x39).bind fun x40 =>
 condK x40
 (
 some ((DV.p (PV.int IntKind.i64 (6))), σ15)
 )
 (
 f15_L0 G lo (DV.ptr (List.length σ) 0) (DV.p (PV.int IntKind.i64 (0))) σ15
 )
 )
 ) := by kernel_rfl
theorem F15_call {lo : Nat} {x0 : DV} {σ : Store} {r : DV × Store} (h : F15 guardT lo x0 σ = some r) : CC lo 15 [x0] σ = some r :=
 callL_run Go.Proofs.Try.func15 (by decide +kernel) rfl (by decide +kernel) h
noncomputable def c22_0 : Code := bodyOf Go.Proofs.Try.f22
noncomputable def a22_0 : Ann := (pol 22).ann
noncomputable def F22 (G : GuardT) (lo : Nat) (x0 x1 x2 : DV) (σ : Store) : Option (DV × Store) :=
 codeF G PP (pol 22) CC lo c22_0 a22_0 [x0, x1, x2, ud, ud, ud, ud, ud, ud, ud, ud, ud, ud, ud, ud] σ (finR PP Go.Proofs.Try.f22.results.toList)
theorem F22_eq (G : GuardT) (lo : Nat) (x0 x1 x2 : DV) (σ : Store) : F22 G lo x0 x1 x2 σ =
 (binOp PP .geq 3 x0 x1).bind fun x9 =>
 G _ x9 true (some (x0, σ)) σ fun x11 σ1 =>
 G _ x9 true (some (x2, σ1)) σ1 fun x12 σ2 =>
 G _ x9 true ((binOp PP .leq 3 x11 x12).bind fun v => some (v, σ2)) σ2 fun x13 σ3 =>
 (pickV x9 x13 (DV.p (PV.bool false))).bind fun x14 =>
 some (x14, σ3) := by kernel_rfl
theorem F22_call {lo : Nat} {x0 x1 x2 : DV} {σ : Store} {r : DV × Store} (h : F22 guardT lo x0 x1 x2 σ = some r) : CC lo 22 [x0, x1, x2] σ = some r :=
 callL_run Go.Proofs.Try.func22 (by decide +kernel) rfl (by decide +kernel) h
noncomputable def c54_0 : Code := bodyOf Go.Proofs.Try.f54
noncomputable def a54_0 : Ann := (pol 54).ann
noncomputable def a54_5 : Ann := right (left (right a54_0))
noncomputable def a54_6 : Ann := left a54_5
noncomputable def c54_7 : Code := fstC (fstC (sndC (fstC (sndC c54_0))))
noncomputable def c54_25 : Code := sndC (sndC c54_0)
noncomputable def a54_25 : Ann := right (right a54_0)
noncomputable def f54_L0 (G : GuardT) (lo : Nat) (x5 x6 x7 : DV) (σ : Store) : Option (DV × Store) :=
 codeF G PP (pol 54) CC lo (.loop c54_7) a54_6 [ud, ud, ud, ud, ud, x5, x6, x7, ud, ud, ud, ud, ud, ud, ud] σ
 (blockC 0 a54_5 (seqC G PP (pol 54) CC lo c54_25 a54_25 (finR PP Go.Proofs.Try.f54.results.toList)))
noncomputable def F54 (G : GuardT) (lo : Nat) (x0 : DV) (σ : Store) : Option (DV × Store) :=
 codeF G PP (pol 54) CC lo c54_0 a54_0 [x0, ud, ud, ud, ud, ud, ud, ud, ud, ud, ud, ud, ud, ud, ud] σ (finR PP Go.Proofs.Try.f54.results.toList)
theorem f54_L0_eq (G : GuardT) (hG : GuardOk G) (lo : Nat) (x5 x6 x7 : DV) (σ : Store) : f54_L0 G lo x5 x6 x7 σ =
 (binOp PP .lss 3 x7 x6).bind fun x8 =>
 condK x8
 (
 (indexAddr PP 122 x5 x7).bind fun x9 =>
 (load PP 30 x9 σ).bind fun x10 =>
 (binOp PP .neq 30 x10 (DV.p (PV.int IntKind.i64 (0)))).bind fun x12 =>
 condK x12
 (
 some (x10, σ)
 )
 (
 (binOp PP .add 3 x7 (DV.p (PV.int IntKind.i64 (1)))).bind fun x14 =>
 f54_L0 G lo x5 x6 x14 σ
 )
 )
 (
 some ((DV.p (PV.int IntKind.i64 (0))), σ)
 ) := (loopF_eq G hG).trans (by kernel_rfl)
theorem F54_eq (G : GuardT) (lo : Nat) (x0 : DV) (σ : Store) : F54 G lo x0 σ =
 (len PP 122 x0 σ).bind fun x6 =>
 f54_L0 G lo x0 x6 (DV.p (PV.int IntKind.i64 (0))) σ := by kernel_rfl
theorem F54_call {lo : Nat} {x0 : DV} {σ : Store} {r : DV × Store} (h : F54 guardT lo x0 σ = some r) : CC lo 54 [x0] σ = some r :=
 callL_run Go.Proofs.Try.func54 (by decide +kernel) rfl (by decide +kernel) h
end Go.D
end
/- Equations of functions 77, 79, 42, 50, 16, 43, 45, 44, 18, 14, 47, 13, 19, 11, 3, printed by gen.py. -/
section
set_option linter.unusedVariables false
set_option maxRecDepth 10000
namespace Go.D
open _root_.Go.D.Code (fstC sndC)
open _root_.Go.D.Ann (left right)
noncomputable def c77_0 : Code := bodyOf Go.Proofs.Try.f77
noncomputable def a77_0 : Ann := (pol 77).ann
noncomputable def F77 (G : GuardT) (lo : Nat) (x0 x1 : DV) (σ : Store) : Option (DV × Store) :=
 codeF G PP (pol 77) CC lo c77_0 a77_0 [x0, x1, ud, ud, ud, ud, ud, ud, ud, ud] σ (finR PP Go.Proofs.Try.f77.results.toList)
theorem F77_eq (G : GuardT) (lo : Nat) (x0 x1 : DV) (σ : Store) : F77 G lo x0 x1 σ =
 (fieldAddr PP 25 x1 0).bind fun x5 =>
 (load PP 3 x5 σ).bind fun x6 =>
 (binOp PP .sub 3 x6 (DV.p (PV.int IntKind.i64 (1)))).bind fun x7 =>
 (pureFn CC (DV.fn 53 []) [x0, (DV.p (PV.int IntKind.i64 (0))), x7] σ).bind fun x8 =>
 (unOp .not x8).bind fun x9 =>
 some (x9, σ) := by kernel_rfl
theorem F77_call {lo : Nat} {x0 x1 : DV} {σ : Store} {r : DV × Store} (h : F77 guardT lo x0 x1 σ = some r) : CC lo 77 [x0, x1] σ = some r :=
 callL_run Go.Proofs.Try.func77 (by decide +kernel) rfl (by decide +kernel) h
noncomputable def c79_0 : Code := bodyOf Go.Proofs.Try.f79
noncomputable def a79_0 : Ann := (pol 79).ann
noncomputable def F79 (G : GuardT) (lo : Nat) (x0 x1 x2 : DV) (σ : Store) : Option (DV × Store) :=
 codeF G PP (pol 79) CC lo c79_0 a79_0 [x0, x1, x2, ud, ud, ud, ud, ud, ud, ud, ud, ud, ud, ud, ud] σ (finR PP Go.Proofs.Try.f79.results.toList)
theorem F79_eq (G : GuardT) (lo : Nat) (x0 x1 x2 : DV) (σ : Store) : F79 G lo x0 x1 x2 σ =
 (boxV x0).bind fun z3 =>
 (fieldAddr PP 100 (DV.ptr (List.length σ) 0) 0).bind fun x5 =>
 (load PP 3 x5 (σ ++ [Row.mix z3])).bind fun x6 =>
 (load PP 3 x1 (σ ++ [Row.mix z3])).bind fun x7 =>
 (binOp PP .eql 3 x6 x7).bind fun x8 =>
 G _ x8 true ((fieldAddr PP 100 (DV.ptr (List.length σ) 0) 1).bind fun v => some (v, (σ ++ [Row.mix z3]))) (σ ++ [Row.mix z3]) fun x10 σ1 =>
 G _ x8 true ((load PP 3 x10 σ1).bind fun v => some (v, σ1)) σ1 fun x11 σ2 =>
 G _ x8 true ((load PP 3 x2 σ2).bind fun v => some (v, σ2)) σ2 fun x12 σ3 =>
 G _ x8 true ((binOp PP .eql 3 x11 x12).bind fun v => some (v, σ3)) σ3 fun x13 σ4 =>
 (pickV x8 x13 (DV.p (PV.bool false))).bind fun x14 =>
 some (x14, σ4) := by kernel_rfl
theorem F79_call {lo : Nat} {x0 x1 x2 : DV} {σ : Store} {r : DV × Store} (h : F79 guardT lo x0 x1 x2 σ = some r) : CC lo 79 [x0, x1, x2] σ = some r :=
 callL_run Go.Proofs.Try.func79 (by decide +kernel) rfl (by decide +kernel) h
noncomputable def c42_0 : Code := bodyOf Go.Proofs.Try.f42
noncomputable def a42_0 : Ann := (pol 42).ann
noncomputable def a42_19 : Ann := right (left (right (right (right (right a42_0)))))
noncomputable def a42_20 : Ann := left a42_19
noncomputable def c42_21 : Code := fstC (fstC (sndC (fstC (sndC (sndC (sndC (sndC c42_0)))))))
noncomputable def c42_35 : Code := sndC (sndC (sndC (sndC (sndC c42_0))))
noncomputable def a42_35 : Ann := right (right (right (right (right a42_0))))
noncomputable def f42_L0 (G : GuardT) (lo : Nat) (x1 x2 x7 x38 x39 : DV) (σ : Store) : Option (DV × Store) :=
 codeF G PP (pol 42) CC lo (.loop c42_21) a42_20 [ud, x1, x2, ud, ud, ud, ud, x7, ud, ud, ud, ud, ud, ud, ud, ud, ud, ud, ud, ud, ud, ud, ud, ud, ud, ud, ud, ud, ud, ud, ud, ud, ud, ud, ud, ud, ud, ud, x38, x39, ud, ud, ud, ud, ud, ud, ud, ud, ud, ud, ud, ud, ud, ud, ud, ud, ud, ud, ud, ud, ud, ud, ud, ud, ud, ud] σ
 (blockC 0 a42_19 (seqC G PP (pol 42) CC lo c42_35 a42_35 (finR PP Go.Proofs.Try.f42.results.toList)))
noncomputable def F42 (G : GuardT) (lo : Nat) (x0 x1 : DV) (σ : Store) : Option (DV × Store) :=
 codeF G PP (pol 42) CC lo c42_0 a42_0 [x0, x1, ud, ud, ud, ud, ud, ud, ud, ud, ud, ud, ud, ud, ud, ud, ud, ud, ud, ud, ud, ud, ud, ud, ud, ud, ud, ud, ud, ud, ud, ud, ud, ud, ud, ud, ud, ud, ud, ud, ud, ud, ud, ud, ud, ud, ud, ud, ud, ud, ud, ud, ud, ud, ud, ud, ud, ud, ud, ud, ud, ud, ud, ud, ud, ud] σ (finR PP Go.Proofs.Try.f42.results.toList)
theorem f42_L0_eq (G : GuardT) (hG : GuardOk G) (lo : Nat) (x1 x2 x7 x38 x39 : DV) (σ : Store) : f42_L0 G lo x1 x2 x7 x38 x39 σ =
 (binOp PP .lss 3 x39 x38).bind fun x40 =>
 condK x40
 (
 (indexAddr PP 22 x1 x39).bind fun x44 =>
 (loadP PP (pol 42) (some 45) 3 x44 σ).bind fun x45 =>
 (binOp PP .add 3 x39 (DV.p (PV.int IntKind.i64 (1)))).bind fun x48 =>
 (indexAddr PP 22 x1 x48).bind fun x49 =>
 (loadP PP (pol 42) (some 50) 3 x49 σ).bind fun x50 =>
 (zeroOf PP 3).bind fun z9 =>
 (zeroOf PP 3).bind fun z10 =>
 (store PP lo 3 (DV.ptr (List.length σ) 0) x45 ((σ ++ [Row.mix z9]) ++ [Row.mix z10])).bind fun σ2 =>
 (store PP lo 3 (DV.ptr (List.length (σ ++ [Row.mix z9])) 0) x50 σ2).bind fun σ3 =>
 G _ x7 true ((load PP 3 (DV.ptr (List.length σ) 0) σ3).bind fun v => some (v, σ3)) σ3 fun x53 σ4 =>
 G _ x7 true ((load PP 3 (DV.ptr (List.length (σ ++ [Row.mix z9])) 0) σ4).bind fun v => some (v, σ4)) σ4 fun x54 σ5 =>
 G _ x7 true ((binOp PP .eql 3 x53 x54).bind fun v => some (v, σ5)) σ5 fun x55 σ6 =>
 G _ x7 true (some (x55, σ6)) σ6 fun x56 σ7 =>
 G _ x56 false ((fieldAddr PP 25 x2 2).bind fun v => some (v, σ7)) σ7 fun x57 σ8 =>
 G _ x56 false ((load PP 23 x57 σ8).bind fun v => some (v, σ8)) σ8 fun x58 σ9 =>
 G _ x56 false (some ((DV.fn 79 [(DV.ptr (List.length σ) 0), (DV.ptr (List.length (σ ++ [Row.mix z9])) 0)]), σ9)) σ9 fun x59 σ10 =>
 G _ x56 false ((pureFn CC (DV.fn 78 []) [x58, x59] σ10).bind fun v => some (v, σ10)) σ10 fun x60 σ11 =>
 G _ x7 true ((pickV x56 (DV.p (PV.bool true)) x60).bind fun v => some (v, σ11)) σ11 fun x61 σ12 =>
 (pickV x7 x61 (DV.p (PV.bool false))).bind fun x62 =>
 (binOp PP .add 3 x39 (DV.p (PV.int IntKind.i64 (1)))).bind fun x63 =>
 f42_L0 G lo x1 x2 x62 x38 x63 σ12
 )
 (
 (pureFn CC (DV.fn 56 []) [x7, (DV.p (PV.int IntKind.i64 (14)))] σ).bind fun x65 =>
 some (x65, σ)
 ) := (loopF_eq G hG).trans (by kernel_rfl)
theorem F42_eq (G : GuardT) (lo : Nat) (x0 x1 : DV) (σ : Store) : F42 G lo x0 x1 σ =
 (boxV x0).bind fun z2 =>
 (pureFn CC (DV.fn 51 []) [x1, (DV.fn 77 [(DV.ptr (List.length σ) 0)])] (σ ++ [Row.mix z2])).bind fun x13 =>
 (len PP 22 x1 (σ ++ [Row.mix z2])).bind fun x15 =>
 (binOp PP .gtr 3 x15 (DV.p (PV.int IntKind.i64 (0)))).bind fun x16 =>
 (pureFn CC (DV.fn 56 []) [x16, (DV.p (PV.int IntKind.i64 (1)))] (σ ++ [Row.mix z2])).bind fun x17 =>
 (len PP 22 x1 (σ ++ [Row.mix z2])).bind fun x19 =>
 (binOp PP .leq 3 x19 (DV.p (PV.int IntKind.i64 (60)))).bind fun x20 =>
 (pureFn CC (DV.fn 56 []) [x20, (DV.p (PV.int IntKind.i64 (2)))] (σ ++ [Row.mix z2])).bind fun x21 =>
 (unOp .not x13).bind fun x23 =>
 (pureFn CC (DV.fn 56 []) [x23, (DV.p (PV.int IntKind.i64 (3)))] (σ ++ [Row.mix z2])).bind fun x24 =>
 (buildSlice PP none 122 3 [(0, x17), (1, x21), (2, x24)] (σ ++ [Row.mix z2])).bind fun r25_1 =>
 (pureFn CC (DV.fn 54 []) [r25_1.1] r25_1.2).bind fun x26 =>
 (binOp PP .neq 30 x26 (DV.p (PV.int IntKind.i64 (0)))).bind fun x28 =>
 condK x28
 (
 some (x26, r25_1.2)
 )
 (
 (fieldAddr PP 25 (DV.ptr (List.length σ) 0) 1).bind fun x30 =>
 (load PP 22 x30 r25_1.2).bind fun x31 =>
 (indexAddr PP 22 x1 (DV.p (PV.int IntKind.i64 (0)))).bind fun x33 =>
 (load PP 3 x33 r25_1.2).bind fun x34 =>
 (pureFn CC (DV.fn 46 []) [x31, x34] r25_1.2).bind fun x35 =>
 (sliceOp PP 22 x1 (some (DV.p (PV.int IntKind.i64 (1)))) none none).bind fun x37 =>
 (len PP 22 x37 r25_1.2).bind fun x38 =>
 f42_L0 G lo x1 (DV.ptr (List.length σ) 0) x35 x38 (DV.p (PV.int IntKind.i64 (0))) r25_1.2
 ) := by kernel_rfl
theorem F42_call {lo : Nat} {x0 x1 : DV} {σ : Store} {r : DV × Store} (h : F42 guardT lo x0 x1 σ = some r) : CC lo 42 [x0, x1] σ = some r :=
 callL_run Go.Proofs.Try.func42 (by decide +kernel) rfl (by decide +kernel) h
noncomputable def c50_0 : Code := bodyOf Go.Proofs.Try.f50
noncomputable def a50_0 : Ann := (pol 50).ann
noncomputable def a50_13 : Ann := right (left (right (right a50_0)))
noncomputable def a50_14 : Ann := left a50_13
noncomputable def c50_15 : Code := fstC (fstC (sndC (fstC (sndC (sndC c50_0)))))
noncomputable def c50_31 : Code := sndC (sndC (sndC c50_0))
noncomputable def a50_31 : Ann := right (right (right a50_0))
noncomputable def f50_L0 (G : GuardT) (lo : Nat) (x1 x2 x3 x7 : DV) (σ : Store) : Option (DV × Store) :=
 codeF G PP (pol 50) CC lo (.loop c50_15) a50_14 [ud, x1, x2, x3, ud, ud, ud, x7, ud, ud, ud, ud, ud, ud, ud, ud, ud, ud, ud, ud, ud, ud, ud, ud, ud, ud, ud, ud, ud, ud, ud, ud, ud, ud, ud, ud] σ
 (blockC 0 a50_13 (seqC G PP (pol 50) CC lo c50_31 a50_31 (finR PP Go.Proofs.Try.f50.results.toList)))
noncomputable def F50 (G : GuardT) (lo : Nat) (x0 x1 x2 : DV) (σ : Store) : Option (DV × Store) :=
 codeF G PP (pol 50) CC lo c50_0 a50_0 [x0, x1, x2, ud, ud, ud, ud, ud, ud, ud, ud, ud, ud, ud, ud, ud, ud, ud, ud, ud, ud, ud, ud, ud, ud, ud, ud, ud, ud, ud, ud, ud, ud, ud, ud, ud] σ (finR PP Go.Proofs.Try.f50.results.toList)
theorem f50_L0_eq (G : GuardT) (hG : GuardOk G) (lo : Nat) (x1 x2 x3 x7 : DV) (σ : Store) : f50_L0 G lo x1 x2 x3 x7 σ =
 (fieldAddr PP 25 x3 2).bind fun x12 =>
 (load PP 23 x12 σ).bind fun x13 =>
 (len PP 23 x13 σ).bind fun x14 =>
 (binOp PP .lss 3 x7 x14).bind fun x15 =>
 condK x15
 (
 (fieldAddr PP 25 x3 2).bind fun x18 =>
 (load PP 23 x18 σ).bind fun x19 =>
 (indexAddr PP 23 x19 x7).bind fun x21 =>
 (fieldAddr PP 100 x21 0).bind fun x22 =>
 (load PP 3 x22 σ).bind fun x23 =>
 (binOp PP .eql 3 x23 x1).bind fun x25 =>
 G _ x25 true ((fieldAddr PP 25 x3 2).bind fun v => some (v, σ)) σ fun x27 σ1 =>
 G _ x25 true ((load PP 23 x27 σ1).bind fun v => some (v, σ1)) σ1 fun x28 σ2 =>
 G _ x25 true (some (x7, σ2)) σ2 fun x29 σ3 =>
 G _ x25 true ((indexAddr PP 23 x28 x29).bind fun v => some (v, σ3)) σ3 fun x30 σ4 =>
 G _ x25 true ((fieldAddr PP 100 x30 1).bind fun v => some (v, σ4)) σ4 fun x31 σ5 =>
 G _ x25 true ((load PP 3 x31 σ5).bind fun v => some (v, σ5)) σ5 fun x32 σ6 =>
 G _ x25 true (some (x2, σ6)) σ6 fun x33 σ7 =>
 G _ x25 true ((binOp PP .eql 3 x32 x33).bind fun v => some (v, σ7)) σ7 fun x34 σ8 =>
 (pickV x25 x34 (DV.p (PV.bool false))).bind fun x35 =>
 condK x35
 (
 some ((DV.p (PV.bool true)), σ8)
 )
 (
 (binOp PP .add 3 x7 (DV.p (PV.int IntKind.i64 (1)))).bind fun x17 =>
 f50_L0 G lo x1 x2 x3 x17 σ8
 )
 )
 (
 some ((DV.p (PV.bool false)), σ)
 ) := (loopF_eq G hG).trans (by kernel_rfl)
theorem F50_eq (G : GuardT) (lo : Nat) (x0 x1 x2 : DV) (σ : Store) : F50 G lo x0 x1 x2 σ =
 (boxV x0).bind fun z3 =>
 (binOp PP .eql 3 x1 x2).bind fun x10 =>
 condK x10
 (
 some ((DV.p (PV.bool true)), (σ ++ [Row.mix z3]))
 )
 (
 f50_L0 G lo x1 x2 (DV.ptr (List.length σ) 0) (DV.p (PV.int IntKind.i64 (0))) (σ ++ [Row.mix z3])
 ) := by kernel_rfl
theorem F50_call {lo : Nat} {x0 x1 x2 : DV} {σ : Store} {r : DV × Store} (h : F50 guardT lo x0 x1 x2 σ = some r) : CC lo 50 [x0, x1, x2] σ = some r :=
 callL_run Go.Proofs.Try.func50 (by decide +kernel) rfl (by decide +kernel) h
noncomputable def c16_0 : Code := bodyOf Go.Proofs.Try.f16
noncomputable def a16_0 : Ann := (pol 16).ann
noncomputable def a16_21 : Ann := right (left (right (right (right a16_0))))
noncomputable def a16_22 : Ann := left a16_21
noncomputable def c16_23 : Code := fstC (fstC (sndC (fstC (sndC (sndC (sndC c16_0))))))
noncomputable def c16_39 : Code := sndC (sndC (sndC (sndC c16_0)))
noncomputable def a16_39 : Ann := right (right (right (right a16_0)))
noncomputable def a16_50 : Ann := right (left (right a16_39))
noncomputable def a16_51 : Ann := left a16_50
noncomputable def c16_52 : Code := fstC (fstC (sndC (fstC (sndC c16_39))))
noncomputable def c16_68 : Code := sndC (sndC c16_39)
noncomputable def a16_68 : Ann := right (right a16_39)
noncomputable def f16_L0 (G : GuardT) (lo : Nat) (x1 x2 x5 : DV) (σ : Store) : Option (DV × Store) :=
 codeF G PP (pol 16) CC lo (.loop c16_23) a16_22 [ud, x1, x2, ud, ud, x5, ud, ud, ud, ud, ud, ud, ud, ud, ud, ud, ud, ud, ud, ud, ud, ud, ud, ud, ud, ud, ud, ud, ud, ud, ud, ud, ud, ud, ud, ud, ud, ud, ud, ud, ud, ud, ud, ud, ud, ud, ud, ud, ud, ud, ud, ud, ud, ud, ud, ud] σ
 (blockC 0 a16_21 (seqC G PP (pol 16) CC lo c16_39 a16_39 (finR PP Go.Proofs.Try.f16.results.toList)))
noncomputable def f16_L1 (G : GuardT) (lo : Nat) (x1 x2 x6 : DV) (σ : Store) : Option (DV × Store) :=
 codeF G PP (pol 16) CC lo (.loop c16_52) a16_51 [ud, x1, x2, ud, ud, ud, x6, ud, ud, ud, ud, ud, ud, ud, ud, ud, ud, ud, ud, ud, ud, ud, ud, ud, ud, ud, ud, ud, ud, ud, ud, ud, ud, ud, ud, ud, ud, ud, ud, ud, ud, ud, ud, ud, ud, ud, ud, ud, ud, ud, ud, ud, ud, ud, ud, ud] σ
 (blockC 2 a16_50 (seqC G PP (pol 16) CC lo c16_68 a16_68 (finR PP Go.Proofs.Try.f16.results.toList)))
noncomputable def F16 (G : GuardT) (lo : Nat) (x0 x1 : DV) (σ : Store) : Option (DV × Store) :=
 codeF G PP (pol 16) CC lo c16_0 a16_0 [x0, x1, ud, ud, ud, ud, ud, ud, ud, ud, ud, ud, ud, ud, ud, ud, ud, ud, ud, ud, ud, ud, ud, ud, ud, ud, ud, ud, ud, ud, ud, ud, ud, ud, ud, ud, ud, ud, ud, ud, ud, ud, ud, ud, ud, ud, ud, ud, ud, ud, ud, ud, ud, ud, ud, ud] σ (finR PP Go.Proofs.Try.f16.results.toList)
theorem f16_L0_eq (G : GuardT) (hG : GuardOk G) (lo : Nat) (x1 x2 x5 : DV) (σ : Store) : f16_L0 G lo x1 x2 x5 σ =
 (len PP 22 x1 σ).bind fun x15 =>
 (binOp PP .lss 3 x5 x15).bind fun x16 =>
 condK x16
 (
 (indexAddr PP 22 x1 x5).bind fun x21 =>
 (load PP 3 x21 σ).bind fun x22 =>
 (fieldAddr PP 27 x2 0).bind fun x23 =>
 (fieldAddr PP 25 x23 0).bind fun x24 =>
 (load PP 3 x24 σ).bind fun x25 =>
 (binOp PP .sub 3 x25 (DV.p (PV.int IntKind.i64 (1)))).bind fun x26 =>
 (pureFn CC (DV.fn 22 []) [x22, (DV.p (PV.int IntKind.i64 (0))), x26] σ).bind fun x27 =>
 (unOp .not x27).bind fun x28 =>
 condK x28
 (
 some ((DV.p (PV.int IntKind.i64 (3))), σ)
 )
 (
 (binOp PP .add 3 x5 (DV.p (PV.int IntKind.i64 (1)))).bind fun x18 =>
 f16_L0 G lo x1 x2 x18 σ
 )
 )
 (
 (fieldAddr PP 27 x2 0).bind fun x29 =>
 (fieldAddr PP 25 x29 1).bind fun x30 =>
 (load PP 22 x30 σ).bind fun x31 =>
 (indexAddr PP 22 x1 (DV.p (PV.int IntKind.i64 (0)))).bind fun x33 =>
 (load PP 3 x33 σ).bind fun x34 =>
 (pureFn CC (DV.fn 49 []) [x31, x34] σ).bind fun x35 =>
 (unOp .not x35).bind fun x36 =>
 condK x36
 (
 some ((DV.p (PV.int IntKind.i64 (14))), σ)
 )
 (
 f16_L1 G lo x1 x2 (DV.p (PV.int IntKind.i64 (1))) σ
 )
 ) := (loopF_eq G hG).trans (by kernel_rfl)
theorem f16_L1_eq (G : GuardT) (hG : GuardOk G) (lo : Nat) (x1 x2 x6 : DV) (σ : Store) : f16_L1 G lo x1 x2 x6 σ =
 (len PP 22 x1 σ).bind fun x39 =>
 (binOp PP .lss 3 x6 x39).bind fun x40 =>
 condK x40
 (
 (fieldAddr PP 27 x2 0).bind fun x43 =>
 (load PP 25 x43 σ).bind fun x44 =>
 (binOp PP .sub 3 x6 (DV.p (PV.int IntKind.i64 (1)))).bind fun x47 =>
 (indexAddr PP 22 x1 x47).bind fun x48 =>
 (load PP 3 x48 σ).bind fun x49 =>
 (indexAddr PP 22 x1 x6).bind fun x52 =>
 (load PP 3 x52 σ).bind fun x53 =>
 (pureFn CC (DV.fn 50 []) [x44, x49, x53] σ).bind fun x54 =>
 (unOp .not x54).bind fun x55 =>
 condK x55
 (
 some ((DV.p (PV.int IntKind.i64 (14))), σ)
 )
 (
 (binOp PP .add 3 x6 (DV.p (PV.int IntKind.i64 (1)))).bind fun x42 =>
 f16_L1 G lo x1 x2 x42 σ
 )
 )
 (
 some ((DV.p (PV.int IntKind.i64 (0))), σ)
 ) := (loopF_eq G hG).trans (by kernel_rfl)
theorem F16_eq (G : GuardT) (lo : Nat) (x0 x1 : DV) (σ : Store) : F16 G lo x0 x1 σ =
 (boxV x0).bind fun z2 =>
 (len PP 22 x1 (σ ++ [Row.mix z2])).bind fun x8 =>
 (binOp PP .eql 3 x8 (DV.p (PV.int IntKind.i64 (0)))).bind fun x9 =>
 condK x9
 (
 some ((DV.p (PV.int IntKind.i64 (1))), (σ ++ [Row.mix z2]))
 )
 (
 (len PP 22 x1 (σ ++ [Row.mix z2])).bind fun x11 =>
 (binOp PP .gtr 3 x11 (DV.p (PV.int IntKind.i64 (60)))).bind fun x12 =>
 condK x12
 (
 some ((DV.p (PV.int IntKind.i64 (2))), (σ ++ [Row.mix z2]))
 )
 (
 f16_L0 G lo x1 (DV.ptr (List.length σ) 0) (DV.p (PV.int IntKind.i64 (0))) (σ ++ [Row.mix z2])
 )
 ) := by kernel_rfl
theorem F16_call {lo : Nat} {x0 x1 : DV} {σ : Store} {r : DV × Store} (h : F16 guardT lo x0 x1 σ = some r) : CC lo 16 [x0, x1] σ = some r :=
 callL_run Go.Proofs.Try.func16 (by decide +kernel) rfl (by decide +kernel) h
noncomputable def c43_0 : Code := bodyOf Go.Proofs.Try.f43
noncomputable def a43_0 : Ann := (pol 43).ann
noncomputable def a43_7 : Ann := right (left (right (right a43_0)))
noncomputable def a43_8 : Ann := left a43_7
noncomputable def c43_9 : Code := fstC (fstC (sndC (fstC (sndC (sndC c43_0)))))
noncomputable def c43_19 : Code := sndC (sndC (sndC c43_0))
noncomputable def a43_19 : Ann := right (right (right a43_0))
noncomputable def a43_22 : Ann := right (left a43_19)
noncomputable def a43_23 : Ann := left a43_22
noncomputable def c43_24 : Code := fstC (fstC (sndC (fstC c43_19)))
noncomputable def c43_36 : Code := sndC c43_19
noncomputable def a43_36 : Ann := right a43_19
noncomputable def f43_L0 (G : GuardT) (lo : Nat) (x1 x3 x11 x12 : DV) (σ : Store) : Option (DV × Store) :=
 codeF G PP (pol 43) CC lo (.loop c43_9) a43_8 [ud, x1, ud, x3, ud, ud, ud, ud, ud, ud, ud, x11, x12, ud, ud, ud, ud, ud, ud, ud, ud, ud, ud, ud, ud, ud, ud, ud, ud, ud, ud, ud, ud, ud, ud, ud, ud, ud, ud, ud, ud, ud, ud, ud, ud, ud, ud, ud, ud] σ
 (blockC 0 a43_7 (seqC G PP (pol 43) CC lo c43_19 a43_19 (finR PP Go.Proofs.Try.f43.results.toList)))
noncomputable def f43_L1 (G : GuardT) (lo : Nat) (x3 x30 x31 x32 : DV) (σ : Store) : Option (DV × Store) :=
 codeF G PP (pol 43) CC lo (.loop c43_24) a43_23 [ud, ud, ud, x3, ud, ud, ud, ud, ud, ud, ud, ud, ud, ud, ud, ud, ud, ud, ud, ud, ud, ud, ud, ud, ud, ud, ud, ud, ud, ud, x30, x31, x32, ud, ud, ud, ud, ud, ud, ud, ud, ud, ud, ud, ud, ud, ud, ud, ud] σ
 (blockC 2 a43_22 (seqC G PP (pol 43) CC lo c43_36 a43_36 (finR PP Go.Proofs.Try.f43.results.toList)))
noncomputable def F43 (G : GuardT) (lo : Nat) (x0 : DV) (σ : Store) : Option (DV × Store) :=
 codeF G PP (pol 43) CC lo c43_0 a43_0 [x0, ud, ud, ud, ud, ud, ud, ud, ud, ud, ud, ud, ud, ud, ud, ud, ud, ud, ud, ud, ud, ud, ud, ud, ud, ud, ud, ud, ud, ud, ud, ud, ud, ud, ud, ud, ud, ud, ud, ud, ud, ud, ud, ud, ud, ud, ud, ud, ud] σ (finR PP Go.Proofs.Try.f43.results.toList)
theorem f43_L0_eq (G : GuardT) (hG : GuardOk G) (lo : Nat) (x1 x3 x11 x12 : DV) (σ : Store) : f43_L0 G lo x1 x3 x11 x12 σ =
 (binOp PP .lss 3 x12 x11).bind fun x13 =>
 condK x13
 (
 (nilCheckV x3).bind fun x16 =>
 (fieldAddr PP 118 x16 1).bind fun x17 =>
 (load PP 84 x17 σ).bind fun x18 =>
 (fieldAddr PP 27 x1 1).bind fun x19 =>
 (fieldAddr PP 25 x19 0).bind fun x20 =>
 (load PP 3 x20 σ).bind fun x21 =>
 (makeSlice PP false 88 x21 x21 σ).bind fun r22_1 =>
 (buildSlice PP (some true) 84 1 [(0, r22_1.1)] r22_1.2).bind fun r23_2 =>
 (append PP lo true 84 84 x18 r23_2.1 r23_2.2).bind fun r24_3 =>
 (nilCheckV x3).bind fun x25 =>
 (fieldAddr PP 118 x25 1).bind fun x26 =>
 (store PP lo 84 x26 r24_3.1 r24_3.2).bind fun σ4 =>
 (binOp PP .add 3 x12 (DV.p (PV.int IntKind.i64 (1)))).bind fun x27 =>
 f43_L0 G lo x1 x3 x11 x27 σ4
 )
 (
 (fieldAddr PP 27 x1 1).bind fun x28 =>
 (fieldAddr PP 25 x28 2).bind fun x29 =>
 (load PP 23 x29 σ).bind fun x30 =>
 (len PP 23 x30 σ).bind fun x31 =>
 f43_L1 G lo x3 x30 x31 (DV.p (PV.int IntKind.i64 (0))) σ
 ) := (loopF_eq G hG).trans (by kernel_rfl)
theorem f43_L1_eq (G : GuardT) (hG : GuardOk G) (lo : Nat) (x3 x30 x31 x32 : DV) (σ : Store) : f43_L1 G lo x3 x30 x31 x32 σ =
 (binOp PP .lss 3 x32 x31).bind fun x33 =>
 condK x33
 (
 (indexAddr PP 23 x30 x32).bind fun x34 =>
 (load PP 100 x34 σ).bind fun x35 =>
 (zeroOf PP 100).bind fun z5 =>
 (store PP lo 100 (DV.ptr (List.length σ) 0) x35 (σ ++ [Row.mix z5])).bind fun σ5 =>
 (nilCheckV x3).bind fun x37 =>
 (fieldAddr PP 118 x37 1).bind fun x38 =>
 (load PP 84 x38 σ5).bind fun x39 =>
 (fieldAddr PP 100 (DV.ptr (List.length σ) 0) 0).bind fun x40 =>
 (load PP 3 x40 σ5).bind fun x41 =>
 (indexAddr PP 84 x39 x41).bind fun x42 =>
 (load PP 88 x42 σ5).bind fun x43 =>
 (fieldAddr PP 100 (DV.ptr (List.length σ) 0) 1).bind fun x44 =>
 (load PP 3 x44 σ5).bind fun x45 =>
 (indexAddr PP 88 x43 x45).bind fun x46 =>
 (store PP lo 4 x46 (DV.p (PV.bool true)) σ5).bind fun σ6 =>
 (binOp PP .add 3 x32 (DV.p (PV.int IntKind.i64 (1)))).bind fun x47 =>
 f43_L1 G lo x3 x30 x31 x47 σ6
 )
 (
 some (x3, σ)
 ) := (loopF_eq G hG).trans (by kernel_rfl)
theorem F43_eq (G : GuardT) (lo : Nat) (x0 : DV) (σ : Store) : F43 G lo x0 σ =
 (boxV x0).bind fun z1 =>
 (load PP 27 (DV.ptr (List.length σ) 0) (σ ++ [Row.mix z1])).bind fun x6 =>
 (build PP 118 [(0, x6)]).bind fun x7 =>
 (boxV x7).bind fun z8 =>
 (fieldAddr PP 27 (DV.ptr (List.length σ) 0) 1).bind fun x9 =>
 (fieldAddr PP 25 x9 0).bind fun x10 =>
 (load PP 3 x10 ((σ ++ [Row.mix z1]) ++ [Row.mix z8])).bind fun x11 =>
 f43_L0 G lo (DV.ptr (List.length σ) 0) (DV.ptr (List.length (σ ++ [Row.mix z1])) 0) x11 (DV.p (PV.int IntKind.i64 (0))) ((σ ++ [Row.mix z1]) ++ [Row.mix z8]) := by kernel_rfl
theorem F43_call {lo : Nat} {x0 : DV} {σ : Store} {r : DV × Store} (h : F43 guardT lo x0 σ = some r) : CC lo 43 [x0] σ = some r :=
 callL_run Go.Proofs.Try.func43 (by decide +kernel) rfl (by decide +kernel) h
noncomputable def c45_0 : Code := bodyOf Go.Proofs.Try.f45
noncomputable def a45_0 : Ann := (pol 45).ann
noncomputable def F45 (G : GuardT) (lo : Nat) (x0 x1 x2 : DV) (σ : Store) : Option (DV × Store) :=
 codeF G PP (pol 45) CC lo c45_0 a45_0 [x0, x1, x2, ud, ud, ud, ud, ud, ud, ud, ud, ud, ud, ud, ud, ud, ud, ud, ud, ud, ud, ud] σ (finR PP Go.Proofs.Try.f45.results.toList)
theorem F45_eq (G : GuardT) (lo : Nat) (x0 x1 x2 : DV) (σ : Store) : F45 G lo x0 x1 x2 σ =
 (binOp PP .eql 3 x1 x2).bind fun x9 =>
 G _ x9 false (some (x0, σ)) σ fun x11 σ1 =>
 G _ x9 false ((nilCheckV x11).bind fun v => some (v, σ1)) σ1 fun x12 σ2 =>
 G _ x9 false ((fieldAddr PP 118 x12 1).bind fun v => some (v, σ2)) σ2 fun x13 σ3 =>
 G _ x9 false ((load PP 84 x13 σ3).bind fun v => some (v, σ3)) σ3 fun x14 σ4 =>
 G _ x9 false (some (x1, σ4)) σ4 fun x15 σ5 =>
 G _ x9 false ((indexAddr PP 84 x14 x15).bind fun v => some (v, σ5)) σ5 fun x16 σ6 =>
 G _ x9 false ((load PP 88 x16 σ6).bind fun v => some (v, σ6)) σ6 fun x17 σ7 =>
 G _ x9 false (some (x2, σ7)) σ7 fun x18 σ8 =>
 G _ x9 false ((indexAddr PP 88 x17 x18).bind fun v => some (v, σ8)) σ8 fun x19 σ9 =>
 G _ x9 false ((load PP 4 x19 σ9).bind fun v => some (v, σ9)) σ9 fun x20 σ10 =>
 (pickV x9 (DV.p (PV.bool true)) x20).bind fun x21 =>
 some (x21, σ10) := by kernel_rfl
theorem F45_call {lo : Nat} {x0 x1 x2 : DV} {σ : Store} {r : DV × Store} (h : F45 guardT lo x0 x1 x2 σ = some r) : CC lo 45 [x0, x1, x2] σ = some r :=
 callL_run Go.Proofs.Try.func45 (by decide +kernel) rfl (by decide +kernel) h
noncomputable def c44_0 : Code := bodyOf Go.Proofs.Try.f44
noncomputable def a44_0 : Ann := (pol 44).ann
noncomputable def F44 (G : GuardT) (lo : Nat) (x0 : DV) (σ : Store) : Option (DV × Store) :=
 codeF G PP (pol 44) CC lo c44_0 a44_0 [x0, ud, ud, ud] σ (finR PP Go.Proofs.Try.f44.results.toList)
theorem F44_eq (G : GuardT) (lo : Nat) (x0 : DV) (σ : Store) : F44 G lo x0 σ =
 (boxV x0).bind fun z1 =>
 some ((DV.fn 80 [(DV.ptr (List.length σ) 0)]), (σ ++ [Row.mix z1])) := by kernel_rfl
theorem F44_call {lo : Nat} {x0 : DV} {σ : Store} {r : DV × Store} (h : F44 guardT lo x0 σ = some r) : CC lo 44 [x0] σ = some r :=
 callL_run Go.Proofs.Try.func44 (by decide +kernel) rfl (by decide +kernel) h
noncomputable def c18_0 : Code := bodyOf Go.Proofs.Try.f18
noncomputable def a18_0 : Ann := (pol 18).ann
noncomputable def a18_13 : Ann := right (left (right (right a18_0)))
noncomputable def a18_14 : Ann := left a18_13
noncomputable def c18_15 : Code := fstC (fstC (sndC (fstC (sndC (sndC c18_0)))))
noncomputable def c18_31 : Code := sndC (sndC (sndC c18_0))
noncomputable def a18_31 : Ann := right (right (right a18_0))
noncomputable def f18_L0 (G : GuardT) (lo : Nat) (x0 x1 x5 : DV) (σ : Store) : Option (DV × Store) :=
 codeF G PP (pol 18) CC lo (.loop c18_15) a18_14 [x0, x1, ud, ud, ud, x5, ud, ud, ud, ud, ud, ud, ud, ud, ud, ud, ud, ud, ud, ud, ud, ud, ud, ud, ud, ud] σ
 (blockC 0 a18_13 (seqC G PP (pol 18) CC lo c18_31 a18_31 (finR PP Go.Proofs.Try.f18.results.toList)))
noncomputable def F18 (G : GuardT) (lo : Nat) (x0 x1 : DV) (σ : Store) : Option (DV × Store) :=
 codeF G PP (pol 18) CC lo c18_0 a18_0 [x0, x1, ud, ud, ud, ud, ud, ud, ud, ud, ud, ud, ud, ud, ud, ud, ud, ud, ud, ud, ud, ud, ud, ud, ud, ud] σ (finR PP Go.Proofs.Try.f18.results.toList)
theorem f18_L0_eq (G : GuardT) (hG : GuardOk G) (lo : Nat) (x0 x1 x5 : DV) (σ : Store) : f18_L0 G lo x0 x1 x5 σ =
 (len PP 22 x0 σ).bind fun x13 =>
 (binOp PP .lss 3 x5 x13).bind fun x14 =>
 condK x14
 (
 (indexAddr PP 22 x0 x5).bind fun x19 =>
 (load PP 3 x19 σ).bind fun x20 =>
 (indexAddr PP 22 x1 x5).bind fun x23 =>
 (load PP 3 x23 σ).bind fun x24 =>
 (binOp PP .neq 3 x20 x24).bind fun x25 =>
 condK x25
 (
 some ((DV.p (PV.bool false)), σ)
 )
 (
 (binOp PP .add 3 x5 (DV.p (PV.int IntKind.i64 (1)))).bind fun x16 =>
 f18_L0 G lo x0 x1 x16 σ
 )
 )
 (
 some ((DV.p (PV.bool true)), σ)
 ) := (loopF_eq G hG).trans (by kernel_rfl)
theorem F18_eq (G : GuardT) (lo : Nat) (x0 x1 : DV) (σ : Store) : F18 G lo x0 x1 σ =
 (len PP 22 x0 σ).bind fun x7 =>
 (len PP 22 x1 σ).bind fun x9 =>
 (binOp PP .neq 3 x7 x9).bind fun x10 =>
 condK x10
 (
 some ((DV.p (PV.bool false)), σ)
 )
 (
 f18_L0 G lo x0 x1 (DV.p (PV.int IntKind.i64 (0))) σ
 ) := by kernel_rfl
theorem F18_call {lo : Nat} {x0 x1 : DV} {σ : Store} {r : DV × Store} (h : F18 guardT lo x0 x1 σ = some r) : CC lo 18 [x0, x1] σ = some r :=
 callL_run Go.Proofs.Try.func18 (by decide +kernel) rfl (by decide +kernel) h
noncomputable def c14_0 : Code := bodyOf Go.Proofs.Try.f14
noncomputable def a14_0 : Ann := (pol 14).ann
noncomputable def F14 (G : GuardT) (lo : Nat) (x0 : DV) (σ : Store) : Option (DV × Store) :=
 codeF G PP (pol 14) CC lo c14_0 a14_0 [x0, ud, ud, ud, ud, ud] σ (finR PP Go.Proofs.Try.f14.results.toList)
theorem F14_eq (G : GuardT) (lo : Nat) (x0 : DV) (σ : Store) : F14 G lo x0 σ =
 (buildSlice PP none 22 0 [] σ).bind fun r3_1 =>
 (append PP lo false 22 22 r3_1.1 x0 r3_1.2).bind fun r5_2 =>
 some (r5_2.1, r5_2.2) := by kernel_rfl
theorem F14_call {lo : Nat} {x0 : DV} {σ : Store} {r : DV × Store} (h : F14 guardT lo x0 σ = some r) : CC lo 14 [x0] σ = some r :=
 callL_run Go.Proofs.Try.func14 (by decide +kernel) rfl (by decide +kernel) h
noncomputable def c47_0 : Code := bodyOf Go.Proofs.Try.f47
noncomputable def a47_0 : Ann := (pol 47).ann
noncomputable def F47 (G : GuardT) (lo : Nat) (x0 : DV) (σ : Store) : Option (DV × Store) :=
 codeF G PP (pol 47) CC lo c47_0 a47_0 [x0, ud, ud, ud, ud, ud, ud, ud, ud, ud, ud, ud, ud] σ (finR PP Go.Proofs.Try.f47.results.toList)
theorem F47_eq (G : GuardT) (lo : Nat) (x0 : DV) (σ : Store) : F47 G lo x0 σ =
 (boxV x0).bind fun z1 =>
 (zeroOf PP 25).bind fun z2 =>
 (fieldAddr PP 25 (DV.ptr (List.length σ) 0) 1).bind fun x3 =>
 (load PP 22 x3 ((σ ++ [Row.mix z1]) ++ [Row.mix z2])).bind fun x4 =>
 (pureFn CC (DV.fn 14 []) [x4] ((σ ++ [Row.mix z1]) ++ [Row.mix z2])).bind fun x5 =>
 (buildSlice PP none 23 0 [] ((σ ++ [Row.mix z1]) ++ [Row.mix z2])).bind fun r6_1 =>
 (fieldAddr PP 25 (DV.ptr (List.length σ) 0) 2).bind fun x7 =>
 (load PP 23 x7 r6_1.2).bind fun x8 =>
 (append PP lo false 23 23 r6_1.1 x8 r6_1.2).bind fun r9_2 =>
 (fieldAddr PP 25 (DV.ptr (List.length σ) 0) 1).bind fun x10 =>
 (store PP lo 22 x10 x5 r9_2.2).bind fun σ3 =>
 (fieldAddr PP 25 (DV.ptr (List.length σ) 0) 2).bind fun x11 =>
 (store PP lo 23 x11 r9_2.1 σ3).bind fun σ4 =>
 (load PP 25 (DV.ptr (List.length σ) 0) σ4).bind fun x12 =>
 (store PP lo 25 (DV.ptr (List.length (σ ++ [Row.mix z1])) 0) x12 σ4).bind fun σ5 =>
 (cellV PP 25 (DV.ptr (List.length (σ ++ [Row.mix z1])) 0) σ5).bind fun v0 =>
 some (v0, σ5) := by kernel_rfl
theorem F47_call {lo : Nat} {x0 : DV} {σ : Store} {r : DV × Store} (h : F47 guardT lo x0 σ = some r) : CC lo 47 [x0] σ = some r :=
 callL_run Go.Proofs.Try.func47 (by decide +kernel) rfl (by decide +kernel) h
noncomputable def c13_0 : Code := bodyOf Go.Proofs.Try.f13
noncomputable def a13_0 : Ann := (pol 13).ann
noncomputable def F13 (G : GuardT) (lo : Nat) (x0 : DV) (σ : Store) : Option (DV × Store) :=
 codeF G PP (pol 13) CC lo c13_0 a13_0 [x0, ud, ud, ud, ud, ud, ud, ud, ud, ud, ud, ud, ud, ud, ud, ud] σ (finR PP Go.Proofs.Try.f13.results.toList)
theorem F13_eq (G : GuardT) (lo : Nat) (x0 : DV) (σ : Store) : F13 G lo x0 σ =
 (boxV x0).bind fun z1 =>
 (zeroOf PP 27).bind fun z2 =>
 (fieldAddr PP 27 (DV.ptr (List.length σ) 0) 0).bind fun x3 =>
 (load PP 25 x3 ((σ ++ [Row.mix z1]) ++ [Row.mix z2])).bind fun x4 =>
 (pureFn CC (DV.fn 47 []) [x4] ((σ ++ [Row.mix z1]) ++ [Row.mix z2])).bind fun x5 =>
 (fieldAddr PP 27 (DV.ptr (List.length σ) 0) 1).bind fun x6 =>
 (load PP 25 x6 ((σ ++ [Row.mix z1]) ++ [Row.mix z2])).bind fun x7 =>
 (pureFn CC (DV.fn 47 []) [x7] ((σ ++ [Row.mix z1]) ++ [Row.mix z2])).bind fun x8 =>
 (fieldAddr PP 27 (DV.ptr (List.length σ) 0) 2).bind fun x9 =>
 (load PP 22 x9 ((σ ++ [Row.mix z1]) ++ [Row.mix z2])).bind fun x10 =>
 (pureFn CC (DV.fn 14 []) [x10] ((σ ++ [Row.mix z1]) ++ [Row.mix z2])).bind fun x11 =>
 (fieldAddr PP 27 (DV.ptr (List.length σ) 0) 3).bind fun x12 =>
 (load PP 22 x12 ((σ ++ [Row.mix z1]) ++ [Row.mix z2])).bind fun x13 =>
 (pureFn CC (DV.fn 14 []) [x13] ((σ ++ [Row.mix z1]) ++ [Row.mix z2])).bind fun x14 =>
 (build PP 27 [(0, x5), (1, x8), (2, x11), (3, x14)]).bind fun x15 =>
 (store PP lo 27 (DV.ptr (List.length (σ ++ [Row.mix z1])) 0) x15 ((σ ++ [Row.mix z1]) ++ [Row.mix z2])).bind fun σ1 =>
 (cellV PP 27 (DV.ptr (List.length (σ ++ [Row.mix z1])) 0) σ1).bind fun v0 =>
 some (v0, σ1) := by kernel_rfl
theorem F13_call {lo : Nat} {x0 : DV} {σ : Store} {r : DV × Store} (h : F13 guardT lo x0 σ = some r) : CC lo 13 [x0] σ = some r :=
 callL_run Go.Proofs.Try.func13 (by decide +kernel) rfl (by decide +kernel) h
noncomputable def c19_0 : Code := bodyOf Go.Proofs.Try.f19
noncomputable def a19_0 : Ann := (pol 19).ann
noncomputable def F19 (G : GuardT) (lo : Nat) (x0 : DV) (σ : Store) : Option (DV × Store) :=
 codeF G PP (pol 19) CC lo c19_0 a19_0 [x0, ud, ud, ud, ud, ud, ud, ud, ud, ud, ud, ud, ud, ud, ud, ud, ud, ud, ud, ud, ud, ud, ud] σ (finR PP Go.Proofs.Try.f19.results.toList)
theorem F19_eq (G : GuardT) (lo : Nat) (x0 : DV) (σ : Store) : F19 G lo x0 σ =
 (boxV x0).bind fun z1 =>
 (fieldAddr PP 25 (DV.ptr (List.length σ) 0) 0).bind fun x3 =>
 (load PP 3 x3 (σ ++ [Row.mix z1])).bind fun x4 =>
 (binOp PP .leq 3 x4 (DV.p (PV.int IntKind.i64 (7)))).bind fun x5 =>
 G _ x5 false ((fieldAddr PP 25 (DV.ptr (List.length σ) 0) 0).bind fun v => some (v, (σ ++ [Row.mix z1]))) (σ ++ [Row.mix z1]) fun x7 σ1 =>
 G _ x5 false ((load PP 3 x7 σ1).bind fun v => some (v, σ1)) σ1 fun x8 σ2 =>
 G _ x5 false ((binOp PP .gtr 3 x8 (DV.p (PV.int IntKind.i64 (40)))).bind fun v => some (v, σ2)) σ2 fun x9 σ3 =>
 (pickV x5 (DV.p (PV.bool true)) x9).bind fun x10 =>
 G _ x10 true ((fieldAddr PP 25 (DV.ptr (List.length σ) 0) 1).bind fun v => some (v, σ3)) σ3 fun x12 σ4 =>
 G _ x10 true ((load PP 22 x12 σ4).bind fun v => some (v, σ4)) σ4 fun x13 σ5 =>
 G _ x10 true ((len PP 22 x13 σ5).bind fun v => some (v, σ5)) σ5 fun x14 σ6 =>
 G _ x10 true ((binOp PP .leq 3 x14 (DV.p (PV.int IntKind.i64 (45)))).bind fun v => some (v, σ6)) σ6 fun x15 σ7 =>
 (pickV x10 x15 (DV.p (PV.bool false))).bind fun x16 =>
 G _ x16 true ((fieldAddr PP 25 (DV.ptr (List.length σ) 0) 2).bind fun v => some (v, σ7)) σ7 fun x18 σ8 =>
 G _ x16 true ((load PP 23 x18 σ8).bind fun v => some (v, σ8)) σ8 fun x19 σ9 =>
 G _ x16 true ((len PP 23 x19 σ9).bind fun v => some (v, σ9)) σ9 fun x20 σ10 =>
 G _ x16 true ((binOp PP .leq 3 x20 (DV.p (PV.int IntKind.i64 (24)))).bind fun v => some (v, σ10)) σ10 fun x21 σ11 =>
 (pickV x16 x21 (DV.p (PV.bool false))).bind fun x22 =>
 some (x22, σ11) := by kernel_rfl
theorem F19_call {lo : Nat} {x0 : DV} {σ : Store} {r : DV × Store} (h : F19 guardT lo x0 σ = some r) : CC lo 19 [x0] σ = some r :=
 callL_run Go.Proofs.Try.func19 (by decide +kernel) rfl (by decide +kernel) h
noncomputable def c11_0 : Code := bodyOf Go.Proofs.Try.f11
noncomputable def a11_0 : Ann := (pol 11).ann
noncomputable def F11 (G : GuardT) (lo : Nat) (x0 : DV) (σ : Store) : Option (DV × Store) :=
 codeF G PP (pol 11) CC lo c11_0 a11_0 [x0, ud, ud, ud, ud, ud, ud, ud, ud, ud, ud, ud, ud, ud, ud, ud, ud, ud, ud, ud, ud, ud, ud] σ (finR PP Go.Proofs.Try.f11.results.toList)
theorem F11_eq (G : GuardT) (lo : Nat) (x0 : DV) (σ : Store) : F11 G lo x0 σ =
 (boxV x0).bind fun z1 =>
 (fieldAddr PP 27 (DV.ptr (List.length σ) 0) 0).bind fun x3 =>
 (load PP 25 x3 (σ ++ [Row.mix z1])).bind fun x4 =>
 (pureFn CC (DV.fn 19 []) [x4] (σ ++ [Row.mix z1])).bind fun x5 =>
 G _ x5 true ((fieldAddr PP 27 (DV.ptr (List.length σ) 0) 1).bind fun v => some (v, (σ ++ [Row.mix z1]))) (σ ++ [Row.mix z1]) fun x7 σ1 =>
 G _ x5 true ((load PP 25 x7 σ1).bind fun v => some (v, σ1)) σ1 fun x8 σ2 =>
 G _ x5 true ((pureFn CC (DV.fn 19 []) [x8] σ2).bind fun v => some (v, σ2)) σ2 fun x9 σ3 =>
 (pickV x5 x9 (DV.p (PV.bool false))).bind fun x10 =>
 G _ x10 true ((fieldAddr PP 27 (DV.ptr (List.length σ) 0) 2).bind fun v => some (v, σ3)) σ3 fun x12 σ4 =>
 G _ x10 true ((load PP 22 x12 σ4).bind fun v => some (v, σ4)) σ4 fun x13 σ5 =>
 G _ x10 true ((len PP 22 x13 σ5).bind fun v => some (v, σ5)) σ5 fun x14 σ6 =>
 G _ x10 true ((binOp PP .leq 3 x14 (DV.p (PV.int IntKind.i64 (45)))).bind fun v => some (v, σ6)) σ6 fun x15 σ7 =>
 (pickV x10 x15 (DV.p (PV.bool false))).bind fun x16 =>
 G _ x16 true ((fieldAddr PP 27 (DV.ptr (List.length σ) 0) 3).bind fun v => some (v, σ7)) σ7 fun x18 σ8 =>
 G _ x16 true ((load PP 22 x18 σ8).bind fun v => some (v, σ8)) σ8 fun x19 σ9 =>
 G _ x16 true ((len PP 22 x19 σ9).bind fun v => some (v, σ9)) σ9 fun x20 σ10 =>
 G _ x16 true ((binOp PP .leq 3 x20 (DV.p (PV.int IntKind.i64 (45)))).bind fun v => some (v, σ10)) σ10 fun x21 σ11 =>
 (pickV x16 x21 (DV.p (PV.bool false))).bind fun x22 =>
 some (x22, σ11) := by kernel_rfl
theorem F11_call {lo : Nat} {x0 : DV} {σ : Store} {r : DV × Store} (h : F11 guardT lo x0 σ = some r) : CC lo 11 [x0] σ = some r :=
 callL_run Go.Proofs.Try.func11 (by decide +kernel) rfl (by decide +kernel) h
noncomputable def c3_0 : Code := bodyOf Go.Proofs.Try.f3
noncomputable def a3_0 : Ann := (pol 3).ann
noncomputable def c3_28 : Code := sndC (sndC (sndC (sndC (sndC (sndC c3_0)))))
noncomputable def a3_28 : Ann := right (right (right (right (right (right a3_0)))))
def f3_J0_fr (x0 x1 x2 x4 x5 x6 x7 x10 x11 x12 x13 x14 x15 x16 x17 x18 x19 x20 x21 x22 x23 x24 x25 x26 x27 x28 x29 x30 x31 x32 x33 x34 : DV) : Frame := [x0, x1, x2, ud, x4, x5, x6, x7, ud, ud, x10, x11, x12, x13, x14, x15, x16, x17, x18, x19, x20, x21, x22, x23, x24, x25, x26, x27, x28, x29, x30, x31, x32, x33, x34, ud, ud, ud, ud, ud, ud, ud, ud, ud, ud, ud, ud, ud, ud, ud, ud, ud, ud, ud, ud, ud, ud, ud, ud, ud, ud, ud, ud, ud, ud, ud, ud]
noncomputable def f3_J0 (G : GuardT) (lo : Nat) (x0 x1 x2 x4 x5 x6 x7 x10 x11 x12 x13 x14 x15 x16 x17 x18 x19 x20 x21 x22 x23 x24 x25 x26 x27 x28 x29 x30 x31 x32 x33 x34 : DV) (σ : Store) : Option (DV × Store) :=
 (seqC G PP (pol 3) CC lo c3_28 a3_28 (finR PP Go.Proofs.Try.f3.results.toList)) .normal (f3_J0_fr x0 x1 x2 x4 x5 x6 x7 x10 x11 x12 x13 x14 x15 x16 x17 x18 x19 x20 x21 x22 x23 x24 x25 x26 x27 x28 x29 x30 x31 x32 x33 x34) σ
noncomputable def F3 (G : GuardT) (lo : Nat) (x0 x1 : DV) (σ : Store) : Option (DV × Store) :=
 codeF G PP (pol 3) CC lo c3_0 a3_0 [x0, x1, ud, ud, ud, ud, ud, ud, ud, ud, ud, ud, ud, ud, ud, ud, ud, ud, ud, ud, ud, ud, ud, ud, ud, ud, ud, ud, ud, ud, ud, ud, ud, ud, ud, ud, ud, ud, ud, ud, ud, ud, ud, ud, ud, ud, ud, ud, ud, ud, ud, ud, ud, ud, ud, ud, ud, ud, ud, ud, ud, ud, ud, ud, ud, ud, ud] σ (finR PP Go.Proofs.Try.f3.results.toList)
theorem f3_J0_eq (G : GuardT) (lo : Nat) (x0 x1 x2 x4 x5 x6 x7 x10 x11 x12 x13 x14 x15 x16 x17 x18 x19 x20 x21 x22 x23 x24 x25 x26 x27 x28 x29 x30 x31 x32 x33 x34 : DV) (σ : Store) : f3_J0 G lo x0 x1 x2 x4 x5 x6 x7 x10 x11 x12 x13 x14 x15 x16 x17 x18 x19 x20 x21 x22 x23 x24 x25 x26 x27 x28 x29 x30 x31 x32 x33 x34 σ =
 (binOp PP .neq 3 x7 (DV.p (PV.int IntKind.i64 (0)))).bind fun x36 =>
 condK x36
 (
 (binOp PP .eql 3 x6 x7).bind fun x39 =>
 G _ x39 true (some (x5, σ)) σ fun x41 σ4 =>
 G _ x39 true ((len PP 22 x41 σ4).bind fun v => some (v, σ4)) σ4 fun x42 σ5 =>
 G _ x39 true ((binOp PP .eql 3 x42 (DV.p (PV.int IntKind.i64 (0)))).bind fun v => some (v, σ5)) σ5 fun x43 σ6 =>
 (pickV x39 x43 (DV.p (PV.bool false))).bind fun x44 =>
 some (x44, σ6)
 )
 (
 (load PP 27 x2 σ).bind fun x46 =>
 (pureFn CC (DV.fn 17 []) [x46, x1] σ).bind fun x48 =>
 (extractV x48 0).bind fun x49 =>
 (extractV x48 1).bind fun x50 =>
 (unOp .not x50).bind fun x52 =>
 condK x52
 (
 (binOp PP .eql 30 x6 (DV.p (PV.int IntKind.i64 (25)))).bind fun x54 =>
 G _ x54 true (some (x5, σ)) σ fun x56 σ7 =>
 G _ x54 true ((len PP 22 x56 σ7).bind fun v => some (v, σ7)) σ7 fun x57 σ8 =>
 G _ x54 true ((binOp PP .eql 3 x57 (DV.p (PV.int IntKind.i64 (0)))).bind fun v => some (v, σ8)) σ8 fun x58 σ9 =>
 (pickV x54 x58 (DV.p (PV.bool false))).bind fun x59 =>
 some (x59, σ9)
 )
 (
 (binOp PP .eql 30 x6 (DV.p (PV.int IntKind.i64 (0)))).bind fun x61 =>
 G _ x61 true (some (x5, σ)) σ fun x63 σ10 =>
 G _ x61 true (some (x49, σ10)) σ10 fun x64 σ11 =>
 G _ x61 true ((pureFn CC (DV.fn 18 []) [x63, x64] σ11).bind fun v => some (v, σ11)) σ11 fun x65 σ12 =>
 (pickV x61 x65 (DV.p (PV.bool false))).bind fun x66 =>
 some (x66, σ12)
 )
 ) := by kernel_rfl
theorem F3_eq (G : GuardT) (lo : Nat) (x0 x1 : DV) (σ : Store) : F3 G lo x0 x1 σ =
 (boxV x0).bind fun z2 =>
 (pureFn CC (DV.fn 10 []) [] (σ ++ [Row.mix z2])).bind fun x10 =>
 (unOp .not x10).bind fun x11 =>
 condK x11
 (
 some ((DV.p (PV.bool false)), (σ ++ [Row.mix z2]))
 )
 (
 (load PP 27 (DV.ptr (List.length σ) 0) (σ ++ [Row.mix z2])).bind fun x12 =>
 (pureFn CC (DV.fn 11 []) [x12] (σ ++ [Row.mix z2])).bind fun x13 =>
 (unOp .not x13).bind fun x14 =>
 G _ x14 false (some (x1, (σ ++ [Row.mix z2]))) (σ ++ [Row.mix z2]) fun x16 σ1 =>
 G _ x14 false ((len PP 22 x16 σ1).bind fun v => some (v, σ1)) σ1 fun x17 σ2 =>
 G _ x14 false ((binOp PP .gtr 3 x17 (DV.p (PV.int IntKind.i64 (62)))).bind fun v => some (v, σ2)) σ2 fun x18 σ3 =>
 (pickV x14 (DV.p (PV.bool true)) x18).bind fun x19 =>
 condK x19
 (
 some ((DV.p (PV.bool true)), σ3)
 )
 (
 (load PP 27 (DV.ptr (List.length σ) 0) σ3).bind fun x21 =>
 (pureFn CC (DV.fn 13 []) [x21] σ3).bind fun x22 =>
 (pureFn CC (DV.fn 14 []) [x1] σ3).bind fun x24 =>
 (pureFn CC (DV.fn 12 []) [x22, x24] σ3).bind fun x25 =>
 (extractV x25 0).bind fun x26 =>
 (extractV x25 1).bind fun x27 =>
 (load PP 27 (DV.ptr (List.length σ) 0) σ3).bind fun x28 =>
 (pureFn CC (DV.fn 15 []) [x28] σ3).bind fun x29 =>
 (binOp PP .eql 3 x29 (DV.p (PV.int IntKind.i64 (0)))).bind fun x31 =>
 condK x31
 (
 (load PP 27 (DV.ptr (List.length σ) 0) σ3).bind fun x32 =>
 (pureFn CC (DV.fn 16 []) [x32, x1] σ3).bind fun x34 =>
 f3_J0 G lo x0 x1 (DV.ptr (List.length σ) 0) (DV.p (PV.bool false)) x26 x27 x34 x10 x11 x12 x13 x14 x14 x16 x17 x18 x19 x25 x21 x22 x1 x24 x25 x26 x27 x28 x29 x29 x31 x32 x1 x34 σ3
 )
 (
 f3_J0 G lo x0 x1 (DV.ptr (List.length σ) 0) (DV.p (PV.bool false)) x26 x27 x29 x10 x11 x12 x13 x14 x14 x16 x17 x18 x19 x25 x21 x22 x1 x24 x25 x26 x27 x28 x29 x29 x31 ud ud ud σ3
 )
 )
 ) := by kernel_rfl
theorem F3_call {lo : Nat} {x0 x1 : DV} {σ : Store} {r : DV × Store} (h : F3 guardT lo x0 x1 σ = some r) : CC lo 3 [x0, x1] σ = some r :=
 callL_run Go.Proofs.Try.func3 (by decide +kernel) rfl (by decide +kernel) h
end Go.D
end
