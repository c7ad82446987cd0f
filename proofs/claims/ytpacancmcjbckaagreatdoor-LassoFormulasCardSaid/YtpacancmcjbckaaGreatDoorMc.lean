/- The closure of slices.Backward. -/
import Derived.Test.YtpacancmcjbckaaGreatDoorMb
import Derived.KernelRfl
import Derived.Test.YtpacancmcjbckaaGreatDoorProg
import Derived.Orders
import Derived.Test.YtpacancmcjbckaaGreatDoorMa
import Derived.ProofKit
import Derived.OpenShut
import Derived.WideShapes
import Derived.Test.YtpacancmcjbckaaGreatDoorRows
import Derived.SizedLaws
import Derived.Handed
import Derived.Lay
import Derived.MakeChecks
section
set_option linter.unusedVariables false
set_option linter.unusedSimpArgs false
namespace Go.D

variable {P : Program}

def backHeadOps (I B : TypeId) (p : String) : Array Oper := #[{ dst := some 7, op := .move (.tmp 3), type := I, pos := p, after := #[], guard := none },
      { dst := some 8, op := .binOp .geq I (.tmp 7) (.const (.int .i64 0)) I, type := B, pos := p, after := #[{ on := 0, ground := .data }], guard := none }]
def backHead (I B : TypeId) (p : String) : Code := (Code.region 1 (backHeadOps I B p) false).seq (Code.cond (.tmp 8) .skip (.exit 0))
def backYield (S E Y I B : TypeId) (z : TypeId) (q : String) : Array Oper :=
  #[{ dst := some 11, op := .move (.tmp 0), type := Y, pos := q, after := #[], guard := none },
    { dst := some 12, op := .move (.tmp 3), type := I, pos := q, after := #[], guard := none },
    { dst := some 13, op := .load S (.tmp 1), type := S, pos := q, after := #[], guard := none },
    { dst := some 14, op := .move (.tmp 3), type := I, pos := q, after := #[], guard := none },
    { dst := some 15, op := .indexAddr S (.tmp 13) (.tmp 14), type := z, pos := q, after := #[{ on := 2, ground := .data }, { on := 3, ground := .data }], guard := none },
    { dst := some 16, op := .load E (.tmp 15), type := E, pos := q, after := #[{ on := 4, ground := .data }], guard := none },
    { dst := some 17, op := .call { callee := .value (.tmp 11), args := #[.tmp 12, .tmp 16], argTypes := #[I, E] }, type := B, pos := q,
      after := #[{ on := 0, ground := .data }, { on := 1, ground := .data }, { on := 5, ground := .data }], guard := none },
    { dst := some 18, op := .unOp .not B (.tmp 17), type := B, pos := q, after := #[{ on := 6, ground := .data }], guard := none }]
def backNextOps (I : TypeId) (p : String) : Array Oper := #[{ dst := some 9, op := .move (.tmp 3), type := I, pos := p, after := #[], guard := none },
    { dst := some 10, op := .binOp .sub I (.tmp 9) (.const (.int .i64 1)) I, type := I, pos := p, after := #[{ on := 0, ground := .data }], guard := none },
    { dst := some 3, op := .assign (.tmp 10), type := I, pos := p, after := #[{ on := 1, ground := .data }, { on := 0, ground := .phase }, { on := 1, ground := .phase }], guard := none }]
def backFirstOps (S I : TypeId) (p : String) : Array Oper := #[{ dst := some 4, op := .load S (.tmp 1), type := S, pos := p, after := #[], guard := none },
    { dst := some 5, op := .call { callee := .builtin .len, args := #[.tmp 4], argTypes := #[S] }, type := I, pos := p, after := #[{ on := 0, ground := .data }], guard := none },
    { dst := some 6, op := .binOp .sub I (.tmp 5) (.const (.int .i64 1)) I, type := I, pos := p, after := #[{ on := 1, ground := .data }], guard := none },
    { dst := some 3, op := .assign (.tmp 6), type := I, pos := p, after := #[{ on := 2, ground := .data }, { on := 0, ground := .phase }, { on := 1, ground := .phase }, { on := 2, ground := .phase }], guard := none }]
def backBody (S E Y I B z : TypeId) (p q : String) : Code :=
  ((backHead I B p).seq ((Code.block 1 ((Code.region 3 (backYield S E Y I B z q) false).seq (Code.cond (.tmp 18) .ret .skip))).seq (Code.region 2 (backNextOps I p) false)))
def backCode (S E Y I B z : TypeId) (p q : String) : Code := (Code.region 0 (backFirstOps S I p) false).seq (Code.block 0 (backBody S E Y I B z p q).loop)
def backFrame (l : Nat) (cs : List PV) (off : Nat) (i : Option Int) : Frame := [.yld l, .pptr cs off, .undef, match i with | some i => .int i | none => .undef] ++ List.replicate 15 .undef
theorem ARel.weaken {L : Locs} {M : Mem} {a a' : Frame} {act : Act} (h : ARel L M a act) (hn : a'.length = a.length) (hw : ∀ t, a'.getD t .undef = a.getD t .undef ∨ a'.getD t .undef = .undef) : ARel L M a' act := by
  refine ⟨by rw [hn]; exact h.size, fun t => ?_⟩
  rcases hw t with e | e
  · rw [e]; exact h.get t
  · rw [e]; exact .undef _
structure BackTypes (P : Program) (S E : TypeId) (agg : Bool) (sz : Nat) : Prop where
  slice : P.underlying S = some (.slice E)
  flat : isAgg P S = some false
  one : ∃ k, size? P S = some k
  agg : isAgg P E = some agg
  size : size? P E = some sz
abbrev noCall : CallF := fun _ _ _ _ => none
theorem drop_one {cs : List PV} {off : Nat} {x : PV} (h : cs[off]? = some x) : off + 1 ≤ cs.length ∧ (cs.drop off).take 1 = [x] := by
  obtain ⟨h1, h2⟩ := List.getElem?_eq_some_iff.1 h
  refine ⟨h1, ?_⟩
  rw [List.drop_eq_getElem_cons h1, h2]
  rfl
theorem load_flat {S : TypeId} {cs : List PV} {off : Nat} {x : PV} {σ : Store} (hf : isAgg P S = some false) (h1 : ∃ k, size? P S = some k) (h : cs[off]? = some x) : load P S (.pptr cs off) σ = some (.p x) := by
  obtain ⟨k, hk⟩ := h1
  obtain ⟨h2, h3⟩ := drop_one h
  simp [load, hf, hk, loadN, h2, h3]
def SliceIs (x : PV) (N : Nat) (cells : List PV) : Prop := (x = .nilsl ∧ N = 0) ∨ ∃ ex, x = .sl ex N cells
theorem len_slice {S E : TypeId} {x : PV} {N : Nat} {cells : List PV} {σ : Store} (hS : P.underlying S = some (.slice E)) (h : SliceIs x N cells) : len P S (.p x) σ = some (.int N) := by
  rcases h with ⟨rfl, rfl⟩ | ⟨ex, rfl⟩ <;> simp [len, hS]
theorem i64_ok {x : Int} (h0 : -9223372036854775808 ≤ x) (h1 : x ≤ 9223372036854775807) : IntKind.wrap .i64 x = x := by
  rw [IntKind.wrap_i64]; omega
theorem first_eval {S E I : TypeId} {p : String} {agg : Bool} {l sz N off : Nat} {cs cells : List PV} {x : PV} (ht : BackTypes P S E agg sz) (hx : cs[off]? = some x) (hs : SliceIs x N cells) (hN : N ≤ 140737488355328) :
    region P {} noCall 0 (backFirstOps S I p) false (backFrame l cs off none) [] = some ([.yld l, .pptr cs off, .undef, .int ((N : Int) - 1), .p x, .int N, .int ((N : Int) - 1)] ++ List.replicate 12 .undef, []) := by
  have h1 : IntKind.wrap .i64 ((N : Int) - 1) = (N : Int) - 1 := i64_ok (by omega) (by omega)
  simp [backFirstOps, region, opsD, wantedD, op, loadP, FPol.isPload, ev, put, backFrame, load_flat ht.flat ht.one hx, len_slice ht.slice hs, nilConst, binOp, binInt, cst, cst1, h1]
theorem head_eval {I B : TypeId} {p : String} {l off : Nat} {cs : List PV} {i : Int} :
    region P {} noCall 0 (backHeadOps I B p) false (backFrame l cs off (some i)) [] = some ([.yld l, .pptr cs off, .undef, .int i, .undef, .undef, .undef, .int i, .bool (decide (i ≥ 0))] ++ List.replicate 10 .undef, []) := by
  simp [backHeadOps, region, opsD, wantedD, op, ev, put, backFrame, nilConst, binOp, binInt, cst, cst1]
theorem next_eval {I : TypeId} {p : String} {l off : Nat} {cs : List PV} {i : Int} (h0 : 0 ≤ i) (h1 : i ≤ 140737488355328) :
    region P {} noCall 0 (backNextOps I p) false (backFrame l cs off (some i)) [] = some (
      [.yld l, .pptr cs off, .undef, .int (i - 1), .undef, .undef, .undef, .undef, .undef, .int i, .int (i - 1)] ++ List.replicate 8 .undef, []) := by
  have h2 : IntKind.wrap .i64 (i - 1) = i - 1 := i64_ok (by omega) (by omega)
  simp [backNextOps, region, opsD, wantedD, op, ev, put, backFrame, nilConst, binOp, binInt, cst, cst1, h2]
def quiet (o : Oper) : Bool :=
  match o.op with
  | .move _ | .assign _ | .load .. | .binOp .. | .unOp .. | .indexAddr .. => true
  | .call c => match c.callee with | .builtin .len => true | _ => false
  | _ => false
theorem quiet_same {L : Locs} {M : Mem} {w : World} {act : Act} {o : Oper} {s : Sem Value} {r : DV} (he : execOp act.eval o = (do pure (.value (← s)) : Sem Next)) (h : Same P s w (VRel L M r)) : ∃ v, (execOp act.eval o).run P w = .ok (.value v) w ∧ VRel L M r v := by
  obtain ⟨v, hr, hv⟩ := h
  exact ⟨v, by rw [he]; simp [hr], hv⟩
theorem op_quiet {pl : FPol} {call : CallF} {lo : Nat} {a : Frame} {act : Act} {o : Oper} {r : DV} {σ σ' : Store} {L : Locs} {M : Mem} {w : World} (hq : quiet o = true) (hs : SRel σ L M w) (ha : ARel L M a act) (h : op P pl call lo a o σ = some (r, σ')) :
    σ' = σ ∧ ∃ v, (execOp act.eval o).run P w = .ok (.value v) w ∧ VRel L M r v := by
  unfold quiet at hq
  unfold op at h
  split at hq
  · rename_i x ho
    rw [ho] at h
    injection h with h; injection h with h1 h2; subst h1
    exact ⟨h2.symm, _, by unfold execOp; rw [ho]; rfl, ha.ev x⟩
  · rename_i x ho
    rw [ho] at h
    injection h with h; injection h with h1 h2; subst h1
    exact ⟨h2.symm, _, by unfold execOp; rw [ho]; rfl, ha.ev x⟩
  · rename_i t x ho
    rw [ho] at h
    obtain ⟨q, hq, he⟩ := Option.map_eq_some_iff.1 h
    injection he with h1 h2; subst h1
    exact ⟨h2.symm, quiet_same (s := Instr.loadAt t (act.eval x)) (by unfold execOp; rw [ho]) (same_load hs (loadP_some hq) (ha.ev x))⟩
  · rename_i bo t x y yt ho
    rw [ho] at h
    simp only [] at h
    split at h
    · rename_i hn
      have hy : y = .const .nilIface := by
        unfold nilConst at hn
        split at hn
        · rfl
        · exact absurd hn (by simp)
      subst hy
      obtain ⟨q, hq, he⟩ := Option.map_eq_some_iff.1 h
      injection he with h1 h2; subst h1
      exact ⟨h2.symm, quiet_same (s := do Go.eqGuard bo t x (.const .nilIface) (act.eval x) (act.eval (.const .nilIface)); Go.binOp bo t (act.eval x) (act.eval (.const .nilIface))) (by unfold execOp; rw [ho]) (same_ifaceNil hq (ha.ev x) w)⟩
    obtain ⟨q, hq, he⟩ := Option.map_eq_some_iff.1 h
    injection he with h1 h2; subst h1
    exact ⟨h2.symm, quiet_same (s := do Go.eqGuard bo t x y (act.eval x) (act.eval y); Go.binOp bo t (act.eval x) (act.eval y)) (by unfold execOp; rw [ho]) (same_binOp hq (ha.ev x) (ha.ev y) w)⟩
  · rename_i uo t x ho
    rw [ho] at h
    obtain ⟨q, hq, he⟩ := Option.map_eq_some_iff.1 h
    injection he with h1 h2; subst h1
    exact ⟨h2.symm, quiet_same (s := Op.unary uo (act.eval x)) (by unfold execOp; rw [ho]) (same_unOp hq (ha.ev x) w)⟩
  · rename_i t x i ho
    rw [ho] at h
    obtain ⟨q, hq, he⟩ := Option.map_eq_some_iff.1 h
    injection he with h1 h2; subst h1
    exact ⟨h2.symm, quiet_same (s := Instr.indexAt t (act.eval x) (act.eval i)) (by unfold execOp; rw [ho]) (same_indexAddr hq (ha.ev x) (ha.ev i) w)⟩
  · rename_i c ho
    rw [ho] at h
    split at hq
    · rename_i hcal
      simp only [hcal] at h
      split at h
      · rename_i hsz
        obtain ⟨q, hq, he⟩ := Option.map_eq_some_iff.1 h
        injection he with h1 h2; subst h1
        obtain ⟨x, hx⟩ := array_one hsz.1
        obtain ⟨t1, ht1⟩ := array_one hsz.2
        rw [hx, ht1] at hq
        refine ⟨h2.symm, quiet_same (s := Builtin.len_ #[t1] o.type #[act.eval x]) ?_ (same_len hs hq (ha.ev x))⟩
        unfold execOp; rw [ho]; simp [resolve, hcal, invoke, builtin, hx, ht1]
      · exact absurd h (by simp)
    · exact absurd hq (by simp)
  · exact absurd hq (by simp)
theorem quiet_list {F : Fence} {n : Nat} (hF : Free F) {pl : FPol} {call : CallF} {lo : Nat} {all : Array Oper} {rest : List Oper} {Q : Exit → Act → World → Prop} {σ σ' : Store} {L : Locs} {M : Mem} {w : World} (hs : SRel σ L M w) : ∀ {os : List Oper} {cs : List Bool} {a a' : Frame} {act : Act}, os.all quiet = true → ARel L M a act →
    opsD P pl call all (fun _ _ => lo) os cs a σ = some (a', σ') → (∀ act', ARel L M a' act' → act'.defers = act.defers → wpListIn F n P all Q rest act' w) → wpListIn F n P all Q (os ++ rest) act w
  | [], cs, a, a', act, hq, ha, h, hQ => by
    simp only [opsD, Option.some.injEq, Prod.mk.injEq] at h
    obtain ⟨rfl, rfl⟩ := h
    exact hQ act ha rfl
  | o :: os, cs, a, a', act, hq, ha, h, hQ => by
    simp only [List.all_cons, Bool.and_eq_true] at hq
    simp only [opsD] at h
    rw [List.cons_append]
    unfold wpListIn
    split at h
    · rename_i hw
      rw [if_pos (wanted_ok ha hw)]
      split at h
      · rename_i v σ1 ho
        obtain ⟨rfl, v', hr, hv⟩ := op_quiet hq.1 hs ha ho
        refine ⟨fun f _ => hF.fn f, ?_⟩
        rw [Oper.semAt_eq _ _ _ (op_not_defer ho), hr]
        exact quiet_list hF hs hq.2 (ha.put o.dst hv) h fun act' ha2 hd2 => hQ act' ha2 (hd2.trans put_defers)
      · exact absurd h (by simp)
    · rename_i hw
      rw [if_neg (by rw [wanted_ok ha hw]; simp)]
      exact ⟨fun f _ => hF.fn f, quiet_list hF hs hq.2 (ha.put o.dst VRel.skip) h fun act' ha2 hd2 => hQ act' ha2 (hd2.trans put_defers)⟩
    · exact absurd h (by simp)
theorem quiet_region {F : Fence} {n id : Nat} (hF : Free F) {ops : Array Oper} {Q : Exit → Act → World → Prop} {L : Locs} {M : Mem} {w : World} {a a' : Frame} {act : Act} (hs : SRel [] L M w) (hq : ops.toList.all quiet = true) (ha : ARel L M a act) (h : region P {} noCall 0 ops false a [] = some (a', []))
    (hQ : ∀ act', ARel L M a' act' → act'.defers = act.defers → Q .normal act' w) : (Code.region id ops false).wpIn F n P Q act w := by
  unfold region at h
  simp only [Bool.false_eq_true, if_false] at h
  refine wpIn_region_list ?_
  have := quiet_list (rest := []) (Q := Q) (n := n) hF hs hq ha h fun act' ha' hd' => hQ act' ha' hd'
  simpa using this
theorem load_elem {E : TypeId} {agg : Bool} {sz N k : Nat} {cells : List PV} {σ : Store} (ha : isAgg P E = some agg) (hz : size? P E = some sz) (hk : k < N) (hlen : cells.length = N * sz) (h0 : 0 < sz) (h1 : agg = false → sz = 1) :
    load P E (.pptr cells (k * sz)) σ = some (elemOf agg sz cells k) := by
  have hle : k * sz + sz ≤ cells.length := by
    rw [hlen]
    have := Nat.mul_le_mul_right sz (show k + 1 ≤ N by omega)
    rw [Nat.add_mul, Nat.one_mul] at this
    exact this
  cases agg with
  | true => simp [load, ha, hz, loadN, hle, elemOf]
  | false =>
    have hs1 := h1 rfl
    have hlt : k * sz < cells.length := by omega
    have hx : cells[k * sz]? = some cells[k * sz] := List.getElem?_eq_getElem hlt
    obtain ⟨h2, h3⟩ := drop_one hx
    simp only [load, ha, hz, loadN, h2, if_true, h3]
    simp [elemOf, hx]
theorem yield_eval {S E Y I B z : TypeId} {q : String} {agg : Bool} {l sz N off k : Nat} {cs cells : List PV} {ex : Bool} {all : Array Oper} (ht : BackTypes P S E agg sz) (hx : cs[off]? = some (.sl ex N cells)) (hk : k < N) (hlen : cells.length = N * sz) (h0 : 0 < sz) (h1 : agg = false → sz = 1) :
    opsD P {} noCall all (fun _ _ => 0) ((backYield S E Y I B z q).toList.take 6) [] (backFrame l cs off (some (k : Int))) [] = some (
      [.yld l, .pptr cs off, .undef, .int k, .undef, .undef, .undef, .undef, .undef, .undef, .undef, .yld l, .int k, .p (.sl ex N cells), .int k, .pptr cells (k * sz), elemOf agg sz cells k, .undef, .undef], []) := by
  have h2 : (0 : Int) ≤ k ∧ (k : Int) < N := by omega
  have h3 := load_elem (σ := []) ht.agg ht.size hk hlen h0 h1
  have h4 : indexAddr P S (.p (.sl ex N cells)) (.int k) = some (.pptr cells (k * sz)) := by
    simp [indexAddr, ht.slice, ht.size, h2]
  have h5 := load_flat (σ := []) ht.flat ht.one hx
  simp [backYield, opsD, wantedD, op, loadP, FPol.isPload, ev, put, backFrame, h3, h4, h5]
theorem run_yield_op {l : Nat} {o : Oper} {act : Act} {w : World} {r : Result Next} {f : Operand} {args : Array Operand} {ts : Array TypeId} (ho : o.op = .call { callee := .value f, args, argTypes := ts }) (hf : act.eval f = .func (.yield l) #[] #[])
    (h : (Instr.yield l (args.map act.eval)).run P w = r) : (execOp act.eval o).run P w = r := by
  unfold execOp
  rw [ho]
  simp [resolve, hf, Deferred.ofValue, invoke, callFunc, h]
theorem downFrom_length {agg : Bool} {sz : Nat} {cells : List PV} : ∀ n, (downFrom agg sz cells n).length = n
  | 0 => rfl
  | n + 1 => by simp [downFrom, downFrom_length n]
theorem downFrom_get {agg : Bool} {sz : Nat} {cells : List PV} : ∀ (n i : Nat) (h : i < (downFrom agg sz cells n).length), (downFrom agg sz cells n)[i] = [.int ((n - 1 - i : Nat) : Int), elemOf agg sz cells (n - 1 - i)]
  | 0, i, h => absurd h (by simp [downFrom])
  | n + 1, 0, h => by simp [downFrom]
  | n + 1, i + 1, h => by
    have h' : i < (downFrom agg sz cells n).length := by simpa [downFrom] using h
    have := downFrom_get n i h'
    have e : n + 1 - 1 - (i + 1) = n - 1 - i := by omega
    rw [e, ← this]
    simp [downFrom]
theorem repl_undef : ∀ (n t : Nat), (List.replicate n DV.undef).getD t .undef = .undef
  | 0, t => by simp
  | n + 1, 0 => rfl
  | n + 1, t + 1 => by simpa [List.replicate_succ] using repl_undef n t
theorem init_rel {L : Locs} {M : Mem} {args : List DV} {vs : Array Value} {nt : Nat} (hv : Vals L M args vs) : ARel L M (args ++ List.replicate (nt - args.length) .undef) { tmps := vs ++ Array.replicate (nt - vs.size) undef, defers := [] } := by
  refine ⟨by simp [hv.1], fun t => ?_⟩
  by_cases ht : t < args.length
  · have e1 : (args ++ List.replicate (nt - args.length) DV.undef).getD t .undef = args[t] := by
      rw [List.getD_eq_getElem?_getD, List.getElem?_append_left ht, List.getElem?_eq_getElem ht]; rfl
    have ht' : t < vs.size := by rw [hv.1]; exact ht
    have e2 : (vs ++ Array.replicate (nt - vs.size) undef).getD t undef = vs[t] := by
      rw [Array.getD_eq_getD_getElem?, Array.getElem?_append_left ht', Array.getElem?_eq_getElem ht']; rfl
    rw [e1, e2]
    exact hv.2 t ht ht'
  · have e1 : (args ++ List.replicate (nt - args.length) DV.undef).getD t .undef = .undef := by
      rw [List.getD_eq_getElem?_getD, List.getElem?_append_right (by omega)]
      cases hx : (List.replicate (nt - args.length) DV.undef)[t - args.length]? with
      | none => rfl
      | some q =>
        have := List.getElem?_eq_some_iff.1 hx
        obtain ⟨h1, h2⟩ := this
        simp at h2
        exact h2.symm
    rw [e1]
    exact .undef _
theorem srel_bare {M : Mem} {w : World} (h : ∀ b o v, M b o = some v → w.cell? ⟨b, o, none⟩ = some v) : SRel [] (fun _ _ => none) M w := by
  refine ⟨fun _ _ _ => rfl, fun _ _ _ _ _ => rfl, h, ?_, ?_, ?_, ?_, ?_⟩
  · rintro r row l ⟨h, _⟩; exact absurd h (by simp)
  · rintro r row l ⟨h, _⟩; exact absurd h (by simp)
  · rintro r row l r' row' l' ⟨h, _⟩; exact absurd h (by simp)
  · rintro r row l r' row' l' ⟨h, _⟩; exact absurd h (by simp)
  · rintro r row l ⟨h, _⟩; exact absurd h (by simp)
theorem not_eval {S E Y I B z : TypeId} {q : String} {all : Array Oper} {b : Bool} {xs : Frame} (hn : xs.length = 17) (y : DV) :
    opsD P {} noCall all (fun _ _ => 0) ((backYield S E Y I B z q).toList.drop 7) [] (xs ++ [.bool b, y]) [] = some (xs ++ [.bool b, .bool (!b)], []) := by
  match xs, hn with
  | [a0, a1, a2, a3, a4, a5, a6, a7, a8, a9, a10, a11, a12, a13, a14, a15, a16], _ =>
    simp [backYield, opsD, wantedD, op, ev, put, unOp]
theorem back_ok {f : FuncId} {fn : Func} {S E Y I B z : TypeId} {p q : String} {agg : Bool} {sz : Nat} (hf : P.funcs[f]? = some fn) (hname : (fn.name == "runtime.NumGoroutine") = false) (hb : fn.body = some (backCode S E Y I B z p q))
    (hn : fn.ntmps = 19) (hres : fn.results = #[]) (ht : BackTypes P S E agg sz) : SeqOk P f (.backward agg sz) := by
  refine ⟨⟨fn, hf, hname, by rw [hb]; rfl⟩, ?_⟩
  intro caps xss hxss L M vs hvs F n hF hro l J Jx W hJM hJF hy hJ0
  obtain ⟨cs, off, x, N, cells, rfl, hx, hs, hN, rfl, hpos⟩ : ∃ cs off x N cells, caps = [.pptr cs off] ∧ cs[off]? = some x ∧ SliceIs x N cells ∧ N ≤ 140737488355328 ∧ xss = downFrom agg sz cells N ∧
      (0 < N → cells.length = N * sz ∧ 0 < sz ∧ (agg = false → sz = 1) ∧ ∃ ex, x = .sl ex N cells) := by
    unfold seqList at hxss
    split at hxss
    · rename_i agg' sz' cs off hk
      cases hk
      split at hxss
      · rename_i hx
        injection hxss with hxss
        exact ⟨cs, off, .nilsl, 0, [], rfl, hx, .inl ⟨rfl, rfl⟩, by omega, hxss.symm, fun h => absurd h (by omega)⟩
      · rename_i ex N cells hx
        split at hxss
        · rename_i hc
          injection hxss with hxss
          exact ⟨cs, off, _, N, cells, rfl, hx, .inr ⟨ex, rfl⟩, hc.2.2.1, hxss.symm, fun _ => ⟨hc.1, hc.2.1, hc.2.2.2, ex, rfl⟩⟩
        · exact absurd hxss (by simp)
      · exact absurd hxss (by simp)
    · exact absurd hxss (by simp)
  rw [downFrom_length] at *
  have hSR : ∀ i W, J i W → SRel [] (fun _ _ => none) M W := fun i W h => srel_bare (hJM i W h)
  have hv0 : Vals (fun _ _ => none) M [.yld l, .pptr cs off] (#[.func (.yield l) #[] #[]] ++ vs) := by
    have hsz : vs.size = 1 := hvs.1
    refine ⟨by simp [hsz], fun j h1 h2 => ?_⟩
    match j, h1 with
    | 0, _ => simpa using VRel.yld l
    | 1, _ =>
      have := hvs.2 0 (by simp) (by omega)
      have e : (#[Value.func (.yield l) #[] #[]] ++ vs)[1] = vs[0] := by simp
      rw [e]
      simp only [List.getElem_cons_zero] at this
      simp only [List.getElem_cons_succ, List.getElem_cons_zero]
      generalize vs[0] = q at *
      cases this with | pptr ws hm hv => exact .pptr ws hm hv
  refine callsIn_of_wp hf hb (hF.fn f) ?_ hro
  rw [hn]
  have ha0 := init_rel (nt := 19) hv0
  have hr0 : ∀ (act : Act) (W : World) (R : Ending → World → Prop), act.defers = [] → R (.returned (.tuple #[])) W → act.defers = [] ∧ ∃ v, (results fn act.tmps).run P W = .ok v W ∧ R (.returned v) W := by
    intro act W R hd hR
    exact ⟨hd, .tuple #[], by simp [results, hres], hR⟩
  unfold backCode
  refine wpIn_seq (quiet_region hF (hSR 0 W hJ0) rfl (a := backFrame l cs off none) ha0 (first_eval ht hx hs hN) fun act1 ha1 hd1 => ?_)
  refine wpIn_block (wpIn_loop_rounds (N + 1) ?_)
  have key : ∀ (k : Nat) (act : Act) (W : World), k ≤ N → ARel (fun _ _ => none) M (backFrame l cs off (some ((k : Int) - 1))) act → act.defers = [] → J (N - k) W →
      Code.roundsIn F n P (backBody S E Y I B z p q) (Exit.inBlock 0 (bodyPost P fn fun e W' => (∃ v, e = .returned v) ∧ (J N W' ∨ Jx W'))) (k + 1) act W := by
    intro k
    induction k with
    | zero =>
      intro act W hk ha hd hJ
      rw [roundsIn_succ]
      unfold backBody backHead
      refine wpIn_seq (wpIn_seq (quiet_region hF (hSR _ W hJ) rfl ha head_eval fun act2 ha2 hd2 => ?_))
      refine wpIn_cond_false (cond_ok ha2 (c := .tmp 8) (b := false) (by simp [ev])) (wpIn_exit ?_)
      exact hr0 act2 W (fun e W' => (∃ v, e = .returned v) ∧ (J N W' ∨ Jx W')) (hd2.trans hd) ⟨⟨_, rfl⟩, .inl (by simpa using hJ)⟩
    | succ k ih =>
      intro act W hk ha hd hJ
      have hkN : k < N := by omega
      obtain ⟨hlen, h0, h1, ex, rfl⟩ := hpos (by omega)
      have ek : (((k + 1 : Nat) : Int) - 1) = (k : Int) := by omega
      rw [ek] at ha
      rw [roundsIn_succ]
      unfold backBody backHead
      refine wpIn_seq (wpIn_seq (quiet_region hF (hSR _ W hJ) rfl ha head_eval fun act2 ha2 hd2 => ?_))
      refine wpIn_cond_true (cond_ok ha2 (c := .tmp 8) (b := true) (by simp [ev])) (wpIn_skip ?_)
      refine wpIn_seq (wpIn_block (wpIn_seq ?_))
      have hweak : ∀ {a : Frame} {act : Act}, a.length = 19 → a.getD 0 .undef = .yld l → a.getD 1 .undef = .pptr cs off → ∀ i, a.getD 3 .undef = .int i → ARel (fun _ _ => none) M a act → ARel (fun _ _ => none) M (backFrame l cs off (some i)) act := by
        intro a act hl e0 e1 i e3 h
        refine h.weaken (by simp [backFrame, hl]) fun t => ?_
        match t with
        | 0 => exact .inl e0.symm
        | 1 => exact .inl e1.symm
        | 2 => exact .inr rfl
        | 3 => exact .inl e3.symm
        | t + 4 =>
          refine .inr ?_
          show (List.replicate 15 DV.undef).getD t .undef = .undef
          exact repl_undef 15 t
      have ha3 := hweak (by simp) (by simp) (by simp) (k : Int) (by simp) ha2
      refine wpIn_region_list ?_
      have hsplit : (backYield S E Y I B z q).toList = (backYield S E Y I B z q).toList.take 6 ++ ((backYield S E Y I B z q).toList.drop 6) := by simp
      rw [hsplit]
      refine quiet_list hF (hSR _ W hJ) rfl ha3 (yield_eval ht hx hkN hlen h0 h1) fun act4 ha4 hd4 => ?_
      have hi : N - (k + 1) < (downFrom agg sz cells N).length := by rw [downFrom_length]; omega
      have hargs : Vals L M (downFrom agg sz cells N)[N - (k + 1)] #[act4.eval (.tmp 12), act4.eval (.tmp 16)] := by
        rw [downFrom_get]
        have e : N - 1 - (N - (k + 1)) = k := by omega
        rw [e]
        refine ⟨rfl, fun j h1 h2 => ?_⟩
        have m12 : VRel L M (.int (k : Int)) (act4.eval (.tmp 12)) := by
          have := ha4.ev (.tmp 12)
          simp [ev] at this
          exact this.mono (fun _ _ _ h => by simp at h) (Mem.le_refl _)
        have m16 : VRel L M (elemOf agg sz cells k) (act4.eval (.tmp 16)) := by
          have := ha4.ev (.tmp 16)
          simp [ev] at this
          exact this.mono (fun _ _ _ h => by simp at h) (Mem.le_refl _)
        match j, h1 with
        | 0, _ => exact m12
        | 1, _ => exact m16
      obtain ⟨fn', tmps, assign, body, hyr, hround⟩ := hy (N - (k + 1)) W hi _ hJ hargs (n - 1)
      show wpListIn F n P _ _ (_ :: (backYield S E Y I B z q).toList.drop 7) act4 W
      unfold wpListIn
      rw [if_pos (wanted_ok ha4 (by rfl))]
      refine ⟨fun f _ => hF.fn f, ?_⟩
      have h11 : act4.eval (.tmp 11) = .func (.yield l) #[] #[] := by
        have := ha4.ev (.tmp 11)
        simp [ev] at this
        generalize act4.eval (.tmp 11) = g at *
        cases this; rfl
      rw [Oper.semAt_eq _ _ _ (by intro c hc; exact absurd hc (by simp)), run_yield_op rfl h11 (by simpa using hyr), Oper.uponIn_round]
      refine ⟨fun hd => by rw [hF.depth] at hd; exact absurd hd (by simp), hround.mono fun e W' h => ?_⟩
      have hput : ∀ b : Bool, ARel (fun _ _ => none) M ([.yld l, .pptr cs off, .undef, .int k, .undef, .undef, .undef, .undef, .undef, .undef, .undef, .yld l, .int k, .p (.sl ex N cells), .int k, .pptr cells (k * sz), elemOf agg sz cells k] ++ [.bool b, .undef]) (act4.put (some 17) (.bool b)) := fun b =>
        ha4.put (some 17) (v := .bool b) (v' := .bool b) (.p (.bool b))
      have hd5 : ∀ b : Bool, (act4.put (some 17) (.bool b)).defers = [] := fun b => put_defers.trans (hd4.trans (hd2.trans hd))
      have hmem : ∀ b o v, M b o = some v → W'.cell? ⟨b, o, none⟩ = some v → True := fun _ _ _ _ _ => trivial
      rcases h with ⟨rfl, hJ'⟩ | ⟨rfl, hJx⟩
      · have e : N - (k + 1) + 1 = N - k := by omega
        rw [e] at hJ'
        show wpListIn F n P _ _ ((backYield S E Y I B z q).toList.drop 7) (act4.put (some 17) (.bool true)) W'
        rw [← List.append_nil (List.drop 7 (backYield S E Y I B z q).toList)]
        refine quiet_list hF (hSR _ W' hJ') rfl (hput true) (not_eval rfl .undef) fun act6 ha6 hd6 => ?_
        · refine wpIn_cond_false (cond_ok ha6 (c := .tmp 18) (b := false) (by simp [ev])) (wpIn_skip ?_)
          refine quiet_region hF (hSR _ W' hJ') rfl (hweak (by simp) (by simp) (by simp) (k : Int) (by simp) ha6) (next_eval (by omega) (by omega)) fun act7 ha7 hd7 => ?_
          exact ih act7 W' (by omega) (hweak (by simp) (by simp) (by simp) ((k : Int) - 1) (by simp) ha7) (hd7.trans (hd6.trans (hd5 true))) hJ'
      · have hw : ARel (fun _ _ => none) (fun _ _ => none) ([.undef, .undef, .undef, .undef, .undef, .undef, .undef, .undef, .undef, .undef, .undef, .undef, .undef, .undef, .undef, .undef, .undef] ++ [.bool false, .undef]) (act4.put (some 17) (.bool false)) := by
          refine ⟨by rw [(hput false).size]; rfl, fun t => ?_⟩
          have h17 := (hput false).get 17
          match t with
          | 17 =>
            have e := bool_of (b := false) h17
            rw [e]
            exact .p (.bool false)
          | 0 | 1 | 2 | 3 | 4 | 5 | 6 | 7 | 8 | 9 | 10 | 11 | 12 | 13 | 14 | 15 | 16 | 18 => exact .undef _
          | t + 19 => exact .undef _
        show wpListIn F n P _ _ ((backYield S E Y I B z q).toList.drop 7) (act4.put (some 17) (.bool false)) W'
        rw [← List.append_nil (List.drop 7 (backYield S E Y I B z q).toList)]
        refine quiet_list hF (srel_bare (M := fun _ _ => none) fun b o v h => absurd h (by simp)) rfl hw (not_eval rfl .undef) fun act6 ha6 hd6 => ?_
        refine wpIn_cond_true (cond_ok ha6 (c := .tmp 18) (b := true) (by simp [ev])) (wpIn_ret ?_)
        exact hr0 act6 W' (fun e W' => (∃ v, e = .returned v) ∧ (J N W' ∨ Jx W')) (hd6.trans (hd5 false)) ⟨⟨_, rfl⟩, .inr hJx⟩
  have ha1' : ARel (fun _ _ => none) M (backFrame l cs off (some ((N : Int) - 1))) act1 := by
    refine ha1.weaken (by simp [backFrame]) fun t => ?_
    match t with
    | 0 | 1 | 2 | 3 => exact .inl rfl
    | t + 4 =>
      refine .inr ?_
      show (List.replicate 15 DV.undef).getD t .undef = .undef
      exact repl_undef 15 t
  exact key N act1 W (Nat.le_refl _) ha1' hd1 (by simpa using hJ0)
end Go.D
end
/- D without fuel: what D answers in the limit, in continuation style. -/
section
set_option linter.unusedVariables false
set_option linter.unusedSimpArgs false
namespace Go.D

open Classical in
noncomputable def lim {α : Type} (m : Nat → Option α) : Option α :=
  if h : ∃ r k0, ∀ k, k0 ≤ k → m k = some r then some h.choose else none
theorem lim_some {α : Type} {m : Nat → Option α} {r : α} (h : lim m = some r) : ∃ k0, ∀ k, k0 ≤ k → m k = some r := by
  unfold lim at h
  split at h
  · rename_i hx
    injection h with h; subst h
    exact hx.choose_spec
  · exact absurd h (by simp)
theorem lim_eq {α : Type} {m : Nat → Option α} {r : α} (h : ∃ k0, ∀ k, k0 ≤ k → m k = some r) : lim m = some r := by
  have hx : ∃ r k0, ∀ k, k0 ≤ k → m k = some r := ⟨r, h⟩
  unfold lim
  rw [dif_pos hx]
  obtain ⟨k0, h0⟩ := h
  obtain ⟨k1, h1⟩ := hx.choose_spec
  have e0 := h0 (max k0 k1) (Nat.le_max_left _ _)
  have e1 := h1 (max k0 k1) (Nat.le_max_right _ _)
  rw [← e0, ← e1]
theorem lim_const {α : Type} (o : Option α) : lim (fun _ => o) = o := by
  cases o with
  | some r => exact lim_eq ⟨0, fun _ _ => rfl⟩
  | none =>
    cases h : lim (fun _ : Nat => (none : Option α)) with
    | none => rfl
    | some r => obtain ⟨k0, h0⟩ := lim_some h; exact absurd (h0 k0 (Nat.le_refl _)) (by simp)
theorem lim_succ {α : Type} (m : Nat → Option α) : lim (fun k => m (k + 1)) = lim m := by
  cases h : lim m with
  | some r =>
    obtain ⟨k0, h0⟩ := lim_some h
    exact lim_eq ⟨k0, fun k hk => h0 _ (by omega)⟩
  | none =>
    cases h1 : lim (fun k => m (k + 1)) with
    | none => rfl
    | some r =>
      obtain ⟨k0, h0⟩ := lim_some h1
      have : lim m = some r := lim_eq ⟨k0 + 1, fun k hk => by have := h0 (k - 1) (by omega); rwa [Nat.sub_add_cancel (by omega)] at this⟩
      rw [h] at this
      exact this.symm
noncomputable def callL (P : Program) (pol : FuncId → FPol) : CallF := fun lo f args σ => lim fun k => callK P pol k lo f args σ
noncomputable def iterL (body : Frame → Store → Option St) (a : Frame) (σ : Store) : Option St := lim fun k => iter body k a σ
theorem iterL_eq (body : Frame → Store → Option St) (a : Frame) (σ : Store) : iterL body a σ = match body a σ with
    | some (.normal, a', σ') => iterL body a' σ'
    | r => r := by
  unfold iterL
  rw [← lim_succ]
  simp only [iter]
  cases body a σ with
  | none => exact lim_const none
  | some r =>
    obtain ⟨ex, a', σ'⟩ := r
    cases ex with
    | normal => rfl
    | exit i => exact lim_const _
    | ret => exact lim_const _
def pickV (c x y : DV) : Option DV := match c with
  | .p (.bool b) => some (if b then x else y)
  | _ => none
def boxP (x : DV) : Option DV := (pures x.cells).map fun ps => .pptr ps 0
def boxV (v : DV) : Option (List DV) := if v.cells.all DV.one then some v.cells else none
def nilCheckV : DV → Option DV
  | .ptr r off => some (.ptr r off)
  | .pptr cs off => some (.pptr cs off)
  | _ => none
def extractV (x : DV) (i : Nat) : Option DV := match x with
  | .tuple vs => vs[i]?
  | _ => none
def pureV (call : CallF) (f : FuncId) (args : List DV) (σ : Store) : Option DV :=
  if (args.map view).all rowFree then
    match call 0 f (args.map view) [] with
    | some (v, σ') => thawAll 0 σ' v
    | none => none
  else
    match call σ.length f (args.map view) σ with
    | some (v, σ') => thawAll σ.length σ' v
    | none => none
def pureFn (call : CallF) (g : DV) (args : List DV) (σ : Store) : Option DV := match g with
  | .fn f caps => pureV call f (args ++ caps) σ
  | _ => none
def plainFn (call : CallF) (lo : Nat) (g : DV) (args : List DV) (σ : Store) : Option (DV × Store) := match g with
  | .fn f caps => call lo f (args ++ caps) σ
  | _ => none
theorem pureCall_eq (call : CallF) (f : FuncId) (args : List DV) (σ : Store) : pureCall call f args σ = (pureV call f args σ).map (·, σ) := by
  unfold pureCall pureV
  split
  · cases call 0 f (args.map view) [] <;> rfl
  · cases call σ.length f (args.map view) σ <;> rfl
section
variable {β : Type}

def opK (P : Program) (pl : FPol) (call : CallF) (lo : Nat) (a : Frame) (o : Oper) (σ : Store) (K : DV → Store → Option β) : Option β :=
  match o.op with
  | .move x | .assign x => K (ev a x) σ
  | .pick c x y => (pickV (ev a c) (ev a x) (ev a y)).bind fun v => K v σ
  | .alloc t => (zeroOf P t).bind fun z => K (.ptr σ.length 0) (σ ++ [.mix z])
  | .box _ x => cond (pl.isPbox o.dst) ((boxP (ev a x)).bind fun v => K v σ) ((boxV (ev a x)).bind fun cs => K (.ptr σ.length 0) (σ ++ [.mix cs]))
  | .build t ps => (build P t (ps.toList.map fun q => (q.1, ev a q.2))).bind fun v => K v σ
  | .buildSlice t n ps => (buildSlice P (pl.asRow o.dst) t n (ps.toList.map fun q => (q.1, ev a q.2)) σ).bind fun r => K r.1 r.2
  | .load t x => (loadP P pl o.dst t (ev a x) σ).bind fun v => K v σ
  | .store t x y => (store P lo t (ev a x) (ev a y) σ).bind fun σ' => K .undef σ'
  | .nilCheck x => (nilCheckV (ev a x)).bind fun v => K v σ
  | .binOp op t x y _ => cond (nilConst y) ((ifaceNil P op t (ev a x)).bind fun v => K v σ) ((binOp P op t (ev a x) (ev a y)).bind fun v => K v σ)
  | .unOp op _ x => (unOp op (ev a x)).bind fun v => K v σ
  | .convert s d x => (convert P s d (ev a x)).bind fun v => K v σ
  | .makeFunc (.func f) first caps => if first.size = 0 then K (.fn f (caps.toList.map (ev a))) σ else none
  | .makeMap _ none => K (.map σ.length) (σ ++ [.map []])
  | .makeSlice t l c => (makeSlice P (pl.isMixed o.dst) t (ev a l) (ev a c) σ).bind fun r => K r.1 r.2
  | .slice t x l h m => (sliceOp P t (ev a x) (l.map (ev a)) (h.map (ev a)) (m.map (ev a))).bind fun v => K v σ
  | .fieldAddr t x i => (fieldAddr P t (ev a x) i).bind fun v => K v σ
  | .field t x i => (field P t (ev a x) i).bind fun v => K v σ
  | .indexAddr t x i => (indexAddr P t (ev a x) (ev a i)).bind fun v => K v σ
  | .index t x i => (index P t (ev a x) (ev a i)).bind fun v => K v σ
  | .lookup t x i ok => (lookup P t (ev a x) (ev a i) ok σ).bind fun v => K v σ
  | .mapUpdate t m k v => (mapUpdate P lo t (ev a m) (ev a k) (ev a v) σ).bind fun σ' => K .undef σ'
  | .extract x i => (extractV (ev a x) i).bind fun v => K v σ
  | .call c =>
    match c.callee with
    | .builtin .len => if c.args.size = 1 ∧ c.argTypes.size = 1 then (len P (c.argTypes.getD 0 0) (ev a (c.args.getD 0 (.const undef))) σ).bind fun v => K v σ else none
    | .builtin .append => if c.args.size = 2 ∧ c.argTypes.size = 2 then (append P lo (pl.isMixed o.dst) (c.argTypes.getD 0 0) (c.argTypes.getD 1 0) (ev a (c.args.getD 0 (.const undef))) (ev a (c.args.getD 1 (.const undef))) σ).bind fun r => K r.1 r.2 else none
    | .builtin .max => (maxMin true (c.args.toList.map (ev a))).bind fun v => K v σ
    | .builtin .min => (maxMin false (c.args.toList.map (ev a))).bind fun v => K v σ
    | .builtin .cap => if c.args.size = 1 ∧ c.argTypes.size = 1 then (capOp P (c.argTypes.getD 0 0) (ev a (c.args.getD 0 (.const undef)))).bind fun v => K v σ else none
    | .builtin .clear => if c.args.size = 1 ∧ c.argTypes.size = 1 then (clearOp P lo (c.argTypes.getD 0 0) (ev a (c.args.getD 0 (.const undef))) σ).bind fun σ' => K .undef σ' else none
    | .builtin .copy => if c.args.size = 2 ∧ c.argTypes.size = 2 then (copyOp P lo (c.argTypes.getD 0 0) (ev a (c.args.getD 0 (.const undef))) (ev a (c.args.getD 1 (.const undef))) σ).bind fun r => K r.1 r.2 else none
    | .builtin _ => none
    | .value g => if pl.isPlain o.dst then (plainFn call lo (ev a g) (c.args.toList.map (ev a)) σ).bind fun r => K r.1 r.2
      else (pureFn call (ev a g) (c.args.toList.map (ev a)) σ).bind fun v => K v σ
    | .invoke _ _ => none
  | _ => none
theorem bind_map' {α γ : Type} (m : Option α) (f : α → γ) (K : γ → Option β) : (m.map f).bind K = m.bind fun v => K (f v) := by cases m <;> rfl
theorem opK_eq (P : Program) (pl : FPol) (call : CallF) (lo : Nat) (a : Frame) (o : Oper) (σ : Store) (K : DV → Store → Option β) : opK P pl call lo a o σ K = (op P pl call lo a o σ).bind fun r => K r.1 r.2 := by
  cases ho : o.op <;> simp only [opK, op, ho, bind_map', Option.bind_some, Option.bind_none]
  case pick c x y =>
    unfold pickV
    generalize ev a c = g
    cases g with
    | p v => cases v <;> rfl
    | _ => rfl
  case box =>
    unfold boxV boxP
    cases pl.isPbox o.dst
    · simp only [cond_false, Bool.false_eq_true, if_false]; split <;> rfl
    · simp only [cond_true, if_true]
      cases pures (DV.cells _) <;> rfl
  case binOp op t x y z =>
    cases nilConst y
    · simp only [cond_false, Bool.false_eq_true, if_false, bind_map']
    · simp only [cond_true, if_true, bind_map']
  case nilCheck x =>
    unfold nilCheckV
    generalize ev a x = g
    cases g <;> rfl
  case extract x i =>
    unfold extractV
    generalize ev a x = g
    cases g <;> simp only [bind_map', Option.bind_none]
  case makeFunc f first caps => cases f <;> first | rfl | (simp only []; split <;> rfl)
  case makeMap t n => cases n <;> rfl
  case call c =>
    cases hc : c.callee <;> try rfl
    case builtin b =>
      cases b <;> try rfl
      all_goals first | exact bind_map' _ _ _ | (by_cases h : c.args.size = 1 ∧ c.argTypes.size = 1 <;> simp only [h, and_self, if_true, if_false, bind_map', Option.bind_none]; done) | (by_cases h : c.args.size = 2 ∧ c.argTypes.size = 2 <;> simp only [h, and_self, if_true, if_false, bind_map', Option.bind_none]; done)
    case value g =>
      show (if pl.isPlain o.dst then _ else _) = Option.bind (match ev a g with
        | DV.fn f caps => if pl.isPlain o.dst = true then call lo f (List.map (ev a) c.args.toList ++ caps) σ else pureCall call f (List.map (ev a) c.args.toList ++ caps) σ
        | _ => none) _
      unfold plainFn pureFn
      cases pl.isPlain o.dst <;> cases ev a g <;> first | rfl | (simp only [pureCall_eq, bind_map', Bool.false_eq_true, if_false, if_true]; done) | (simp only [pureCall_eq, bind_map', Bool.false_eq_true, if_false, if_true]; rfl)
def guardVal (all : Array Oper) (a : Frame) (j : Nat) : DV := match (all[j]?).bind (·.dst) with
  | some t => a.getD t .undef
  | none => .undef
def guardK (g : DV) (want : Bool) (m : Option (DV × Store)) (σ : Store) (K : DV → Store → Option β) : Option β := match g with
  | .p (.bool b) => if (b == want) = true then m.bind (fun r => K r.1 r.2) else K .skip σ
  | .tuple [] => K .skip σ
  | _ => none
def opsK (P : Program) (pl : FPol) (call : CallF) (all : Array Oper) (lows : Bool → Store → Nat) : List Oper → List Bool → Frame → Store → (Frame → Store → Option β) → Option β
  | [], _, a, σ, K => K a σ
  | o :: os, cs, a, σ, K => match o.guard with
    | none => opK P pl call (lows (cs.headD true) σ) a o σ fun v σ' => opsK P pl call all lows os cs.tail (put a o.dst v) σ' K
    | some (j, want) => guardK (guardVal all a j) want (opK P pl call (lows (cs.headD true) σ) a o σ fun v σ' => some (v, σ')) σ fun v σ' => opsK P pl call all lows os cs.tail (put a o.dst v) σ' K
theorem wantedD_guard {all : Array Oper} {a : Frame} {o : Oper} {j : Nat} {want : Bool} (h : o.guard = some (j, want)) :
    wantedD all a o = match guardVal all a j with | .p (.bool b) => some (b == want) | .tuple [] => some false | _ => none := by
  unfold wantedD guardVal
  rw [h]
  simp only []
  cases (all[j]?).bind (·.dst) <;> rfl
theorem opsK_eq (P : Program) (pl : FPol) (call : CallF) (all : Array Oper) (lows : Bool → Store → Nat) : ∀ (os : List Oper) (cs : List Bool) (a : Frame) (σ : Store) (K : Frame → Store → Option β),
    opsK P pl call all lows os cs a σ K = (opsD P pl call all lows os cs a σ).bind fun r => K r.1 r.2
  | [], cs, a, σ, K => rfl
  | o :: os, cs, a, σ, K => by
    simp only [opsK, opsD]
    cases hg : o.guard with
    | none =>
      have hw : wantedD all a o = some true := by unfold wantedD; rw [hg]
      rw [hw]
      simp only [opK_eq]
      cases op P pl call (lows (cs.headD true) σ) a o σ with
      | none => rfl
      | some r => exact opsK_eq P pl call all lows os cs.tail _ _ K
    | some g =>
      obtain ⟨j, want⟩ := g
      rw [wantedD_guard hg]
      simp only [opK_eq]
      generalize guardVal all a j = g
      cases g with
      | p v =>
        cases v with
        | bool b =>
          simp only [guardK]
          by_cases hb : (b == want) = true
          · rw [if_pos hb, hb]
            cases op P pl call (lows (cs.headD true) σ) a o σ with
            | none => rfl
            | some r => exact opsK_eq P pl call all lows os cs.tail _ _ K
          · rw [if_neg hb]
            have hb : (b == want) = false := by simpa using hb
            rw [hb]
            exact opsK_eq P pl call all lows os cs.tail _ _ K
        | _ => rfl
      | tuple vs =>
        cases vs with
        | nil => exact opsK_eq P pl call all lows os cs.tail _ _ K
        | cons v vs => rfl
      | _ => rfl
def opsKT (P : Program) (pl : FPol) (call : CallF) (all : Array Oper) (lows : Bool → Store → Nat) : List Oper → List Bool → Frame → Store → List (Frame × Store) → (Frame → Store → List (Frame × Store) → Option β) → Option β
  | [], _, a, σ, tr, K => K a σ (tr ++ [(a, σ)])
  | o :: os, cs, a, σ, tr, K => match o.guard with
    | none => opK P pl call (lows (cs.headD true) σ) a o σ fun v σ' => opsKT P pl call all lows os cs.tail (put a o.dst v) σ' (tr ++ [(a, σ)]) K
    | some (j, want) => guardK (guardVal all a j) want (opK P pl call (lows (cs.headD true) σ) a o σ fun v σ' => some (v, σ')) σ fun v σ' => opsKT P pl call all lows os cs.tail (put a o.dst v) σ' (tr ++ [(a, σ)]) K
theorem opsKT_eq (P : Program) (pl : FPol) (call : CallF) (all : Array Oper) (lows : Bool → Store → Nat) : ∀ (os : List Oper) (cs : List Bool) (a : Frame) (σ : Store) (tr : List (Frame × Store)) (K : Frame → Store → List (Frame × Store) → Option β),
    opsKT P pl call all lows os cs a σ tr K = (opsD P pl call all lows os cs a σ).bind fun r => K r.1 r.2 (tr ++ traceD P pl call all lows os cs a σ)
  | [], cs, a, σ, tr, K => rfl
  | o :: os, cs, a, σ, tr, K => by
    simp only [opsKT, opsD, traceD]
    cases hg : o.guard with
    | none =>
      have hw : wantedD all a o = some true := by unfold wantedD; rw [hg]
      rw [hw]
      simp only [opK_eq]
      cases op P pl call (lows (cs.headD true) σ) a o σ with
      | none => rfl
      | some r =>
        refine (opsKT_eq P pl call all lows os cs.tail _ _ (tr ++ [(a, σ)]) K).trans ?_
        simp only [List.append_assoc, List.singleton_append]
    | some g =>
      obtain ⟨j, want⟩ := g
      rw [wantedD_guard hg]
      simp only [opK_eq]
      generalize guardVal all a j = g
      cases g with
      | p v =>
        cases v with
        | bool b =>
          simp only [guardK]
          by_cases hb : (b == want) = true
          · rw [if_pos hb, hb]
            cases op P pl call (lows (cs.headD true) σ) a o σ with
            | none => rfl
            | some r =>
              refine (opsKT_eq P pl call all lows os cs.tail _ _ (tr ++ [(a, σ)]) K).trans ?_
              simp only [List.append_assoc, List.singleton_append]
          · rw [if_neg hb]
            have hb : (b == want) = false := by simpa using hb
            rw [hb]
            refine (opsKT_eq P pl call all lows os cs.tail _ _ (tr ++ [(a, σ)]) K).trans ?_
            simp only [List.append_assoc, List.singleton_append]
        | _ => rfl
      | tuple vs =>
        cases vs with
        | nil =>
          refine (opsKT_eq P pl call all lows os cs.tail _ _ (tr ++ [(a, σ)]) K).trans ?_
          simp only [List.append_assoc, List.singleton_append]
        | cons v vs => rfl
      | _ => rfl
def condK (c : DV) (x y : Option β) : Option β := match c with
  | .p (.bool true) => x
  | .p (.bool false) => y
  | _ => none
def roundsK (run : List DV → Store → (Ex → Store → Option β) → Option β) : List (List DV) → Store → (Ex → Store → Option β) → Option β
  | [], σ, K => K .normal σ
  | xs :: rest, σ, K => run xs σ fun ex σ' => match ex with
    | .normal => roundsK run rest σ' K
    | ex => K ex σ'
end

noncomputable def loopWith {β : Type} (body : Frame → Store → Option St) (a : Frame) (σ : Store) (K : Ex → Frame → Store → Option β) : Option β :=
  (iterL body a σ).bind fun r => K r.1 r.2.1 r.2.2
noncomputable def codeK (P : Program) (pl : FPol) (call : CallF) (lo : Nat) : Code → {β : Type} → Ann → Frame → Store → (Ex → Frame → Store → Option β) → Option β
  | .skip, _, _, a, σ, K => K .normal a σ
  | .region _ ops draw, _, _, a, σ, K => if draw then (if pl.rload.isEmpty then opsK P pl call ops (lowOf lo) ops.toList (flags pl ops) a σ (K .normal) else opsKT P pl call ops (lowOf lo) ops.toList (flags pl ops) a σ [] fun a' σ' tr => bif stableB P pl ops.toList tr then K .normal a' σ' else none) else opsK P pl call ops (fun _ _ => lo) ops.toList [] a σ (K .normal)
  | .seq x y, _, an, a, σ, K => codeK P pl call lo x an.left a σ fun ex a' σ' => match ex with
    | .normal => codeK P pl call lo y an.right a' σ' K
    | ex => K ex a' σ'
  | .cond c x y, _, an, a, σ, K => condK (ev a c) (codeK P pl call lo x an.left a σ K) (codeK P pl call lo y an.right a σ K)
  | .block id x, _, an, a, σ, K => codeK P pl call lo x an.left a σ fun ex a' σ' => match ex with
    | .normal => K .normal (an.cut a') σ'
    | .exit i => if i = id then K .normal (an.cut a') σ' else K (.exit i) a' σ'
    | .ret => K .ret a' σ'
  | .loop x, _, an, a, σ, K => loopWith (fun a σ => codeK P pl call lo x an.left (an.cut a) σ fun ex a σ => some (ex, a, σ)) (an.cut a) σ K
  | .exit id, _, _, a, σ, K => K (.exit id) a σ
  | .ret, _, _, a, σ, K => K .ret a σ
  | .rangeFunc g ps x y, _, an, a, σ, K => match ev a g with
    | .fn f caps => match (pl.seq f).bind fun kind => seqList kind caps with
      | some xss =>
        if xss.all (·.length == ps.size) && !hasRange x && !hasRange y then
          roundsK (fun xs σ K' => codeK P pl call lo x .nil (putAll ps.toList xs a) σ fun ex a1 σ1 => match ex with
            | .normal => codeK P pl call lo y an.left a1 σ1 fun ex _ σ2 => K' ex σ2
            | _ => none) xss σ fun ex σ' => K ex a σ'
        else none
      | none => none
    | _ => none
  | _, _, _, _, _, _ => none
end Go.D
end
/- D without fuel is sound: what the continuation style answers, the evaluator answers with enough fuel. -/
section
set_option linter.unusedVariables false
set_option linter.unusedSimpArgs false
namespace Go.D

variable {P : Program} {pol : FuncId → FPol}

def Evt {α : Type} (m : Nat → Option α) (r : α) : Prop := ∃ k0, ∀ k, k0 ≤ k → m k = some r
theorem pureV_evt {f : FuncId} {args : List DV} {σ : Store} {v : DV} (h : pureV (callL P pol) f args σ = some v) : Evt (fun k => pureV (callK P pol k) f args σ) v := by
  unfold pureV at h
  split at h
  · rename_i hc
    split at h
    · rename_i v1 σ1 h1
      obtain ⟨k0, h0⟩ := lim_some h1
      refine ⟨k0, fun k hk => ?_⟩
      show pureV _ _ _ _ = _
      unfold pureV
      rw [if_pos hc, h0 k hk]
      exact h
    · exact absurd h (by simp)
  · rename_i hc
    split at h
    · rename_i v1 σ1 h1
      obtain ⟨k0, h0⟩ := lim_some h1
      refine ⟨k0, fun k hk => ?_⟩
      show pureV _ _ _ _ = _
      unfold pureV
      rw [if_neg hc, h0 k hk]
      exact h
    · exact absurd h (by simp)
theorem op_evt {pl : FPol} {lo : Nat} {a : Frame} {o : Oper} {σ : Store} {r : DV × Store} (h : op P pl (callL P pol) lo a o σ = some r) : Evt (fun k => op P pl (callK P pol k) lo a o σ) r := by
  unfold op at h
  cases ho : o.op with
  | call c =>
    simp only [ho] at h
    cases hc : c.callee with
    | value g =>
      simp only [hc] at h
      cases hg : ev a g with
      | fn f caps =>
        simp only [hg] at h
        by_cases hp : pl.isPlain o.dst = true
        · rw [if_pos hp] at h
          obtain ⟨k0, h0⟩ := lim_some h
          refine ⟨k0, fun k hk => ?_⟩
          simp only [op, ho, hc, hg, if_pos hp]
          exact h0 k hk
        · rw [if_neg hp, pureCall_eq] at h
          obtain ⟨v, hv, rfl⟩ := Option.map_eq_some_iff.1 h
          obtain ⟨k0, h0⟩ := pureV_evt hv
          refine ⟨k0, fun k hk => ?_⟩
          simp only [op, ho, hc, hg, if_neg hp, pureCall_eq]
          have := h0 k hk
          simp only [this, Option.map_some]
      | _ => simp [hg] at h
    | builtin b => cases b <;> exact ⟨0, fun k _ => by unfold op; simp only [ho, hc]; simpa only [hc] using h⟩
    | invoke r m => exact ⟨0, fun k _ => by unfold op; simp only [ho, hc]; simpa only [hc] using h⟩
  | makeFunc f first caps => cases f <;> exact ⟨0, fun k _ => by unfold op; simpa only [ho] using h⟩
  | makeMap t n => cases n <;> exact ⟨0, fun k _ => by unfold op; simpa only [ho] using h⟩
  | _ => exact ⟨0, fun k _ => by unfold op; simpa only [ho] using h⟩
theorem opsD_evt {pl : FPol} {all : Array Oper} {lows : Bool → Store → Nat} : ∀ {os : List Oper} {cs : List Bool} {a : Frame} {σ : Store} {r : Frame × Store}, opsD P pl (callL P pol) all lows os cs a σ = some r → Evt (fun k => opsD P pl (callK P pol k) all lows os cs a σ) r
  | [], cs, a, σ, r, h => ⟨0, fun _ _ => h⟩
  | o :: os, cs, a, σ, r, h => by
    simp only [opsD] at h
    split at h
    · rename_i hw
      split at h
      · rename_i v σ1 h1
        obtain ⟨k0, h0⟩ := op_evt h1
        obtain ⟨k1, h2⟩ := opsD_evt h
        refine ⟨max k0 k1, fun k hk => ?_⟩
        simp only [opsD, hw, h0 k (by omega), h2 k (by omega)]
      · exact absurd h (by simp)
    · rename_i hw
      obtain ⟨k1, h2⟩ := opsD_evt h
      exact ⟨k1, fun k hk => by simp only [opsD, hw, h2 k hk]⟩
    · exact absurd h (by simp)
theorem traceD_evt {pl : FPol} {all : Array Oper} {lows : Bool → Store → Nat} : ∀ {os : List Oper} {cs : List Bool} {a : Frame} {σ : Store} {r : Frame × Store}, opsD P pl (callL P pol) all lows os cs a σ = some r → ∃ k0, ∀ k, k0 ≤ k → traceD P pl (callK P pol k) all lows os cs a σ = traceD P pl (callL P pol) all lows os cs a σ
  | [], cs, a, σ, r, h => ⟨0, fun _ _ => rfl⟩
  | o :: os, cs, a, σ, r, h => by
    simp only [opsD] at h
    split at h
    · rename_i hw
      split at h
      · rename_i v σ1 h1
        obtain ⟨k0, h0⟩ := op_evt h1
        obtain ⟨k1, h2⟩ := traceD_evt h
        refine ⟨max k0 k1, fun k hk => ?_⟩
        simp only [traceD, hw, h0 k (by omega), h1, h2 k (by omega)]
      · exact absurd h (by simp)
    · rename_i hw
      obtain ⟨k1, h2⟩ := traceD_evt h
      exact ⟨k1, fun k hk => by simp only [traceD, hw, h2 k hk]⟩
    · exact absurd h (by simp)
theorem bind_some' {α γ : Type} {m : Option α} {K : α → Option γ} {r : γ} (h : m.bind K = some r) : ∃ x, m = some x ∧ K x = some r := Option.bind_eq_some_iff.1 h
theorem region_evt {β : Type} {pl : FPol} {lo id : Nat} {ops : Array Oper} {draw : Bool} {an : Ann} {a : Frame} {σ : Store} {K : Ex → Frame → Store → Option β} {r : β} (h : codeK P pl (callL P pol) lo (.region id ops draw) an a σ K = some r) :
    ∃ a' σ', K .normal a' σ' = some r ∧ Evt (fun k => region P pl (callK P pol k) lo ops draw a σ) (a', σ') := by
  unfold codeK at h
  cases draw with
  | true =>
    simp only [if_true, opsK_eq] at h
    split at h
    · rename_i he
      obtain ⟨⟨a', σ'⟩, h1, h2⟩ := bind_some' h
      obtain ⟨k0, h0⟩ := opsD_evt h1
      exact ⟨a', σ', h2, k0, fun k hk => by simp only [region, if_true, he, Bool.true_or]; exact h0 k hk⟩
    · rw [opsKT_eq] at h
      obtain ⟨⟨a', σ'⟩, h1, h2⟩ := bind_some' h
      simp only [List.nil_append] at h2
      obtain ⟨k0, h0⟩ := opsD_evt h1
      obtain ⟨k1, h3⟩ := traceD_evt h1
      cases hs : stableB P pl ops.toList (traceD P pl (callL P pol) ops (lowOf lo) ops.toList (flags pl ops) a σ) with
      | false => rw [hs] at h2; exact absurd h2 (by simp)
      | true =>
        rw [hs] at h2
        refine ⟨a', σ', h2, max k0 k1, fun k hk => ?_⟩
        simp only [region, if_true, h3 k (by omega), hs, Bool.or_true]
        exact h0 k (by omega)
  | false =>
    simp only [Bool.false_eq_true, if_false, opsK_eq] at h
    obtain ⟨⟨a', σ'⟩, h1, h2⟩ := bind_some' h
    obtain ⟨k0, h0⟩ := opsD_evt h1
    exact ⟨a', σ', h2, k0, fun k hk => by simp only [region, Bool.false_eq_true, if_false]; exact h0 k hk⟩
theorem mask_mask : ∀ (m : List Bool) (a : Frame), mask m (mask m a) = mask m a
  | _, [] => by simp [mask]
  | [], v :: a => by simp [mask, mask_mask [] a]
  | b :: m, v :: a => by cases b <;> simp [mask, mask_mask m a]
theorem cut_cut (an : Ann) (a : Frame) : an.cut (an.cut a) = an.cut a := by
  cases an with
  | keep m an => exact mask_mask m a
  | _ => rfl
theorem codeK_evt {pl : FPol} {lo : Nat} : ∀ (c : Code) {β : Type} {an : Ann} {a : Frame} {σ : Store} {K : Ex → Frame → Store → Option β} {r : β}, codeK P pl (callL P pol) lo c an a σ K = some r →
    ∃ ex a' σ', K ex a' σ' = some r ∧ Evt (fun k => code P pl (callK P pol k) k lo c an a σ) (ex, a', σ') := by
  intro c
  induction c with
  | skip =>
    intro β an a σ K r h
    exact ⟨_, a, σ, h, 0, fun _ _ => rfl⟩
  | region id ops draw =>
    intro β an a σ K r h
    obtain ⟨a', σ', h1, k0, h2⟩ := region_evt h
    exact ⟨.normal, a', σ', h1, k0, fun k hk => by simp only [code, h2 k hk, Option.map_some]⟩
  | seq x y ihx ihy =>
    intro β an a σ K r h
    unfold codeK at h
    obtain ⟨ex, a1, σ1, h1, k0, h0⟩ := ihx h
    cases ex with
    | normal =>
      obtain ⟨ex2, a2, σ2, h2, k1, h3⟩ := ihy h1
      exact ⟨ex2, a2, σ2, h2, max k0 k1, fun k hk => by simp only [code, h0 k (by omega), h3 k (by omega)]⟩
    | exit i => exact ⟨_, a1, σ1, h1, k0, fun k hk => by simp only [code, h0 k hk]⟩
    | ret => exact ⟨_, a1, σ1, h1, k0, fun k hk => by simp only [code, h0 k hk]⟩
  | cond c x y ihx ihy =>
    intro β an a σ K r h
    unfold codeK condK at h
    split at h
    · rename_i hc
      obtain ⟨ex, a1, σ1, h1, k0, h0⟩ := ihx h
      exact ⟨ex, a1, σ1, h1, k0, fun k hk => by simp only [code, hc]; exact h0 k hk⟩
    · rename_i hc
      obtain ⟨ex, a1, σ1, h1, k0, h0⟩ := ihy h
      exact ⟨ex, a1, σ1, h1, k0, fun k hk => by simp only [code, hc]; exact h0 k hk⟩
    · exact absurd h (by simp)
  | block id x ih =>
    intro β an a σ K r h
    unfold codeK at h
    obtain ⟨ex, a1, σ1, h1, k0, h0⟩ := ih h
    cases ex with
    | normal => exact ⟨_, _, σ1, h1, k0, fun k hk => by simp only [code, h0 k hk]⟩
    | exit i =>
      simp only [] at h1
      by_cases hi : i = id
      · rw [if_pos hi] at h1
        exact ⟨_, _, σ1, h1, k0, fun k hk => by simp only [code, h0 k hk, if_pos hi]⟩
      · rw [if_neg hi] at h1
        exact ⟨_, _, σ1, h1, k0, fun k hk => by simp only [code, h0 k hk, if_neg hi]⟩
    | ret => exact ⟨_, a1, σ1, h1, k0, fun k hk => by simp only [code, h0 k hk]⟩
  | loop x ih =>
    intro β an a σ K r h
    unfold codeK loopWith at h
    obtain ⟨⟨ex, a', σ'⟩, h1, h2⟩ := bind_some' h
    obtain ⟨j, hj⟩ := lim_some h1
    have hj := hj j (Nat.le_refl _)
    have key : ∀ (j : Nat) (a : Frame) (σ : Store), iter (fun a σ => codeK P pl (callL P pol) lo x an.left (an.cut a) σ fun ex a σ => some (ex, a, σ)) j a σ = some (ex, a', σ') →
        ∃ k0, ∀ k n, k0 ≤ k → k0 ≤ n → iter (fun a σ => code P pl (callK P pol k) k lo x an.left (an.cut a) σ) n a σ = some (ex, a', σ') := by
      intro j
      induction j with
      | zero => intro a σ h; exact absurd h (by simp [iter])
      | succ j ihj =>
        intro a σ h
        simp only [iter] at h
        split at h
        · rename_i a1 σ1 hb
          obtain ⟨ex2, a2, σ2, e, k0, h0⟩ := ih hb
          injection e with e; injection e with e1 e2; injection e2 with e2 e3; subst e1; subst e2; subst e3
          obtain ⟨k1, h3⟩ := ihj a2 σ2 h
          refine ⟨max k0 k1 + 1, fun k n hk hn => ?_⟩
          match n, hn with
          | n + 1, hn => simp only [iter, h0 k (by omega), h3 k n (by omega) (by omega)]
        · rename_i hne
          obtain ⟨ex2, a2, σ2, e, k0, h0⟩ := ih h
          injection e with e; injection e with e1 e2; injection e2 with e2 e3; subst e1; subst e2; subst e3
          refine ⟨k0 + 1, fun k n hk hn => ?_⟩
          match n, hn with
          | n + 1, hn =>
            simp only [iter, h0 k (by omega)]
            cases ex2 with
            | normal => exact absurd h (hne a2 σ2)
            | exit i => rfl
            | ret => rfl
    obtain ⟨k0, h0⟩ := key j _ σ hj
    refine ⟨ex, a', σ', h2, k0 + 1, fun k hk => ?_⟩
    simp only [code]
    have := h0 k k (by omega) (by omega)
    match k, hk with
    | k + 1, hk =>
      simp only [iter, cut_cut] at this ⊢
      exact this
  | exit id =>
    intro β an a σ K r h
    exact ⟨_, a, σ, h, 0, fun _ _ => rfl⟩
  | ret =>
    intro β an a σ K r h
    exact ⟨_, a, σ, h, 0, fun _ _ => rfl⟩
  | rangeFunc g ps x y ihx ihy =>
    intro β an a σ K r h
    unfold codeK at h
    split at h
    · rename_i f caps hg
      split at h
      · rename_i xss hx
        split at h
        · rename_i hc
          have key : ∀ (xss : List (List DV)) (σ : Store), roundsK (fun xs σ K' => codeK P pl (callL P pol) lo x .nil (putAll ps.toList xs a) σ fun ex a1 σ1 => match ex with
              | .normal => codeK P pl (callL P pol) lo y an.left a1 σ1 fun ex _ σ2 => K' ex σ2
              | _ => none) xss σ (fun ex σ' => K ex a σ') = some r →
              ∃ ex σ', K ex a σ' = some r ∧ Evt (fun k => roundsD (roundWith (fun a σ => code P pl (callK P pol k) k lo x .nil a σ) (fun a σ => code P pl (callK P pol k) k lo y an.left a σ) ps.toList a) xss σ) (ex, σ') := by
            intro xss
            induction xss with
            | nil => intro σ h; exact ⟨.normal, σ, h, 0, fun _ _ => rfl⟩
            | cons xs xss ihr =>
              intro σ h
              simp only [roundsK] at h
              obtain ⟨ex1, a1, σ1, h1, k0, h0⟩ := ihx h
              cases ex1 with
              | normal =>
                obtain ⟨ex2, a2, σ2, h2, k1, h3⟩ := ihy h1
                have hrw : ∀ k, max k0 k1 ≤ k → roundWith (fun a σ => code P pl (callK P pol k) k lo x .nil a σ) (fun a σ => code P pl (callK P pol k) k lo y an.left a σ) ps.toList a xs σ = some (ex2, σ2) := fun k hk => by
                  simp only [roundWith, h0 k (by omega), h3 k (by omega)]
                cases ex2 with
                | normal =>
                  obtain ⟨ex3, σ3, h4, k2, h5⟩ := ihr σ2 h2
                  refine ⟨ex3, σ3, h4, max (max k0 k1) k2, fun k hk => ?_⟩
                  simp only [roundsD, hrw k (by omega), h5 k (by omega)]
                | exit i => exact ⟨_, σ2, h2, max k0 k1, fun k hk => by simp only [roundsD, hrw k (by omega)]⟩
                | ret => exact ⟨_, σ2, h2, max k0 k1, fun k hk => by simp only [roundsD, hrw k (by omega)]⟩
              | exit i => exact absurd h1 (by simp)
              | ret => exact absurd h1 (by simp)
          obtain ⟨ex, σ', h1, k0, h0⟩ := key xss σ h
          refine ⟨ex, a, σ', h1, k0, fun k hk => ?_⟩
          simp only [code, hg, hx, if_pos hc]
          have := h0 k hk
          simp only at this
          rw [this]
          rfl
        · exact absurd h (by simp)
      · exact absurd h (by simp)
    · exact absurd h (by simp)
  | _ =>
    intro β an a σ K r h
    unfold codeK at h
    exact absurd h (by simp)
def finK (P : Program) (rs : List ResultVar) : Ex → Frame → Store → Option (DV × Store)
  | .normal, a, σ | .ret, a, σ => (resultsOf P a σ rs).bind fun vs => some (wrap vs, σ)
  | _, _, _ => none
theorem callL_of {f lo : Nat} {fn : Func} {c : Code} {args : List DV} {σ : Store} {r : DV × Store} (hf : P.funcs[f]? = some fn) (hname : (fn.name == "runtime.NumGoroutine") = false) (hb : fn.body = some c) (hd : drawsOk c = true)
    (h : codeK P (pol f) (callL P pol) lo c (pol f).ann (args ++ List.replicate (fn.ntmps - args.length) .undef) σ (finK P fn.results.toList) = some r) : callL P pol lo f args σ = some r := by
  obtain ⟨ex, a', σ', h1, k0, h0⟩ := codeK_evt c h
  refine lim_eq ⟨k0 + 1, fun k hk => ?_⟩
  match k, hk with
  | k + 1, hk =>
    have h0 := h0 k (by omega)
    simp only at h0
    simp only [callK, hf, hname, hb, hd, Bool.true_eq_false, if_false, h0]
    cases ex with
    | normal => obtain ⟨vs, hv, he⟩ := bind_some' h1; simp only [hv, Option.map_some]; exact he
    | ret => obtain ⟨vs, hv, he⟩ := bind_some' h1; simp only [hv, Option.map_some]; exact he
    | exit i => exact absurd h1 (by simp [finK])
theorem codeK_bind {pl : FPol} {call : CallF} {lo : Nat} : ∀ (c : Code) {β γ : Type} {an : Ann} {a : Frame} {σ : Store} {K : Ex → Frame → Store → Option β} {J : β → Option γ},
    (codeK P pl call lo c an a σ K).bind J = codeK P pl call lo c an a σ fun ex a σ => (K ex a σ).bind J := by
  have hroundsK : ∀ {β γ : Type} {run : {β : Type} → List DV → Store → (Ex → Store → Option β) → Option β} (hr : ∀ {β γ : Type} xs σ (K : Ex → Store → Option β) (J : β → Option γ), (run xs σ K).bind J = run xs σ fun ex σ => (K ex σ).bind J) (J : β → Option γ) (K : Ex → Store → Option β) (xss : List (List DV)) (σ : Store),
      (roundsK run xss σ K).bind J = roundsK run xss σ fun ex σ => (K ex σ).bind J := by
    intro β γ run hr J K xss
    induction xss with
    | nil => intro σ; rfl
    | cons xs xss ih =>
      intro σ
      simp only [roundsK, hr]
      congr 1
      funext ex σ'
      cases ex with
      | normal => exact ih σ'
      | exit i => rfl
      | ret => rfl
  intro c
  induction c with
  | skip => intros; rfl
  | region id ops draw =>
    intro β γ an a σ K J
    cases draw with
    | false => simp only [codeK, opsK_eq, Option.bind_assoc, Bool.false_eq_true, if_false]
    | true =>
      simp only [codeK, opsK_eq, if_true]
      split
      · simp only [Option.bind_assoc]
      · simp only [opsKT_eq, Option.bind_assoc, List.nil_append]
        congr 1
        funext r
        cases stableB P pl ops.toList (traceD P pl call ops (lowOf lo) ops.toList (flags pl ops) a σ) <;> rfl
  | seq x y ihx ihy =>
    intro β γ an a σ K J
    simp only [codeK, ihx]
    congr 1
    funext ex a' σ'
    cases ex with
    | normal => exact ihy
    | exit i => rfl
    | ret => rfl
  | cond c x y ihx ihy =>
    intro β γ an a σ K J
    simp only [codeK, ← ihx, ← ihy]
    unfold condK
    split <;> rfl
  | block id x ih =>
    intro β γ an a σ K J
    simp only [codeK, ih]
    congr 1
    funext ex a' σ'
    cases ex with
    | normal => rfl
    | exit i => simp only []; split <;> rfl
    | ret => rfl
  | loop x ih =>
    intro β γ an a σ K J
    simp only [codeK, loopWith, Option.bind_assoc]
  | exit id => intros; rfl
  | ret => intros; rfl
  | rangeFunc g ps x y ihx ihy =>
    intro β γ an a σ K J
    simp only [codeK]
    split
    · split
      · split
        · refine hroundsK (run := fun {β} xs σ K' => codeK P pl call lo x .nil (putAll ps.toList xs a) σ fun ex a1 σ1 => match ex with
              | .normal => codeK P pl call lo y an.left a1 σ1 fun ex _ σ2 => K' ex σ2
              | _ => none) (fun xs σ K J => ?_) J _ _ _
          rw [ihx]
          congr 1
          funext ex a1 σ1
          cases ex with
          | normal => exact ihy
          | exit i => rfl
          | ret => rfl
        · rfl
      · rfl
    · rfl
  | _ => intros; rfl
theorem loop_eq {β : Type} {pl : FPol} {call : CallF} {lo : Nat} {x : Code} {an : Ann} {a : Frame} {σ : Store} {K : Ex → Frame → Store → Option β} :
    codeK P pl call lo (.loop x) an a σ K = codeK P pl call lo x an.left (an.cut a) σ fun ex a' σ' => match ex with
      | .normal => codeK P pl call lo (.loop x) an a' σ' K
      | ex => K ex a' σ' := by
  have hcut : ∀ a σ, iterL (fun a σ => codeK P pl call lo x an.left (an.cut a) σ fun ex a σ => some (ex, a, σ)) (an.cut a) σ = iterL (fun a σ => codeK P pl call lo x an.left (an.cut a) σ fun ex a σ => some (ex, a, σ)) a σ := by
    intro a σ
    rw [iterL_eq, iterL_eq _ a]
    simp only [cut_cut]
  have h1 : codeK P pl call lo (.loop x) an a σ K = (iterL (fun a σ => codeK P pl call lo x an.left (an.cut a) σ fun ex a σ => some (ex, a, σ)) a σ).bind fun r => K r.1 r.2.1 r.2.2 := by
    simp only [codeK, loopWith, hcut]
  rw [h1, iterL_eq]
  have h2 : ∀ (J : St → Option β), (codeK P pl call lo x an.left (an.cut a) σ fun ex a σ => some (ex, a, σ)).bind J = codeK P pl call lo x an.left (an.cut a) σ fun ex a σ => J (ex, a, σ) := by
    intro J
    rw [codeK_bind]
    rfl
  refine Eq.trans ?_ (h2 fun r => match r.1 with
    | .normal => codeK P pl call lo (.loop x) an r.2.1 r.2.2 K
    | ex => K ex r.2.1 r.2.2)
  generalize (codeK P pl call lo x an.left (an.cut a) σ fun ex a σ => some (ex, a, σ)) = o
  cases o with
  | none => rfl
  | some r =>
    obtain ⟨ex, a', σ'⟩ := r
    cases ex with
    | normal => simp only [Option.bind_some, codeK, loopWith, hcut]
    | exit i => rfl
    | ret => rfl
end Go.D
end
/- More fuel answers the same. -/
section
set_option linter.unusedVariables false
set_option linter.unusedSimpArgs false
namespace Go.D

variable {P : Program}

def CallLe (c c' : CallF) : Prop := ∀ lo f args σ r, c lo f args σ = some r → c' lo f args σ = some r
theorem pureCall_le {c c' : CallF} (h : CallLe c c') {f : FuncId} {args : List DV} {σ : Store} {r : DV × Store} (hr : pureCall c f args σ = some r) : pureCall c' f args σ = some r := by
  unfold pureCall at hr ⊢
  split at hr
  · rename_i hc
    rw [if_pos hc]
    split at hr
    · rename_i v1 σ1 h1
      rw [h _ _ _ _ _ h1]; exact hr
    · exact absurd hr (by simp)
  · rename_i hc
    rw [if_neg hc]
    split at hr
    · rename_i v1 σ1 h1
      rw [h _ _ _ _ _ h1]; exact hr
    · exact absurd hr (by simp)
theorem op_le {c c' : CallF} (h : CallLe c c') {pl : FPol} {lo : Nat} {a : Frame} {o : Oper} {σ : Store} {r : DV × Store} (hr : op P pl c lo a o σ = some r) : op P pl c' lo a o σ = some r := by
  unfold op at hr
  cases ho : o.op with
  | call q =>
    simp only [ho] at hr
    cases hc : q.callee with
    | value g =>
      simp only [hc] at hr
      cases hg : ev a g with
      | fn f caps =>
        simp only [hg] at hr
        simp only [op, ho, hc, hg]
        by_cases hp : pl.isPlain o.dst = true
        · rw [if_pos hp] at hr ⊢
          exact h _ _ _ _ _ hr
        · rw [if_neg hp] at hr ⊢
          exact pureCall_le h hr
      | _ => simp [hg] at hr
    | builtin b => cases b <;> (unfold op; simp only [ho, hc]; simpa only [hc] using hr)
    | invoke r m => unfold op; simp only [ho, hc]; simpa only [hc] using hr
  | makeFunc f first caps => cases f <;> (unfold op; simpa only [ho] using hr)
  | makeMap t n => cases n <;> (unfold op; simpa only [ho] using hr)
  | _ => unfold op; simpa only [ho] using hr
theorem opsD_le {c c' : CallF} (h : CallLe c c') {pl : FPol} {all : Array Oper} {lows : Bool → Store → Nat} : ∀ {os : List Oper} {cs : List Bool} {a : Frame} {σ : Store} {r : Frame × Store}, opsD P pl c all lows os cs a σ = some r → opsD P pl c' all lows os cs a σ = some r
  | [], cs, a, σ, r, hr => hr
  | o :: os, cs, a, σ, r, hr => by
    simp only [opsD] at hr ⊢
    split at hr
    · rename_i hw
      split at hr
      · rename_i v σ1 h1
        simp only [hw, op_le h h1]
        exact opsD_le h hr
      · exact absurd hr (by simp)
    · rename_i hw
      try simp only [hw]
      exact opsD_le h hr
    · exact absurd hr (by simp)
theorem traceD_le {c c' : CallF} (h : CallLe c c') {pl : FPol} {all : Array Oper} {lows : Bool → Store → Nat} : ∀ {os : List Oper} {cs : List Bool} {a : Frame} {σ : Store} {r : Frame × Store}, opsD P pl c all lows os cs a σ = some r → traceD P pl c all lows os cs a σ = traceD P pl c' all lows os cs a σ
  | [], cs, a, σ, r, hr => rfl
  | o :: os, cs, a, σ, r, hr => by
    simp only [opsD] at hr
    simp only [traceD]
    split at hr
    · rename_i hw
      split at hr
      · rename_i v σ1 h1
        simp only [hw, h1, op_le h h1, traceD_le h hr]
      · exact absurd hr (by simp)
    · rename_i hw
      simp only [hw, traceD_le h hr]
    · exact absurd hr (by simp)
theorem iter_le {b b' : Frame → Store → Option St} (h : ∀ a σ r, b a σ = some r → b' a σ = some r) : ∀ (k k' : Nat) (a : Frame) (σ : Store) (r : St), k ≤ k' → iter b k a σ = some r → iter b' k' a σ = some r
  | 0, k', a, σ, r, hk, hr => absurd hr (by simp [iter])
  | k + 1, 0, a, σ, r, hk, hr => absurd hk (by omega)
  | k + 1, k' + 1, a, σ, r, hk, hr => by
    simp only [iter] at hr ⊢
    split at hr
    · rename_i a1 σ1 h1
      rw [h _ _ _ h1]
      exact iter_le h k k' a1 σ1 r (by omega) hr
    · rename_i hne
      have h2 := h _ _ _ hr
      rw [h2]
      obtain ⟨ex, a1, σ1⟩ := r
      cases ex with
      | normal => exact absurd hr (hne a1 σ1)
      | exit i => rfl
      | ret => rfl
theorem roundsD_le {b b' : List DV → Store → Option (Ex × Store)} (h : ∀ xs σ r, b xs σ = some r → b' xs σ = some r) : ∀ (xss : List (List DV)) (σ : Store) (r : Ex × Store), roundsD b xss σ = some r → roundsD b' xss σ = some r
  | [], σ, r, hr => hr
  | xs :: xss, σ, r, hr => by
    simp only [roundsD] at hr ⊢
    split at hr
    · rename_i σ1 h1
      rw [h _ _ _ h1]
      exact roundsD_le h xss σ1 r hr
    · rename_i hne
      have h2 := h _ _ _ hr
      rw [h2]
      obtain ⟨ex, σ1⟩ := r
      cases ex with
      | normal => exact absurd hr (hne σ1)
      | exit i => rfl
      | ret => rfl
theorem code_le {c c' : CallF} (h : CallLe c c') {pl : FPol} {k k' lo : Nat} (hk : k ≤ k') : ∀ (x : Code) (an : Ann) (a : Frame) (σ : Store) (r : St), code P pl c k lo x an a σ = some r → code P pl c' k' lo x an a σ = some r := by
  intro x
  induction x with
  | region id ops draw =>
    intro an a σ r hr
    simp only [code] at hr ⊢
    obtain ⟨⟨a1, σ1⟩, h1, rfl⟩ := Option.map_eq_some_iff.1 hr
    have : region P pl c' lo ops draw a σ = some (a1, σ1) := by
      unfold region at h1 ⊢
      cases draw with
      | true =>
        simp only [if_true] at h1 ⊢
        split at h1
        · rename_i hst
          have hst2 : (pl.rload.isEmpty || stableB P pl ops.toList (traceD P pl c' ops (lowOf lo) ops.toList (flags pl ops) a σ)) = true := by
            rw [← traceD_le h h1]; exact hst
          rw [if_pos hst2]
          exact opsD_le h h1
        · exact absurd h1 (by simp)
      | false => simp only [Bool.false_eq_true, if_false] at h1 ⊢; exact opsD_le h h1
    rw [this]; rfl
  | seq x y ihx ihy =>
    intro an a σ r hr
    simp only [code] at hr ⊢
    split at hr
    · rename_i a1 σ1 h1
      rw [ihx _ _ _ _ h1]
      exact ihy _ _ _ _ hr
    · rename_i hne
      have h2 := ihx _ _ _ _ hr
      rw [h2]
      obtain ⟨ex, a1, σ1⟩ := r
      cases ex with
      | normal => exact absurd hr (hne a1 σ1)
      | exit i => rfl
      | ret => rfl
  | cond q x y ihx ihy =>
    intro an a σ r hr
    simp only [code] at hr ⊢
    split at hr
    · rename_i hc; (try simp only [hc]); exact ihx _ _ _ _ hr
    · rename_i hc; (try simp only [hc]); exact ihy _ _ _ _ hr
    · exact absurd hr (by simp)
  | block id x ih =>
    intro an a σ r hr
    simp only [code] at hr ⊢
    split at hr
    · rename_i h1; rw [ih _ _ _ _ h1]; exact hr
    · rename_i h1; rw [ih _ _ _ _ h1]; exact hr
    · rename_i h1; rw [ih _ _ _ _ h1]; exact hr
    · exact absurd hr (by simp)
  | loop x ih =>
    intro an a σ r hr
    simp only [code] at hr ⊢
    exact iter_le (fun a σ r hr => ih _ _ _ _ hr) _ _ _ _ _ hk hr
  | rangeFunc g ps x y ihx ihy =>
    intro an a σ r hr
    simp only [code] at hr ⊢
    split at hr
    · rename_i f caps hg
      try simp only [hg]
      split at hr
      · rename_i xss hx
        try simp only [hx]
        split at hr
        · rename_i hc
          rw [if_pos hc]
          obtain ⟨⟨ex, σ1⟩, h1, rfl⟩ := Option.map_eq_some_iff.1 hr
          rw [roundsD_le (fun xs σ r hr => ?_) _ _ _ h1]
          · rfl
          · obtain ⟨ex, σ2⟩ := r
            obtain ⟨a1, σ1, a2, h2, h3⟩ := roundWith_some hr
            simp only [roundWith, ihx _ _ _ _ h2, ihy _ _ _ _ h3]
        · exact absurd hr (by simp)
      · exact absurd hr (by simp)
    · exact absurd hr (by simp)
  | _ =>
    intro an a σ r hr
    simp only [code] at hr ⊢
    exact hr
theorem callK_le {pol : FuncId → FPol} : ∀ k, CallLe (callK P pol k) (callK P pol (k + 1))
  | 0 => fun lo f args σ r h => absurd h (by simp [callK])
  | k + 1 => by
    intro lo f args σ r h
    rw [callK] at h ⊢
    split at h
    · rename_i fn hf
      split at h
      · rename_i c hname hb
        try simp only [hf, hname, hb]
        split at h
        · exact absurd h (by simp)
        rename_i hd
        rw [if_neg hd]
        split at h
        · rename_i a1 σ1 h1
          rw [code_le (callK_le k) (Nat.le_succ k) _ _ _ _ _ h1]
          exact h
        · rename_i a1 σ1 h1
          rw [code_le (callK_le k) (Nat.le_succ k) _ _ _ _ _ h1]
          exact h
        · exact absurd h (by simp)
      · exact absurd h (by simp)
    · exact absurd h (by simp)
theorem callL_at {pol : FuncId → FPol} {k lo : Nat} {f : FuncId} {args : List DV} {σ : Store} {r : DV × Store} (h : callK P pol k lo f args σ = some r) : callL P pol lo f args σ = some r := by
  refine lim_eq ⟨k, fun m hm => ?_⟩
  obtain ⟨d, rfl⟩ := Nat.exists_eq_add_of_le hm
  clear hm
  induction d with
  | zero => exact h
  | succ d ih => exact callK_le (k + d) _ _ _ _ _ ih
end Go.D
end
/- The continuation style once more, so that a kernel works out frames as it goes. -/
section
set_option linter.unusedVariables false
set_option linter.unusedSimpArgs false
namespace Go.D

section
variable {β : Type}
def tall : Unit := (fun (_ : DV → Bool → Option (DV × Store) → Store → (DV → Store → Option Unit) → Option Unit) => ()) guardK
def high (x : β) : β := match tall with | () => x
theorem high_eq (x : β) : high x = x := rfl
def getK : List DV → Nat → (DV → β) → β
  | [], _, K => K .undef
  | x :: _, 0, K => high (K x)
  | _ :: xs, n + 1, K => getK xs n K
theorem getK_eq : ∀ (a : List DV) (n : Nat) (K : DV → β), getK a n K = K (a.getD n .undef)
  | [], n, K => by simp [getK]
  | x :: _, 0, K => rfl
  | _ :: xs, n + 1, K => by simpa [getK] using getK_eq xs n K
def evK (a : Frame) (x : Operand) (K : DV → β) : β := match x with
  | .tmp t => getK a t K
  | .const v => K (cst v)
  | .global _ => K .undef
  | .func f => K (.fn f [])
theorem evK_eq (a : Frame) (x : Operand) (K : DV → β) : evK a x K = K (ev a x) := by
  cases x <;> first | rfl | exact getK_eq _ _ _
def evsK (a : Frame) : List Operand → (List DV → β) → β
  | [], K => K []
  | x :: xs, K => evK a x fun v => evsK a xs fun vs => K (v :: vs)
theorem evsK_eq (a : Frame) : ∀ (xs : List Operand) (K : List DV → β), evsK a xs K = K (xs.map (ev a))
  | [], K => rfl
  | x :: xs, K => by simp only [evsK, evK_eq, evsK_eq a xs, List.map_cons]
def partsK (a : Frame) : List (Nat × Operand) → (List (Nat × DV) → β) → β
  | [], K => K []
  | q :: xs, K => evK a q.2 fun v => partsK a xs fun vs => K ((q.1, v) :: vs)
theorem partsK_eq (a : Frame) : ∀ (xs : List (Nat × Operand)) (K : List (Nat × DV) → β), partsK a xs K = K (xs.map fun q => (q.1, ev a q.2))
  | [], K => rfl
  | q :: xs, K => by simp only [partsK, evK_eq, partsK_eq a xs, List.map_cons]
def optK (a : Frame) (x : Option Operand) (K : Option DV → β) : β := match x with
  | none => K none
  | some x => evK a x fun v => K (some v)
theorem optK_eq (a : Frame) (x : Option Operand) (K : Option DV → β) : optK a x K = K (x.map (ev a)) := by
  cases x <;> simp [optK, evK_eq]
def setK : List DV → Nat → DV → (List DV → β) → β
  | [], _, _, K => K []
  | x :: xs, 0, v, K => high (K (v :: xs))
  | x :: xs, n + 1, v, K => setK xs n v fun xs' => K (x :: xs')
theorem setK_eq : ∀ (a : List DV) (n : Nat) (v : DV) (K : List DV → β), setK a n v K = K (a.set n v)
  | [], n, v, K => by simp [setK]
  | x :: xs, 0, v, K => by simp [setK, high_eq]
  | x :: xs, n + 1, v, K => by simp [setK, setK_eq xs n v]
def putK (a : Frame) (d : Option Tmp) (v : DV) (K : Frame → β) : β := match d with
  | some d => setK a d v K
  | none => K a
theorem putK_eq (a : Frame) (d : Option Tmp) (v : DV) (K : Frame → β) : putK a d v K = K (put a d v) := by
  cases d <;> first | rfl | exact setK_eq _ _ _ _
def maskK : List Bool → Frame → (Frame → β) → β
  | _, [], K => K []
  | [], v :: a, K => maskK [] a fun r => K (.undef :: r)
  | true :: bs, v :: a, K => maskK bs a fun r => K (v :: r)
  | false :: bs, v :: a, K => maskK bs a fun r => K (.undef :: r)
theorem maskK_eq : ∀ (m : List Bool) (a : Frame) (K : Frame → β), maskK m a K = K (mask m a)
  | m, [], K => by cases m <;> simp [maskK, mask]
  | [], v :: a, K => by simp [maskK, mask, maskK_eq [] a]
  | b :: bs, v :: a, K => by cases b <;> simp [maskK, mask, maskK_eq bs a]
def cutK (an : Ann) (a : Frame) (K : Frame → β) : β := match an with
  | .keep m _ => maskK m a K
  | _ => K a
theorem cutK_eq (an : Ann) (a : Frame) (K : Frame → β) : cutK an a K = K (an.cut a) := by
  cases an <;> first | rfl | exact maskK_eq _ _ _
def opF (P : Program) (pl : FPol) (call : CallF) (lo : Nat) (a : Frame) (o : Oper) (σ : Store) (K : DV → Store → Option β) : Option β :=
  match o.op with
  | .move x | .assign x => evK a x fun x => K x σ
  | .pick c x y => evK a c fun c => evK a x fun x => evK a y fun y => (pickV c x y).bind fun v => K v σ
  | .alloc t => (zeroOf P t).bind fun z => K (.ptr σ.length 0) (σ ++ [.mix z])
  | .box _ x => evK a x fun x => cond (pl.isPbox o.dst) ((boxP x).bind fun v => K v σ) ((boxV x).bind fun cs => K (.ptr σ.length 0) (σ ++ [.mix cs]))
  | .build t ps => partsK a ps.toList fun ps => (build P t ps).bind fun v => K v σ
  | .buildSlice t n ps => partsK a ps.toList fun ps => (buildSlice P (pl.asRow o.dst) t n ps σ).bind fun r => K r.1 r.2
  | .load t x => evK a x fun x => (loadP P pl o.dst t x σ).bind fun v => K v σ
  | .store t x y => evK a x fun x => evK a y fun y => (store P lo t x y σ).bind fun σ' => K .undef σ'
  | .nilCheck x => evK a x fun x => (nilCheckV x).bind fun v => K v σ
  | .binOp op t x y _ => cond (nilConst y) (evK a x fun x => (ifaceNil P op t x).bind fun v => K v σ) (evK a x fun x => evK a y fun y => (binOp P op t x y).bind fun v => K v σ)
  | .unOp op _ x => evK a x fun x => (unOp op x).bind fun v => K v σ
  | .convert s d x => evK a x fun x => (convert P s d x).bind fun v => K v σ
  | .makeFunc (.func f) first caps => if first.size = 0 then evsK a caps.toList fun cs => K (.fn f cs) σ else none
  | .makeMap _ none => K (.map σ.length) (σ ++ [.map []])
  | .makeSlice t l c => evK a l fun l => evK a c fun c => (makeSlice P (pl.isMixed o.dst) t l c σ).bind fun r => K r.1 r.2
  | .slice t x l h m => evK a x fun x => optK a l fun l => optK a h fun h => optK a m fun m => (sliceOp P t x l h m).bind fun v => K v σ
  | .fieldAddr t x i => evK a x fun x => (fieldAddr P t x i).bind fun v => K v σ
  | .field t x i => evK a x fun x => (field P t x i).bind fun v => K v σ
  | .indexAddr t x i => evK a x fun x => evK a i fun i => (indexAddr P t x i).bind fun v => K v σ
  | .index t x i => evK a x fun x => evK a i fun i => (index P t x i).bind fun v => K v σ
  | .lookup t x i ok => evK a x fun x => evK a i fun i => (lookup P t x i ok σ).bind fun v => K v σ
  | .mapUpdate t m k v => evK a m fun m => evK a k fun k => evK a v fun v => (mapUpdate P lo t m k v σ).bind fun σ' => K .undef σ'
  | .extract x i => evK a x fun x => (extractV x i).bind fun v => K v σ
  | .call c =>
    match c.callee with
    | .builtin .len => if c.args.size = 1 ∧ c.argTypes.size = 1 then evK a (c.args.getD 0 (.const undef)) fun x => (len P (c.argTypes.getD 0 0) x σ).bind fun v => K v σ else none
    | .builtin .append => if c.args.size = 2 ∧ c.argTypes.size = 2 then evK a (c.args.getD 0 (.const undef)) fun x => evK a (c.args.getD 1 (.const undef)) fun y => (append P lo (pl.isMixed o.dst) (c.argTypes.getD 0 0) (c.argTypes.getD 1 0) x y σ).bind fun r => K r.1 r.2 else none
    | .builtin .max => evsK a c.args.toList fun xs => (maxMin true xs).bind fun v => K v σ
    | .builtin .min => evsK a c.args.toList fun xs => (maxMin false xs).bind fun v => K v σ
    | .builtin .cap => if c.args.size = 1 ∧ c.argTypes.size = 1 then evK a (c.args.getD 0 (.const undef)) fun x => (capOp P (c.argTypes.getD 0 0) x).bind fun v => K v σ else none
    | .builtin .clear => if c.args.size = 1 ∧ c.argTypes.size = 1 then evK a (c.args.getD 0 (.const undef)) fun x => (clearOp P lo (c.argTypes.getD 0 0) x σ).bind fun σ' => K .undef σ' else none
    | .builtin .copy => if c.args.size = 2 ∧ c.argTypes.size = 2 then evK a (c.args.getD 0 (.const undef)) fun x => evK a (c.args.getD 1 (.const undef)) fun y => (copyOp P lo (c.argTypes.getD 0 0) x y σ).bind fun r => K r.1 r.2 else none
    | .builtin _ => none
    | .value g => evK a g fun g => evsK a c.args.toList fun xs => if pl.isPlain o.dst then (plainFn call lo g xs σ).bind fun r => K r.1 r.2
      else (pureFn call g xs σ).bind fun v => K v σ
    | .invoke _ _ => none
  | _ => none
theorem opF_eq (P : Program) (pl : FPol) (call : CallF) (lo : Nat) (a : Frame) (o : Oper) (σ : Store) (K : DV → Store → Option β) : opF P pl call lo a o σ K = opK P pl call lo a o σ K := by
  cases ho : o.op
  case makeFunc f first caps => first | (simp only [opF, opK, ho, evK_eq, evsK_eq, partsK_eq, optK_eq]; done) | (cases f <;> simp only [opF, opK, ho, evsK_eq])
  case makeMap t n => first | (simp only [opF, opK, ho, evK_eq, evsK_eq, partsK_eq, optK_eq]; done) | (cases n <;> simp only [opF, opK, ho])
  case call c =>
    first
    | (simp only [opF, opK, ho, evK_eq, evsK_eq, partsK_eq, optK_eq]; done)
    | (simp only [opF, opK, ho]
       cases hc : c.callee with
       | builtin b => cases b <;> simp only [evK_eq, evsK_eq]
       | value g => simp only [evK_eq, evsK_eq]
       | invoke r m => rfl)
  all_goals simp only [opF, opK, ho, evK_eq, evsK_eq, partsK_eq, optK_eq]
def guardF (all : Array Oper) (a : Frame) (j : Nat) (K : DV → β) : β := match (all.toList[j]?).bind (·.dst) with
  | some t => getK a t K
  | none => K .undef
theorem guardF_eq (all : Array Oper) (a : Frame) (j : Nat) (K : DV → β) : guardF all a j K = K (guardVal all a j) := by
  unfold guardF guardVal
  rw [Array.getElem?_toList]
  cases (all[j]?).bind (·.dst) <;> first | rfl | exact getK_eq _ _ _
abbrev GuardT := (β : Type) → DV → Bool → Option (DV × Store) → Store → (DV → Store → Option β) → Option β
def guardT : GuardT := fun _ => guardK
def opsF (G : GuardT) (P : Program) (pl : FPol) (call : CallF) (all : Array Oper) (lows : Bool → Store → Nat) : List Oper → List Bool → Frame → Store → (Frame → Store → Option β) → Option β
  | [], _, a, σ, K => K a σ
  | o :: os, cs, a, σ, K => match o.guard with
    | none => opF P pl call (lows (cs.headD true) σ) a o σ fun v σ' => putK a o.dst v fun a => opsF G P pl call all lows os cs.tail a σ' K
    | some (j, want) => guardF all a j fun g => G β g want (opF P pl call (lows (cs.headD true) σ) a o σ fun v σ' => some (v, σ')) σ fun v σ' => putK a o.dst v fun a => opsF G P pl call all lows os cs.tail a σ' K
theorem opsF_eq (P : Program) (pl : FPol) (call : CallF) (all : Array Oper) (lows : Bool → Store → Nat) : ∀ (os : List Oper) (cs : List Bool) (a : Frame) (σ : Store) (K : Frame → Store → Option β),
    opsF guardT P pl call all lows os cs a σ K = opsK P pl call all lows os cs a σ K
  | [], cs, a, σ, K => rfl
  | o :: os, cs, a, σ, K => by
    cases hg : o.guard with
    | none => simp only [opsF, opsK, hg, opF_eq, putK_eq, opsF_eq P pl call all lows os]
    | some g =>
      simp only [opsF, opsK, hg, opF_eq, putK_eq, guardF_eq, opsF_eq P pl call all lows os]
      rfl
end

section
variable {β : Type}
def opsFT (G : GuardT) (P : Program) (pl : FPol) (call : CallF) (all : Array Oper) (lows : Bool → Store → Nat) : List Oper → List Bool → Frame → Store → List (Frame × Store) → (Frame → Store → List (Frame × Store) → Option β) → Option β
  | [], _, a, σ, tr, K => K a σ (tr ++ [(a, σ)])
  | o :: os, cs, a, σ, tr, K => match o.guard with
    | none => opF P pl call (lows (cs.headD true) σ) a o σ fun v σ' => putK a o.dst v fun a2 => opsFT G P pl call all lows os cs.tail a2 σ' (tr ++ [(a, σ)]) K
    | some (j, want) => guardF all a j fun g => G β g want (opF P pl call (lows (cs.headD true) σ) a o σ fun v σ' => some (v, σ')) σ fun v σ' => putK a o.dst v fun a2 => opsFT G P pl call all lows os cs.tail a2 σ' (tr ++ [(a, σ)]) K
theorem opsFT_eq (P : Program) (pl : FPol) (call : CallF) (all : Array Oper) (lows : Bool → Store → Nat) : ∀ (os : List Oper) (cs : List Bool) (a : Frame) (σ : Store) (tr : List (Frame × Store)) (K : Frame → Store → List (Frame × Store) → Option β),
    opsFT guardT P pl call all lows os cs a σ tr K = opsKT P pl call all lows os cs a σ tr K
  | [], cs, a, σ, tr, K => rfl
  | o :: os, cs, a, σ, tr, K => by
    cases hg : o.guard with
    | none => simp only [opsFT, opsKT, hg, opF_eq, putK_eq, opsFT_eq P pl call all lows os]
    | some g =>
      simp only [opsFT, opsKT, hg, opF_eq, putK_eq, guardF_eq, opsFT_eq P pl call all lows os]
      rfl
end

noncomputable def codeF (G : GuardT) (P : Program) (pl : FPol) (call : CallF) (lo : Nat) : Code → {β : Type} → Ann → Frame → Store → (Ex → Frame → Store → Option β) → Option β
  | .skip, _, _, a, σ, K => K .normal a σ
  | .region _ ops draw, _, _, a, σ, K => if draw then (if pl.rload.isEmpty then opsF G P pl call ops (lowOf lo) ops.toList (flags pl ops) a σ (K .normal) else opsFT G P pl call ops (lowOf lo) ops.toList (flags pl ops) a σ [] fun a' σ' tr => bif stableB P pl ops.toList tr then K .normal a' σ' else none) else opsF G P pl call ops (fun _ _ => lo) ops.toList [] a σ (K .normal)
  | .seq x y, _, an, a, σ, K => codeF G P pl call lo x an.left a σ fun ex a' σ' => match ex with
    | .normal => codeF G P pl call lo y an.right a' σ' K
    | ex => K ex a' σ'
  | .cond c x y, _, an, a, σ, K => evK a c fun c => condK c (codeF G P pl call lo x an.left a σ K) (codeF G P pl call lo y an.right a σ K)
  | .block id x, _, an, a, σ, K => codeF G P pl call lo x an.left a σ fun ex a' σ' => match ex with
    | .normal => cutK an a' fun a2 => K .normal a2 σ'
    | .exit i => if i = id then cutK an a' fun a2 => K .normal a2 σ' else K (.exit i) a' σ'
    | .ret => K .ret a' σ'
  | .loop x, _, an, a, σ, K => cutK an a fun a2 => loopWith (fun a σ => codeF G P pl call lo x an.left (an.cut a) σ fun ex a σ => some (ex, a, σ)) a2 σ K
  | .exit id, _, _, a, σ, K => K (.exit id) a σ
  | .ret, _, _, a, σ, K => K .ret a σ
  | .rangeFunc g ps x y, _, an, a, σ, K => evK a g fun g => match g with
    | .fn f caps => match (pl.seq f).bind fun kind => seqList kind caps with
      | some xss =>
        if xss.all (·.length == ps.size) && !hasRange x && !hasRange y then
          roundsK (fun xs σ K' => codeF G P pl call lo x .nil (putAll ps.toList xs a) σ fun ex a1 σ1 => match ex with
            | .normal => codeF G P pl call lo y an.left a1 σ1 fun ex _ σ2 => K' ex σ2
            | _ => none) xss σ fun ex σ' => K ex a σ'
        else none
      | none => none
    | _ => none
  | _, _, _, _, _, _ => none
theorem codeF_eq {P : Program} {pl : FPol} {call : CallF} {lo : Nat} : ∀ (c : Code) {β : Type} {an : Ann} {a : Frame} {σ : Store} {K : Ex → Frame → Store → Option β}, codeF guardT P pl call lo c an a σ K = codeK P pl call lo c an a σ K := by
  intro c
  induction c with
  | region id ops draw => intros; simp only [codeF, codeK, opsF_eq, opsFT_eq]
  | seq x y ihx ihy =>
    intro β an a σ K
    simp only [codeF, codeK, ihx]
    congr 1
    funext ex a' σ'
    cases ex with
    | normal => exact ihy
    | exit i => rfl
    | ret => rfl
  | cond c x y ihx ihy => intros; simp only [codeF, codeK, evK_eq, ihx, ihy]
  | block id x ih =>
    intro β an a σ K
    first
    | (simp only [codeF, codeK, ih, cutK_eq]; done)
    | (simp only [codeF, codeK, ih, cutK_eq]; congr 1)
  | loop x ih => intros; simp only [codeF, codeK, ih, cutK_eq]
  | rangeFunc g ps x y ihx ihy =>
    intro β an a σ K
    first
    | (simp only [codeF, codeK, evK_eq, ihx, ihy]; done)
    | (simp only [codeF, codeK, evK_eq, ihx, ihy]; cases ev a g <;> try rfl)
  | _ => intros; rfl
def GuardOk (G : GuardT) : Prop := G = guardT
theorem loopF_eq {P : Program} {β : Type} {pl : FPol} {call : CallF} {lo : Nat} {x : Code} {an : Ann} {a : Frame} {σ : Store} {K : Ex → Frame → Store → Option β} (G : GuardT) (hG : GuardOk G) :
    codeF G P pl call lo (.loop x) an a σ K = cutK an a fun a => codeF G P pl call lo x an.left a σ fun ex a' σ' => match ex with
      | .normal => codeF G P pl call lo (.loop x) an a' σ' K
      | ex => K ex a' σ' := by
  cases hG
  simp only [codeF_eq, cutK_eq]
  exact loop_eq
end Go.D
end
/- What the generated texts need: contexts as functions, results in continuation style. -/
section
set_option linter.unusedVariables false
set_option linter.unusedSimpArgs false
namespace Go.D
abbrev Z : DV := .undef
abbrev tt : Bool := true
abbrev ff : Bool := false
def cellV (P : Program) (t : TypeId) (x : DV) (σ : Store) : Option DV := match x with
  | .ptr r off => load P t (.ptr r off) σ
  | _ => none
def resK {β : Type} (P : Program) (a : Frame) (σ : Store) : List ResultVar → (List DV → Option β) → Option β
  | [], K => K []
  | .tmp t :: rs, K => resK P a σ rs fun vs => K (a.getD t .undef :: vs)
  | .cell x t :: rs, K => (cellV P t (a.getD x .undef) σ).bind fun v => resK P a σ rs fun vs => K (v :: vs)
theorem resK_eq {β : Type} (P : Program) (a : Frame) (σ : Store) : ∀ (rs : List ResultVar) (K : List DV → Option β), resK P a σ rs K = (resultsOf P a σ rs).bind K
  | [], K => rfl
  | .tmp t :: rs, K => by
    simp only [resK, resultsOf, resultOf, resK_eq P a σ rs]
    cases resultsOf P a σ rs <;> rfl
  | .cell x t :: rs, K => by
    simp only [resK, resultsOf, resultOf, resK_eq P a σ rs]
    unfold cellV
    generalize a.getD x .undef = g
    cases g <;> try rfl
    rename_i r off
    simp only []
    cases load P t (.ptr r off) σ <;> first | rfl | (cases resultsOf P a σ rs <;> rfl)
def finR (P : Program) (rs : List ResultVar) : Ex → Frame → Store → Option (DV × Store)
  | .normal, a, σ => resK P a σ rs fun vs => some (wrap vs, σ)
  | .ret, a, σ => resK P a σ rs fun vs => some (wrap vs, σ)
  | _, _, _ => none
theorem finR_eq (P : Program) (rs : List ResultVar) : finR P rs = finK P rs := by
  funext ex a σ
  cases ex <;> first | rfl | exact resK_eq P a σ rs _
def bodyOf (f : Func) : Code := f.body.getD .skip
theorem callL_run {P : Program} {pol : FuncId → FPol} {f lo : Nat} {fn : Func} {args : List DV} {σ : Store} {r : DV × Store} (hf : P.funcs[f]? = some fn) (hname : (fn.name == "runtime.NumGoroutine") = false) (hb : fn.body.isSome = true) (hd : drawsOk (bodyOf fn) = true)
    (h : codeF guardT P (pol f) (callL P pol) lo (bodyOf fn) (pol f).ann (args ++ List.replicate (fn.ntmps - args.length) .undef) σ (finR P fn.results.toList) = some r) : callL P pol lo f args σ = some r := by
  obtain ⟨c, hc⟩ := Option.isSome_iff_exists.1 hb
  have e : bodyOf fn = c := by unfold bodyOf; rw [hc]; rfl
  rw [e] at hd h
  rw [finR_eq, codeF_eq] at h
  exact callL_of hf hname hc hd h
def Code.fstC : Code → Code
  | .seq x _ => x | .cond _ x _ => x | .block _ x => x | .loop x => x | .rangeFunc _ _ x _ => x | c => c
def Code.sndC : Code → Code
  | .seq _ y => y | .cond _ _ y => y | .rangeFunc _ _ _ y => y | c => c
section
variable {β : Type} (G : GuardT) (P : Program) (pl : FPol) (call : CallF) (lo : Nat)
noncomputable def seqC (y : Code) (an : Ann) (K : Ex → Frame → Store → Option β) : Ex → Frame → Store → Option β := fun ex a σ => match ex with
  | .normal => codeF G P pl call lo y an a σ K
  | ex => K ex a σ
def blockC (id : Nat) (an : Ann) (K : Ex → Frame → Store → Option β) : Ex → Frame → Store → Option β := fun ex a σ => match ex with
  | .normal => cutK an a fun a2 => K .normal a2 σ
  | .exit i => if i = id then cutK an a fun a2 => K .normal a2 σ else K (.exit i) a σ
  | .ret => K .ret a σ
noncomputable def loopC (x : Code) (an : Ann) (K : Ex → Frame → Store → Option β) : Ex → Frame → Store → Option β := fun ex a σ => match ex with
  | .normal => codeF G P pl call lo (.loop x) an a σ K
  | ex => K ex a σ
noncomputable def roundC (x y : Code) (an : Ann) (ps : List Tmp) (a : Frame) (xs : List DV) (σ : Store) (K : Ex → Store → Option β) : Option β :=
  codeF G P pl call lo x .nil (putAll ps xs a) σ fun ex a1 σ1 => match ex with
    | .normal => codeF G P pl call lo y an a1 σ1 fun ex _ σ2 => K ex σ2
    | _ => none
noncomputable def rangeK (g : DV) (n : Nat) (ok1 ok2 : Bool) (run : List DV → Store → (Ex → Store → Option β) → Option β) (σ : Store) (K : Ex → Store → Option β) : Option β := match g with
  | .fn f caps => match (pl.seq f).bind fun kind => seqList kind caps with
    | some xss => if (xss.all (·.length == n) && ok1) && ok2 then roundsK run xss σ K else none
    | none => none
  | _ => none
end
end Go.D
end
/- Policies of the functions: what is kept of temporaries, which calls are plain, which slices are rows. -/
section
namespace Go.D
noncomputable def zn (n : Nat) (l : List DV) : List DV := Nat.rec l (fun _ t => .undef :: t) n
noncomputable def mk (n b : Nat) : List Bool := Nat.rec (motive := fun _ => Nat → List Bool) (fun _ => []) (fun _ ih b => Nat.beq (b % 2) 1 :: ih (b / 2)) n b
abbrev sq (a : Ann) : Ann := .seq .nil a
abbrev I0 : DV := .p (.int .i64 0)
abbrev I1 : DV := .p (.int .i64 1)
abbrev RS : Type := Option (DV × Store)
noncomputable abbrev PP : Program := Go.Proofs.Tryz.prog
noncomputable def pol3 : FPol := { ann := (sq (sq (sq (sq (sq (sq (sq (sq (sq (.seq (sq (.keep (mk 0 0) (.keep (mk 12 3104) (sq (.seq (.keep (mk 12 3104) .nil) .nil))))) .nil)))))))))), pbox := [3] }
noncomputable def pol4 : FPol := { ann := .nil, pbox := [3] }
noncomputable def pol5 : FPol := { ann := .nil, pbox := [1] }
noncomputable def pol6 : FPol := { ann := (sq (sq (sq (sq (sq (.seq (sq (.keep (mk 6 33) (.keep (mk 10 801) (sq (.seq (.keep (mk 10 801) .nil) .nil))))) .nil)))))), pbox := [5] }
noncomputable def pol7 : FPol := { ann := .nil, pbox := [2, 3] }
noncomputable def pol8 : FPol := { ann := .nil }
noncomputable def pol9 : FPol := { ann := .nil }
noncomputable def pol10 : FPol := { ann := .nil, pbox := [2, 3] }
noncomputable def pol11 : FPol := { ann := (sq (sq (sq (sq (.seq (sq (.keep (mk 8 170) (.keep (mk 9 426) (sq (.seq (.keep (mk 9 426) (sq (.seq (sq (.keep (mk 9 426) (.keep (mk 10 938) (sq (.seq (.keep (mk 10 938) .nil) .nil))))) (sq (.keep (mk 9 426) (.keep (mk 11 1450) (sq (.seq (.keep (mk 11 1450) .nil) .nil)))))))) .nil))))) (sq (sq (sq (sq (.seq (sq (.keep (mk 14 14346) (.keep (mk 15 30730) (sq (.seq (.keep (mk 15 30730) .nil) .nil))))) (.seq (sq (.keep (mk 14 10250) (.keep (mk 16 47114) (sq (.seq (.keep (mk 16 47114) .nil) .nil))))) .nil))))))))))), pbox := [3, 5] }
noncomputable def pol12 : FPol := { ann := .nil }
noncomputable def pol13 : FPol := { ann := (sq (sq (.seq (sq (.keep (mk 0 0) (.keep (mk 4 9) (sq (.seq (.keep (mk 4 9) .nil) .nil))))) .nil))) }
noncomputable def pol14 : FPol := { ann := .nil, pbox := [1] }
noncomputable def pol15 : FPol := { ann := .nil, pbox := [1] }
noncomputable def pol16 : FPol := { ann := .nil, pbox := [1] }
noncomputable def pol17 : FPol := { ann := (sq (sq (sq (.seq (sq (.keep (mk 0 0) (.keep (mk 4 10) (sq (.seq (.keep (mk 4 10) .nil) .nil))))) .nil)))), pbox := [1] }
noncomputable def pol18 : FPol := { ann := .nil, pbox := [3] }
noncomputable def pol19 : FPol := { ann := (sq (sq (.seq (sq (.keep (mk 4 8) (.keep (mk 5 25) (sq (.seq (.keep (mk 5 25) .nil) .nil))))) .nil))) }
noncomputable def pol20 : FPol := { ann := .nil, pbox := [3] }
noncomputable def pol21 : FPol := { ann := .nil, pbox := [3] }
noncomputable def pol22 : FPol := { ann := (sq (sq (sq (sq (sq (sq (sq (.seq (sq (.keep (mk 10 512) (.keep (mk 13 8096) (sq (.seq (.keep (mk 13 8096) (sq (.keep (mk 13 8096) .nil))) .nil))))) .nil)))))))), pbox := [5] }
noncomputable def pol23 : FPol := { ann := .nil, pbox := [1] }
noncomputable def pol24 : FPol := { ann := .nil, pbox := [1] }
noncomputable def pol25 : FPol := { ann := .nil }
noncomputable def pol26 : FPol := { ann := .nil }
noncomputable def pol27 : FPol := { ann := (sq (sq (sq (.seq (sq (.keep (mk 10 576) (.keep (mk 11 1614) (sq (.seq (.keep (mk 11 1614) (sq (.keep (mk 11 1614) (.keep (mk 34 12884903502) (sq (sq (.seq (.keep (mk 34 12884903502) .nil) .nil))))))) .nil))))) .nil)))), plain := [44], pbox := [3] }
noncomputable def pol28 : FPol := { ann := .nil, pbox := [1] }
noncomputable def pol29 : FPol := { ann := .nil, pbox := [2, 3] }
noncomputable def pol30 : FPol := { ann := (sq (sq (.seq (sq (.keep (mk 9 320) (.keep (mk 10 836) (sq (.seq (.keep (mk 10 836) (sq (.keep (mk 10 836) (.keep (mk 11 1860) (sq (.seq (.keep (mk 11 1860) .nil) .nil)))))) .nil))))) .nil))), plain := [42], rload := [1000], sload := [50], pbox := [3] }
noncomputable def pol31 : FPol := { ann := .nil, pbox := [1] }
noncomputable def pol32 : FPol := { ann := .nil, plain := [19, 20, 34], mixed := [33], pbox := [1] }
noncomputable def pol33 : FPol := { ann := .nil, pbox := [2, 3] }
noncomputable def pol34 : FPol := { ann := (sq (sq (.seq (sq (.keep (mk 4 14) (.keep (mk 5 30) (sq (.seq (.keep (mk 5 30) (sq (.seq (sq (.keep (mk 6 62) (.keep (mk 7 126) (sq (.seq (.keep (mk 7 126) .nil) .nil))))) .nil))) .nil))))) (sq (.seq (.keep (mk 8 140) (.keep (mk 8 140) (sq (.keep (mk 8 140) .nil)))) .nil))))), pbox := [1] }
noncomputable def pol35 : FPol := { ann := (sq (sq (sq (sq (.seq (sq (.keep (mk 5 28) (.keep (mk 6 60) (sq (.seq (.keep (mk 6 60) .nil) .nil))))) (sq (.seq (.keep (mk 8 148) (.keep (mk 8 148) (sq (.keep (mk 8 148) .nil)))) .nil))))))), plain := [59], pbox := [1] }
noncomputable def pol36 : FPol := { ann := .nil }
noncomputable def pol37 : FPol := { ann := .nil }
noncomputable def pol38 : FPol := { ann := (sq (sq (sq (.seq (sq (.keep (mk 7 97) (.keep (mk 8 227) (sq (.seq (.keep (mk 8 227) (sq (.seq (sq (.keep (mk 8 227) (.keep (mk 10 995) (sq (.seq (.keep (mk 10 995) (sq (sq (.seq (sq (.keep (mk 12 4067) (.keep (mk 13 8163) (sq (.seq (.keep (mk 13 8163) .nil) .nil))))) .nil)))) .nil))))) .nil))) .nil))))) .nil)))) }
noncomputable def pol39 : FPol := { ann := (sq (sq (sq (.seq (sq (.keep (mk 2 2) (.keep (mk 58 252201579132747778) (sq (sq (.seq (.keep (mk 58 252201579132747778) .nil) .nil)))))) (.seq (sq (.keep (mk 2 2) (.keep (mk 71 1770887431076116955138) (sq (sq (.seq (.keep (mk 71 1770887431076116955138) .nil) .nil)))))) (.seq (sq (.keep (mk 2 2) (.keep (mk 96 69324642199981295394350956546) (sq (sq (.seq (.keep (mk 96 69324642199981295394350956546) .nil) .nil)))))) (.seq (sq (.keep (mk 2 2) (.keep (mk 115 36346078009743793399713474304540674) (sq (sq (.seq (.keep (mk 115 36346078009743793399713474304540674) .nil) .nil)))))) .nil))))))), pbox := [1] }
noncomputable def pol40 : FPol := { ann := (sq (sq (sq (sq (.seq (sq (.keep (mk 2 2) (.keep (mk 5 18) (sq (.seq (.keep (mk 5 18) .nil) .nil))))) (.seq (sq (.keep (mk 2 2) (.keep (mk 6 34) (sq (.seq (.keep (mk 6 34) .nil) .nil))))) (.seq (sq (.keep (mk 2 2) (.keep (mk 7 66) (sq (.seq (.keep (mk 7 66) .nil) .nil))))) .nil))))))), pbox := [1] }
noncomputable def pol41 : FPol := { ann := (sq (sq (sq (.seq (sq (.keep (mk 8 140) (.keep (mk 43 7696581394572) (sq (sq (.seq (.keep (mk 43 7696581394572) .nil) .nil)))))) (sq (sq (.seq (sq (.keep (mk 0 0) (.keep (mk 73 8264141345021879125124) (sq (sq (.seq (.keep (mk 73 8264141345021879125124) .nil) .nil)))))) .nil))))))), pbox := [2, 3] }
noncomputable def pol42 : FPol := { ann := .nil, pbox := [1] }
noncomputable def pol43 : FPol := { ann := (sq (sq (sq (sq (sq (.seq (sq (.keep (mk 8 140) (.keep (mk 9 396) (sq (.seq (.keep (mk 9 396) .nil) .nil))))) (sq (.seq (sq (.keep (mk 0 0) (.keep (mk 10 652) (sq (.seq (.keep (mk 10 652) .nil) .nil))))) .nil)))))))), pbox := [2, 3] }
noncomputable def pol44 : FPol := { ann := (sq (sq (sq (.seq (sq (.keep (mk 6 33) (.keep (mk 30 939524141) (sq (sq (.seq (.keep (mk 30 939524141) (sq (sq (sq (.seq (sq (.keep (mk 30 939524589) (.seq (.keep (mk 0 0) .nil) .nil))) .nil))))) .nil)))))) .nil)))), seq := fun f => if f = 143 then some (.backward false 1) else none }
noncomputable def pol45 : FPol := { ann := (sq (sq (sq (.seq (sq (.keep (mk 6 32) (.keep (mk 17 114720) (sq (sq (.seq (.keep (mk 17 114720) (sq (sq (sq (.keep (mk 17 114720) .nil))))) .nil)))))) .nil)))) }
noncomputable def pol46 : FPol := { ann := (sq (sq (sq (.seq (sq (.keep (mk 1 1) (.keep (mk 5 17) (sq (.seq (.keep (mk 5 17) .nil) .nil))))) .nil)))) }
noncomputable def pol47 : FPol := { ann := (sq (sq (.seq (sq (.keep (mk 6 33) .nil)) .nil))) }
noncomputable def pol48 : FPol := { ann := .nil, plain := [14, 23] }
noncomputable def pol49 : FPol := { ann := (sq (sq (.seq (sq (.keep (mk 0 0) (.keep (mk 6 35) (sq (.seq (.keep (mk 6 35) .nil) .nil))))) .nil))) }
noncomputable def pol50 : FPol := { ann := .nil, plain := [14, 30] }
noncomputable def pol51 : FPol := { ann := (sq (sq (sq (sq (.seq (sq (.keep (mk 9 262) (.keep (mk 39 481036337414) (sq (sq (.seq (.keep (mk 39 481036337414) (sq (sq (.keep (mk 39 481036337414) (.keep (mk 47 123626338648838) (sq (sq (.seq (.keep (mk 47 123626338648838) .nil) .nil)))))))) .nil)))))) (sq (.seq (sq (.keep (mk 0 0) (.keep (mk 60 1008806316530999554) (sq (sq (.seq (.keep (mk 60 1008806316530999554) .nil) .nil)))))) .nil))))))), plain := [35], pbox := [2] }
noncomputable def pol52 : FPol := { ann := .nil }
noncomputable def pol53 : FPol := { ann := (sq (sq (.seq (sq (.keep (mk 0 0) (.keep (mk 4 9) (sq (.seq (.keep (mk 4 9) .nil) .nil))))) .nil))) }
noncomputable def pol54 : FPol := { ann := .nil }
noncomputable def pol55 : FPol := { ann := .nil, pbox := [2, 3] }
noncomputable def pol56 : FPol := { ann := .nil, pbox := [2, 3] }
noncomputable def pol57 : FPol := { ann := .nil, pbox := [2, 3] }
noncomputable def pol58 : FPol := { ann := (sq (sq (.seq (sq (.keep (mk 6 48) (.keep (mk 7 124) (sq (.seq (.keep (mk 7 124) .nil) .nil))))) .nil))), pbox := [2, 3] }
noncomputable def pol59 : FPol := { ann := (sq (.seq (sq (.keep (mk 4 12) (.keep (mk 6 44) (sq (.seq (.keep (mk 6 44) .nil) .nil))))) (.seq (sq (.keep (mk 0 0) (.keep (mk 7 76) (sq (.seq (.keep (mk 7 76) .nil) .nil))))) .nil))), pbox := [2, 3] }
noncomputable def pol60 : FPol := { ann := .nil }
noncomputable def pol61 : FPol := { ann := .nil }
noncomputable def pol62 : FPol := { ann := .nil }
noncomputable def pol63 : FPol := { ann := .nil }
noncomputable def pol64 : FPol := { ann := .nil }
noncomputable def pol65 : FPol := { ann := .nil }
noncomputable def pol66 : FPol := { ann := (sq (sq (.seq (sq (.keep (mk 4 8) (.keep (mk 9 456) (sq (sq (.seq (.keep (mk 9 456) .nil) .nil)))))) .nil))) }
noncomputable def pol67 : FPol := { ann := .nil }
noncomputable def pol68 : FPol := { ann := .nil }
noncomputable def pol69 : FPol := { ann := .nil, pbox := [2] }
noncomputable def pol70 : FPol := { ann := .nil }
noncomputable def pol71 : FPol := { ann := .nil, mixed := [7] }
noncomputable def pol72 : FPol := { ann := (sq (sq (sq (sq (.seq (sq (.keep (mk 8 128) (.keep (mk 30 939524320) (sq (sq (.seq (.keep (mk 30 939524320) (sq (sq (sq (sq (.seq (sq (.keep (mk 30 939528416) (sq (sq (sq (.seq (sq (.keep (mk 30 939528416) (.keep (mk 68 258254417032873251552) (sq (sq (.seq (.keep (mk 68 258254417032873251552) .nil) .nil)))))) .nil)))))) .nil)))))) .nil)))))) .nil))))), pbox := [3] }
noncomputable def pol73 : FPol := { ann := (sq (.seq (sq (.keep (mk 0 0) (.keep (mk 10 542) (sq (.seq (.keep (mk 10 542) .nil) .nil))))) .nil)), pbox := [4] }
noncomputable def pol74 : FPol := { ann := (sq (.seq (sq (.keep (mk 0 0) (.keep (mk 8 170) (sq (.seq (.keep (mk 8 170) .nil) .nil))))) .nil)), pbox := [3, 5] }
noncomputable def pol75 : FPol := { ann := (sq (.seq (sq (.keep (mk 0 0) (.keep (mk 8 170) (sq (.seq (.keep (mk 8 170) .nil) .nil))))) .nil)), pbox := [3, 5] }
noncomputable def pol76 : FPol := { ann := .nil, pbox := [1] }
noncomputable def pol77 : FPol := { ann := (sq (sq (sq (sq (.seq (sq (.keep (mk 0 0) (.keep (mk 33 6442450953) (sq (sq (.seq (.keep (mk 33 6442450953) .nil) .nil)))))) .nil))))), plain := [88], mixed := [84] }
noncomputable def pol78 : FPol := { ann := .nil }
noncomputable def pol79 : FPol := { ann := .nil }
noncomputable def pol80 : FPol := { ann := (sq (sq (.seq (sq (.keep (mk 0 0) (.keep (mk 6 35) (sq (.seq (.keep (mk 6 35) .nil) .nil))))) .nil))) }
noncomputable def pol81 : FPol := { ann := (sq (sq (sq (.keep (mk 0 0) (.keep (mk 10 527) (sq (.seq (.keep (mk 10 527) .nil) .nil))))))), plain := [110, 116] }
noncomputable def pol82 : FPol := { ann := (sq (sq (.seq (sq (.keep (mk 5 28) (.keep (mk 6 60) (sq (.seq (.keep (mk 6 60) .nil) .nil))))) (.seq (.keep (mk 5 28) (.keep (mk 5 28) (sq (.keep (mk 5 28) .nil)))) .nil)))) }
noncomputable def pol83 : FPol := { ann := (sq (sq (.seq (sq (.keep (mk 1 1) (.keep (mk 4 9) (sq (.seq (.keep (mk 4 9) (sq (.seq (sq (.seq (sq (.keep (mk 4 9) (.keep (mk 6 57) (sq (.seq (.keep (mk 6 57) .nil) .nil))))) .nil)) .nil))) .nil))))) .nil))) }
noncomputable def pol84 : FPol := { ann := (sq (sq (.seq (sq (.keep (mk 4 9) (.keep (mk 12 3593) (sq (sq (.seq (.keep (mk 12 3593) .nil) .nil)))))) (sq (.seq (sq (.keep (mk 7 64) (.keep (mk 28 234881088) (sq (sq (.seq (.keep (mk 28 234881088) .nil) .nil)))))) .nil))))), plain := [24], mixed := [33] }
noncomputable def pol85 : FPol := { ann := (sq (sq (.seq (sq (.keep (mk 4 8) (.keep (mk 5 25) (sq (.seq (.keep (mk 5 25) .nil) .nil))))) .nil))) }
noncomputable def pol86 : FPol := { ann := (sq (sq (.seq (sq (.keep (mk 2 2) (.keep (mk 21 1835010) (sq (sq (.seq (.keep (mk 21 1835010) .nil) .nil)))))) (.seq (sq (.keep (mk 0 0) (.keep (mk 50 985162418487298) (sq (sq (.seq (.keep (mk 50 985162418487298) .nil) .nil)))))) .nil)))), pbox := [1] }
noncomputable def pol87 : FPol := { ann := (sq (.seq (sq (.keep (mk 0 0) (.keep (mk 12 3587) (sq (sq (.seq (.keep (mk 12 3587) .nil) .nil)))))) .nil)) }
noncomputable def pol88 : FPol := { ann := (sq (sq (.seq (sq (.keep (mk 2 2) (.keep (mk 4 10) (sq (.seq (.keep (mk 4 10) .nil) .nil))))) (.seq (sq (.keep (mk 0 0) (.keep (mk 5 18) (sq (.seq (.keep (mk 5 18) .nil) .nil))))) .nil)))), pbox := [1] }
noncomputable def pol89 : FPol := { ann := .nil }
noncomputable def pol90 : FPol := { ann := (sq (.seq (sq (.keep (mk 0 0) (.keep (mk 7 70) (sq (.seq (.keep (mk 7 70) .nil) .nil))))) .nil)), pbox := [2] }
noncomputable def pol91 : FPol := { ann := .nil }
noncomputable def pol92 : FPol := { ann := .nil, pbox := [3] }
noncomputable def pol93 : FPol := { ann := .nil, pbox := [2] }
noncomputable def pol94 : FPol := { ann := .nil, pbox := [2] }
noncomputable def pol95 : FPol := { ann := (sq (.seq (sq (.keep (mk 0 0) (.keep (mk 6 35) (sq (.seq (.keep (mk 6 35) .nil) .nil))))) .nil)) }
noncomputable def pol96 : FPol := { ann := (sq (sq (.seq (sq (.keep (mk 0 0) (.keep (mk 8 142) (sq (.seq (.keep (mk 8 142) .nil) .nil))))) .nil))), pbox := [3] }
noncomputable def pol97 : FPol := { ann := .nil, pbox := [2] }
noncomputable def pol98 : FPol := { ann := .nil, pbox := [1] }
noncomputable def pol99 : FPol := { ann := (sq (.seq (sq (.keep (mk 0 0) .nil)) .nil)) }
noncomputable def pol100 : FPol := { ann := .nil }
noncomputable def pol101 : FPol := { ann := .nil }
noncomputable def pol102 : FPol := { ann := (sq (.seq (sq (.keep (mk 0 0) .nil)) .nil)) }
noncomputable def pol103 : FPol := { ann := (sq (.seq (sq (.keep (mk 0 0) .nil)) .nil)) }
noncomputable def pol104 : FPol := { ann := (sq (sq (.seq (sq (.keep (mk 0 0) (.keep (mk 7 99) (sq (.seq (.keep (mk 7 99) .nil) .nil))))) .nil))) }
noncomputable def pol105 : FPol := { ann := (sq (sq (.seq (.keep (mk 2 2) (.keep (mk 2 3) (sq (.keep (mk 2 3) .nil)))) .nil))) }
noncomputable def pol106 : FPol := { ann := (sq (sq (.seq (.keep (mk 5 24) (.keep (mk 5 25) (.keep (mk 5 25) .nil))) .nil))) }
noncomputable def pol107 : FPol := { ann := (sq (.seq (sq (.keep (mk 0 0) .nil)) .nil)) }
noncomputable def pol108 : FPol := { ann := (sq (.seq (sq (.keep (mk 1 1) (.keep (mk 12 3585) (sq (sq (.seq (.keep (mk 12 3585) .nil) .nil)))))) (.seq (.keep (mk 1 1) .nil) .nil))), plain := [23, 25, 32, 38, 41, 46, 51, 53] }
noncomputable def pol109 : FPol := { ann := .nil }
noncomputable def pol110 : FPol := { ann := (sq (sq (.seq (sq (.keep (mk 1 1) .nil)) .nil))), plain := [21, 34, 36, 48, 60, 64, 66, 70, 72, 84, 86] }
noncomputable def pol111 : FPol := { ann := .nil }
noncomputable def pol112 : FPol := { ann := .nil }
noncomputable def pol113 : FPol := { ann := (sq (sq (sq (sq (sq (sq (.seq (.keep (mk 8 128) (.keep (mk 9 384) (sq (.keep (mk 9 384) .nil)))) .nil))))))) }
noncomputable def pol114 : FPol := { ann := .nil }
noncomputable def pol115 : FPol := { ann := (sq (sq (sq (sq (sq (.seq (sq (.keep (mk 0 0) (.keep (mk 9 389) (sq (.seq (.keep (mk 9 389) .nil) .nil))))) .nil)))))) }
noncomputable def pol116 : FPol := { ann := .nil, pbox := [2, 3] }
noncomputable def pol117 : FPol := { ann := (sq (sq (sq (sq (.seq (sq (.keep (mk 8 208) (.keep (mk 30 939524340) (sq (sq (.seq (.keep (mk 30 939524340) (sq (sq (.seq (sq (.keep (mk 30 939525876) (.keep (mk 50 985163358013172) (sq (sq (.seq (.keep (mk 50 985163358013172) .nil) .nil)))))) (.seq (sq (.keep (mk 30 939525364) (.keep (mk 65 32281802129931241204) (sq (sq (.seq (.keep (mk 65 32281802129931241204) .nil) .nil)))))) .nil))))) .nil)))))) .nil))))), mixed := [19], pbox := [2] }
noncomputable def pol118 : FPol := { ann := (sq (.seq (sq (.keep (mk 4 12) (.keep (mk 15 28684) (sq (sq (.seq (.keep (mk 15 28684) .nil) .nil)))))) (.seq (sq (.keep (mk 0 0) (.keep (mk 37 120259084300) (sq (sq (.seq (.keep (mk 37 120259084300) .nil) .nil)))))) .nil))), pbox := [2] }
noncomputable def pol119 : FPol := { ann := (sq (sq (.seq (sq (.keep (mk 8 128) (.keep (mk 9 398) (sq (.seq (.keep (mk 9 398) .nil) .nil))))) .nil))), pbox := [3] }
noncomputable def pol120 : FPol := { ann := (sq (.seq (sq (.keep (mk 0 0) (.keep (mk 8 156) (sq (.seq (.keep (mk 8 156) .nil) .nil))))) .nil)), pbox := [3, 4] }
noncomputable def pol121 : FPol := { ann := (sq (sq (.seq (sq (.keep (mk 8 128) (.keep (mk 9 412) (sq (.seq (.keep (mk 9 412) .nil) .nil))))) .nil))), pbox := [3, 4] }
noncomputable def pol122 : FPol := { ann := (sq (.seq (sq (.keep (mk 0 0) (.keep (mk 9 387) (sq (sq (.seq (.keep (mk 9 387) .nil) .nil)))))) .nil)) }
noncomputable def pol123 : FPol := { ann := (sq (sq (sq (sq (sq (sq (.seq (.keep (mk 8 128) (.keep (mk 9 384) (sq (.keep (mk 9 384) .nil)))) .nil))))))) }
noncomputable def pol124 : FPol := { ann := (sq (sq (.seq (sq (.keep (mk 4 8) (.keep (mk 10 776) (sq (sq (.seq (.keep (mk 10 776) .nil) .nil)))))) .nil))), plain := [6] }
noncomputable def pol125 : FPol := { ann := (sq (sq (.seq (sq (.keep (mk 8 128) (.keep (mk 14 12423) (sq (sq (.seq (.keep (mk 14 12423) .nil) .nil)))))) .nil))), plain := [10] }
noncomputable def pol126 : FPol := { ann := .nil }
noncomputable def pol127 : FPol := { ann := .nil }
noncomputable def pol128 : FPol := { ann := .nil }
noncomputable def pol129 : FPol := { ann := .nil, pbox := [2] }
noncomputable def pol130 : FPol := { ann := .nil, pbox := [2] }
noncomputable def pol131 : FPol := { ann := (sq (sq (.seq (sq (.keep (mk 8 128) (.keep (mk 12 2186) (sq (sq (.seq (.keep (mk 12 2186) (sq (.keep (mk 12 2186) (.keep (mk 12 2442) (sq (.seq (.keep (mk 12 2442) .nil) .nil)))))) .nil)))))) .nil))), plain := [10], pbox := [3] }
noncomputable def pol132 : FPol := { ann := .nil, pbox := [1] }
noncomputable def pol133 : FPol := { ann := .nil, pbox := [2] }
noncomputable def pol134 : FPol := { ann := .nil }
noncomputable def pol135 : FPol := { ann := .nil, pbox := [3] }
noncomputable def pol136 : FPol := { ann := (sq (sq (.seq (sq (.keep (mk 0 0) (.keep (mk 14 12291) (sq (sq (.seq (.keep (mk 14 12291) .nil) .nil)))))) .nil))) }
noncomputable def pol137 : FPol := { ann := .nil, mixed := [22] }
noncomputable def pol138 : FPol := { ann := .nil, pbox := [2, 3] }
noncomputable def pol139 : FPol := { ann := (sq (.seq (sq (.keep (mk 2 3) (.keep (mk 6 35) (sq (.seq (.keep (mk 6 35) .nil) .nil))))) .nil)) }
noncomputable def pol140 : FPol := { ann := .nil, pbox := [1] }
noncomputable def pol141 : FPol := { ann := (sq (.seq (sq (.keep (mk 0 0) (.keep (mk 9 387) (sq (sq (.seq (.keep (mk 9 387) .nil) .nil)))))) .nil)) }
noncomputable def pol142 : FPol := { ann := (sq (sq (.seq (sq (.keep (mk 8 128) (.keep (mk 15 28806) (sq (sq (.seq (.keep (mk 15 28806) .nil) .nil)))))) .nil))), pbox := [3] }
noncomputable def pol143 : FPol := { ann := (sq (.keep (mk 0 0) (.keep (mk 4 11) (sq (.seq (.keep (mk 4 11) .nil) .nil))))) }
noncomputable def pol144 : FPol := { ann := .nil }
noncomputable def pol145 : FPol := { ann := .nil }
noncomputable def pol146 : FPol := { ann := .nil }
noncomputable def pol147 : FPol := { ann := (sq (.keep (mk 0 0) (.keep (mk 10 897) (sq (sq (.seq (.keep (mk 10 897) .nil) .nil)))))), plain := [18] }
noncomputable def pol148 : FPol := { ann := .nil, pbox := [3] }
noncomputable def pol149 : FPol := { ann := (sq (sq (sq (.seq (.keep (mk 4 9) (.keep (mk 4 9) (sq (.keep (mk 4 9) .nil)))) .nil)))), plain := [7, 75, 93] }
noncomputable def pol150 : FPol := { ann := (sq (sq (sq (sq (sq (.seq (sq (.keep (mk 5 25) (.keep (mk 17 114713) (sq (sq (.seq (.keep (mk 17 114713) .nil) .nil)))))) .nil)))))), plain := [9, 11, 13, 31, 33, 35, 42] }
noncomputable def pol151 : FPol := { ann := (sq (.keep (mk 0 0) (.keep (mk 5 19) (sq (.seq (.keep (mk 5 19) .nil) .nil))))), plain := [44] }
noncomputable def pol152 : FPol := { ann := .nil }
noncomputable def pol153 : FPol := { ann := (sq (sq (.seq (.keep (mk 4 9) (.keep (mk 4 9) (sq (.keep (mk 4 9) .nil)))) .nil))), plain := [107, 110] }
noncomputable def pol154 : FPol := { ann := .nil, plain := [7, 12] }
noncomputable def pol155 : FPol := { ann := (sq (sq (sq (sq (.seq (sq (.seq (sq (.keep (mk 5 25) .nil)) .nil)) .nil))))), plain := [7, 9, 49, 54, 56, 58, 64] }
noncomputable def pol156 : FPol := { ann := .nil }
noncomputable def pol157 : FPol := { ann := .nil }
noncomputable def pol158 : FPol := { ann := .nil, pbox := [3, 4, 5] }
noncomputable def pol159 : FPol := { ann := .nil }
noncomputable def pol160 : FPol := { ann := (sq (sq (.seq (sq (.keep (mk 0 0) (.keep (mk 16 57486) (sq (sq (.seq (.keep (mk 16 57486) .nil) .nil)))))) .nil))), pbox := [3] }
noncomputable def pol161 : FPol := { ann := .nil }
noncomputable def pol162 : FPol := { ann := (sq (sq (.seq (sq (.keep (mk 0 0) (.keep (mk 6 44) (sq (.seq (.keep (mk 6 44) .nil) .nil))))) .nil))), pbox := [2, 3] }
noncomputable def pol163 : FPol := { ann := .nil }
noncomputable def pol164 : FPol := { ann := (sq (.seq (sq (.keep (mk 0 0) (.keep (mk 8 142) (sq (.seq (.keep (mk 8 142) .nil) .nil))))) .nil)), pbox := [3] }
noncomputable def pol165 : FPol := { ann := .nil }
noncomputable def pol166 : FPol := { ann := .nil, pbox := [3] }
noncomputable def pol167 : FPol := { ann := (sq (sq (.seq (sq (.keep (mk 4 8) (.keep (mk 9 456) (sq (sq (.seq (.keep (mk 9 456) .nil) .nil)))))) .nil))) }
noncomputable def pol168 : FPol := { ann := .nil }
noncomputable def pol169 : FPol := { ann := .nil }
noncomputable def pol170 : FPol := { ann := .nil }
noncomputable def pol171 : FPol := { ann := .nil }
noncomputable def pol172 : FPol := { ann := (sq (sq (sq (.seq (sq (.keep (mk 5 16) (.keep (mk 6 49) (sq (.seq (.keep (mk 6 49) .nil) .nil))))) .nil)))) }
noncomputable def pol173 : FPol := { ann := .nil }
noncomputable def pol174 : FPol := { ann := .nil }
noncomputable def pol175 : FPol := { ann := .nil }
noncomputable def pol176 : FPol := { ann := .nil, pbox := [3] }
noncomputable def pol177 : FPol := { ann := .nil }
noncomputable def pol178 : FPol := { ann := .nil }
noncomputable def pol179 : FPol := { ann := .nil }
noncomputable def pol180 : FPol := { ann := (sq (.seq (.keep (mk 5 19) (.keep (mk 5 19) (sq (.keep (mk 5 19) .nil)))) .nil)) }
noncomputable def pol182 : FPol := { ann := (sq (sq (.seq (sq (.seq (sq (sq (sq (.seq (sq (.keep (mk 7 96) (.keep (mk 50 985162418487392) (sq (sq (.seq (.keep (mk 50 985162418487392) .nil) .nil)))))) .nil)))) .nil)) .nil))) }
noncomputable def pol183 : FPol := { ann := (sq (.seq (sq (.keep (mk 5 16) .nil)) .nil)) }
noncomputable def pol184 : FPol := { ann := (sq (.seq (sq (.keep (mk 0 0) (.keep (mk 9 387) (sq (sq (.seq (.keep (mk 9 387) .nil) .nil)))))) .nil)) }
noncomputable def pol185 : FPol := { ann := .nil }
noncomputable def pol186 : FPol := { ann := .nil }
noncomputable def pol187 : FPol := { ann := .nil }
noncomputable def pol188 : FPol := { ann := .nil }
noncomputable def pol189 : FPol := { ann := .nil }
noncomputable def pol190 : FPol := { ann := (sq (sq (sq (.seq (sq (.keep (mk 9 263) .nil)) .nil)))) }
noncomputable def pol191 : FPol := { ann := .nil }
noncomputable def pol192 : FPol := { ann := .nil }
noncomputable def pol193 : FPol := { ann := .nil }
noncomputable def pol194 : FPol := { ann := .nil }
noncomputable def pol195 : FPol := { ann := .nil }
noncomputable def pol196 : FPol := { ann := .nil }
noncomputable def pol197 : FPol := { ann := (sq (sq (sq (sq (.seq (.keep (mk 10 775) (sq (sq (sq (.seq (sq (sq (.seq (.keep (mk 10 775) .nil) .nil))) .nil))))) (sq (sq (.seq (sq (.keep (mk 11 1799) .nil)) (sq (sq (sq (.seq (sq (.keep (mk 14 12800) (.keep (mk 102 4436777100798802905238461234946) (sq (sq (.seq (.keep (mk 102 4436777100798802905238461234946) (sq (sq (.seq (.keep (mk 102 4436777100798802905238461300482) .nil) .nil)))) .nil)))))) .nil)))))))))))) }
noncomputable def pol198 : FPol := { ann := .nil }
noncomputable def pol199 : FPol := { ann := .nil }
noncomputable def polA : FuncId → FPol
  | 3 => pol3
  | 4 => pol4
  | 5 => pol5
  | 6 => pol6
  | 7 => pol7
  | 8 => pol8
  | 9 => pol9
  | 10 => pol10
  | 11 => pol11
  | 12 => pol12
  | 13 => pol13
  | 14 => pol14
  | 15 => pol15
  | 16 => pol16
  | 17 => pol17
  | 18 => pol18
  | 19 => pol19
  | 20 => pol20
  | 21 => pol21
  | 22 => pol22
  | 23 => pol23
  | 24 => pol24
  | 25 => pol25
  | 26 => pol26
  | 27 => pol27
  | 28 => pol28
  | 29 => pol29
  | 30 => pol30
  | 31 => pol31
  | 32 => pol32
  | 33 => pol33
  | 34 => pol34
  | 35 => pol35
  | 36 => pol36
  | 37 => pol37
  | 38 => pol38
  | 39 => pol39
  | 40 => pol40
  | 41 => pol41
  | 42 => pol42
  | 43 => pol43
  | 44 => pol44
  | 45 => pol45
  | 46 => pol46
  | 47 => pol47
  | 48 => pol48
  | 49 => pol49
  | 50 => pol50
  | 51 => pol51
  | 52 => pol52
  | 53 => pol53
  | 54 => pol54
  | 55 => pol55
  | 56 => pol56
  | 57 => pol57
  | 58 => pol58
  | 59 => pol59
  | 60 => pol60
  | 61 => pol61
  | 62 => pol62
  | 63 => pol63
  | 64 => pol64
  | 65 => pol65
  | 66 => pol66
  | 67 => pol67
  | 68 => pol68
  | 69 => pol69
  | 70 => pol70
  | 71 => pol71
  | 72 => pol72
  | 73 => pol73
  | 74 => pol74
  | 75 => pol75
  | 76 => pol76
  | 77 => pol77
  | 78 => pol78
  | 79 => pol79
  | 80 => pol80
  | 81 => pol81
  | 82 => pol82
  | 83 => pol83
  | 84 => pol84
  | 85 => pol85
  | 86 => pol86
  | 87 => pol87
  | 88 => pol88
  | 89 => pol89
  | 90 => pol90
  | 91 => pol91
  | 92 => pol92
  | 93 => pol93
  | 94 => pol94
  | 95 => pol95
  | 96 => pol96
  | 97 => pol97
  | 98 => pol98
  | 99 => pol99
  | _ => {}
noncomputable def polB : FuncId → FPol
  | 100 => pol100
  | 101 => pol101
  | 102 => pol102
  | 103 => pol103
  | 104 => pol104
  | 105 => pol105
  | 106 => pol106
  | 107 => pol107
  | 108 => pol108
  | 109 => pol109
  | 110 => pol110
  | 111 => pol111
  | 112 => pol112
  | 113 => pol113
  | 114 => pol114
  | 115 => pol115
  | 116 => pol116
  | 117 => pol117
  | 118 => pol118
  | 119 => pol119
  | 120 => pol120
  | 121 => pol121
  | 122 => pol122
  | 123 => pol123
  | 124 => pol124
  | 125 => pol125
  | 126 => pol126
  | 127 => pol127
  | 128 => pol128
  | 129 => pol129
  | 130 => pol130
  | 131 => pol131
  | 132 => pol132
  | 133 => pol133
  | 134 => pol134
  | 135 => pol135
  | 136 => pol136
  | 137 => pol137
  | 138 => pol138
  | 139 => pol139
  | 140 => pol140
  | 141 => pol141
  | 142 => pol142
  | 143 => pol143
  | 144 => pol144
  | 145 => pol145
  | 146 => pol146
  | 147 => pol147
  | 148 => pol148
  | 149 => pol149
  | 150 => pol150
  | 151 => pol151
  | 152 => pol152
  | 153 => pol153
  | 154 => pol154
  | 155 => pol155
  | 156 => pol156
  | 157 => pol157
  | 158 => pol158
  | 159 => pol159
  | 160 => pol160
  | 161 => pol161
  | 162 => pol162
  | 163 => pol163
  | 164 => pol164
  | 165 => pol165
  | 166 => pol166
  | 167 => pol167
  | 168 => pol168
  | 169 => pol169
  | 170 => pol170
  | 171 => pol171
  | 172 => pol172
  | 173 => pol173
  | 174 => pol174
  | 175 => pol175
  | 176 => pol176
  | 177 => pol177
  | 178 => pol178
  | 179 => pol179
  | 180 => pol180
  | 182 => pol182
  | 183 => pol183
  | 184 => pol184
  | 185 => pol185
  | 186 => pol186
  | 187 => pol187
  | 188 => pol188
  | 189 => pol189
  | 190 => pol190
  | 191 => pol191
  | 192 => pol192
  | 193 => pol193
  | 194 => pol194
  | 195 => pol195
  | 196 => pol196
  | 197 => pol197
  | 198 => pol198
  | 199 => pol199
  | _ => {}
noncomputable def pol (f : FuncId) : FPol := match Nat.ble f 99 with
  | true => polA f
  | false => polB f
noncomputable abbrev CC : CallF := callL PP pol
end Go.D
end
/- Typed values of chapter 13, and what operations do with them. -/
section
set_option linter.unusedVariables false
set_option linter.unusedSimpArgs false
namespace Go.D

abbrev pI (n : Int) : PV := .int .i64 n
def eInts (l : List Int) : List PV := l.map pI
def eSl : Option (List Int) → PV
  | none => .nilsl
  | some l => .sl false l.length (eInts l)
structure Edg where
  f : Int
  t : Int
  a : Int
  deriving DecidableEq, Inhabited
structure Gr where
  n : Int
  init : Option (List Int)
  edges : Option (List Edg)
abbrev L {α : Type} (o : Option (List α)) : List α := o.getD []
theorem loosens_ints (l : List Int) : loosens (eInts l) = eInts l := by
  induction l with
  | nil => rfl
  | cons a l ih => simp only [eInts, List.map_cons, loosens, loosen] at *; rw [ih]
theorem loosen_sl (o : Option (List Int)) : loosen (eSl o) = eSl o := by
  cases o <;> simp [eSl, loosen, loosens_ints]
theorem pureFn_fn (call : CallF) (f : FuncId) (caps args : List DV) (σ : Store) : pureFn call (.fn f caps) args σ = pureV call f (args ++ caps) σ := Eq.trans rfl rfl
theorem obind {α β : Type} (x : α) (f : α → Option β) : (some x).bind f = f x := Eq.trans rfl rfl
theorem omap {α β : Type} (x : α) (f : α → β) : (some x).map f = some (f x) := Eq.trans rfl rfl
theorem pureV_free {call : CallF} {f : FuncId} {args : List DV} {σ : Store} {v v' : DV} {σ' : Store} (h1 : args.map view = args) (h2 : args.all rowFree = true) (h : call 0 f args [] = some (v', σ')) (ht : thawAll 0 σ' v' = some v) : pureV call f args σ = some v := by
  unfold pureV
  rw [h1, if_pos h2, h]
  exact ht
theorem pureV_rows {call : CallF} {f : FuncId} {args : List DV} {σ : Store} {v v' : DV} {σ' : Store} (h1 : args.map view = args) (h2 : args.all rowFree = false) (h : call σ.length f args σ = some (v', σ')) (ht : thawAll σ.length σ' v' = some v) : pureV call f args σ = some v := by
  unfold pureV
  rw [h1, if_neg (by rw [h2]; simp), h]
  exact ht
theorem condK_true {β : Type} (x y : Option β) : condK (.p (.bool true)) x y = x := Eq.trans rfl rfl
theorem condK_false {β : Type} (x y : Option β) : condK (.p (.bool false)) x y = y := Eq.trans rfl rfl
theorem pickV_true (x y : DV) : pickV (.p (.bool true)) x y = some x := Eq.trans rfl rfl
theorem pickV_false (x y : DV) : pickV (.p (.bool false)) x y = some y := Eq.trans rfl rfl
theorem guard_tt (β : Type) (m : Option (DV × Store)) (σ : Store) (K : DV → Store → Option β) : guardT β (.p (.bool true)) true m σ K = m.bind fun r => K r.1 r.2 := Eq.trans rfl rfl
theorem guard_ff (β : Type) (m : Option (DV × Store)) (σ : Store) (K : DV → Store → Option β) : guardT β (.p (.bool false)) false m σ K = m.bind fun r => K r.1 r.2 := Eq.trans rfl rfl
theorem guard_tf (β : Type) (m : Option (DV × Store)) (σ : Store) (K : DV → Store → Option β) : guardT β (.p (.bool true)) false m σ K = K .skip σ := Eq.trans rfl rfl
theorem guard_ft (β : Type) (m : Option (DV × Store)) (σ : Store) (K : DV → Store → Option β) : guardT β (.p (.bool false)) true m σ K = K .skip σ := Eq.trans rfl rfl
theorem guard_sk (β : Type) (w : Bool) (m : Option (DV × Store)) (σ : Store) (K : DV → Store → Option β) : guardT β (.tuple []) w m σ K = K .skip σ := Eq.trans rfl rfl
theorem not_bool (b : Bool) : unOp .not (.p (.bool b)) = some (.p (.bool !b)) := Eq.trans rfl rfl
theorem gG : (∀ (β : Type) (m : Option (DV × Store)) (σ : Store) (K : DV → Store → Option β), guardT β (.p (.bool true)) true m σ K = m.bind fun r => K r.1 r.2) ∧
    (∀ (β : Type) (m : Option (DV × Store)) (σ : Store) (K : DV → Store → Option β), guardT β (.p (.bool false)) false m σ K = m.bind fun r => K r.1 r.2) ∧
    (∀ (β : Type) (m : Option (DV × Store)) (σ : Store) (K : DV → Store → Option β), guardT β (.p (.bool true)) false m σ K = K .skip σ) ∧
    (∀ (β : Type) (m : Option (DV × Store)) (σ : Store) (K : DV → Store → Option β), guardT β (.p (.bool false)) true m σ K = K .skip σ) ∧
    (∀ (β : Type) (w : Bool) (m : Option (DV × Store)) (σ : Store) (K : DV → Store → Option β), guardT β (.tuple []) w m σ K = K .skip σ) ∧
    (∀ (α β : Type) (x : α) (f : α → Option β), (some x).bind f = f x) ∧ (∀ (α β : Type) (x : α) (f : α → β), (some x).map f = some (f x)) ∧
    (∀ x y : DV, pickV (.p (.bool true)) x y = some x) ∧ (∀ x y : DV, pickV (.p (.bool false)) x y = some y) ∧
    (∀ (β : Type) (x y : Option β), condK (.p (.bool true)) x y = x) ∧ (∀ (β : Type) (x y : Option β), condK (.p (.bool false)) x y = y) ∧
    (∀ h : Decidable True, @decide True h = true) ∧ (∀ h : Decidable False, @decide False h = false) ∧ ((!true) = false) ∧ ((!false) = true) ∧
    (∀ b : Bool, unOp .not (.p (.bool b)) = some (.p (.bool !b))) :=
  ⟨guard_tt, guard_ff, guard_tf, guard_ft, guard_sk, fun _ _ => obind, fun _ _ => omap, pickV_true, pickV_false, fun _ => condK_true, fun _ => condK_false, decide_true, decide_false, Bool.not_true, Bool.not_false, not_bool⟩
section
variable (P : Program) (t : TypeId) (a b : Int)
theorem b_geq : binOp P .geq t (.p (.int .i64 a)) (.p (.int .i64 b)) = some (.p (.bool (decide (a ≥ b)))) := Eq.trans rfl rfl
theorem b_leq : binOp P .leq t (.p (.int .i64 a)) (.p (.int .i64 b)) = some (.p (.bool (decide (a ≤ b)))) := Eq.trans rfl rfl
theorem b_gtr : binOp P .gtr t (.p (.int .i64 a)) (.p (.int .i64 b)) = some (.p (.bool (decide (a > b)))) := Eq.trans rfl rfl
theorem b_lss : binOp P .lss t (.p (.int .i64 a)) (.p (.int .i64 b)) = some (.p (.bool (decide (a < b)))) := Eq.trans rfl rfl
theorem b_eql : binOp P .eql t (.p (.int .i64 a)) (.p (.int .i64 b)) = some (.p (.bool (decide (a = b)))) := by
  show some (DV.p (PV.bool (a == b))) = _
  exact Eq.trans rfl rfl
theorem b_neq : binOp P .neq t (.p (.int .i64 a)) (.p (.int .i64 b)) = some (.p (.bool (!decide (a = b)))) := by
  show some (DV.p (PV.bool (a != b))) = _
  exact Eq.trans rfl rfl
theorem b_add : binOp P .add t (.p (.int .i64 a)) (.p (.int .i64 b)) = some (.p (.int .i64 (IntKind.wrap .i64 (a + b)))) := Eq.trans rfl rfl
theorem b_sub : binOp P .sub t (.p (.int .i64 a)) (.p (.int .i64 b)) = some (.p (.int .i64 (IntKind.wrap .i64 (a - b)))) := Eq.trans rfl rfl
end
theorem wrap_ok {x : Int} (h0 : -9223372036854775808 ≤ x) (h1 : x ≤ 9223372036854775807) : IntKind.wrap .i64 x = x := i64_ok h0 h1
theorem wrap_succ {i : Nat} (h : i ≤ 1000000) : IntKind.wrap .i64 ((i : Int) + 1) = ((i + 1 : Nat) : Int) := by
  rw [wrap_ok] <;> omega
theorem u24 : PP.underlying 24 = some (.slice 3) := Eq.trans (by kernel_rfl) rfl
theorem u160 : PP.underlying 160 = some (.slice 30) := Eq.trans (by kernel_rfl) rfl
theorem s3 : size? PP 3 = some 1 := Eq.trans (by kernel_rfl) rfl
theorem s30 : size? PP 30 = some 1 := Eq.trans (by kernel_rfl) rfl
theorem len24 (o : Option (List Int)) (σ : Store) : len PP 24 (.p (eSl o)) σ = some (.p (.int .i64 ((L o).length : Nat))) := by cases o <;> simp [len, u24, eSl]
theorem ints_length (l : List Int) : (eInts l).length = l.length := by simp [eInts]
def load1 (x : DV) (σ : Store) : Option DV := match loadN σ 1 x with
  | some [v] => some v
  | _ => none
theorem load3 (x : DV) (σ : Store) : load PP 3 x σ = load1 x σ := Eq.trans (by kernel_rfl) rfl
theorem load24 (x : DV) (σ : Store) : load PP 24 x σ = load1 x σ := Eq.trans (by kernel_rfl) rfl
theorem load30 (x : DV) (σ : Store) : load PP 30 x σ = load1 x σ := Eq.trans (by kernel_rfl) rfl
theorem load1_pptr {cs : List PV} {i : Nat} {x : PV} (h : cs[i]? = some x) (σ : Store) : load1 (.pptr cs i) σ = some (.p x) := by
  obtain ⟨h1, h2⟩ := drop_one h
  simp [load1, loadN, h1, h2]
theorem load1_ints {l : List Int} {i : Nat} (h : i < l.length) (σ : Store) : load1 (.pptr (eInts l) i) σ = some (.p (.int .i64 l[i])) :=
  load1_pptr (by simp [eInts, h]) σ
theorem shift_ptr (r off n : Nat) : shiftPtr (.ptr r off) n = some (.ptr r (off + n)) := Eq.trans rfl rfl
theorem shift_pptr (cs : List PV) (off n : Nat) : shiftPtr (.pptr cs off) n = some (.pptr cs (off + n)) := Eq.trans rfl rfl
theorem nil_ptr (r off : Nat) : nilCheckV (.ptr r off) = some (.ptr r off) := Eq.trans rfl rfl
theorem load1_ptr {σ : Store} {r off : Nat} {cs : List DV} {v : DV} (h : σ[r]? = some (.mix cs)) (hv : cs[off]? = some v) : load1 (.ptr r off) σ = some v := by
  obtain ⟨h1, h2⟩ := List.getElem?_eq_some_iff.1 hv
  have h3 : (cs.drop off).take 1 = [v] := by rw [List.drop_eq_getElem_cons h1, h2]; rfl
  have h4 : off + 1 ≤ cs.length := h1
  simp [load1, loadN, h, h3, h4]
theorem loadN_ptr {σ : Store} {r off n : Nat} {cs vs : List DV} (h : σ[r]? = some (.mix cs)) (hv : (cs.drop off).take n = vs) (hn : off + n ≤ cs.length) : loadN σ n (.ptr r off) = some vs := by
  simp [loadN, h, hn, hv]
theorem zero3 : zeroOf PP 3 = some [.p (pI 0)] := Eq.trans (by kernel_rfl) rfl
end Go.D
end
/- Equations of functions 26, 65, 67, 66, 122, 68, 64, 15, 78, 84, 137, 174, 156, 113, 136, 83, 82, 31, 32, printed by gen.py. -/
section
set_option linter.unusedVariables false
set_option maxRecDepth 10000
namespace Go.D
open Go.Proofs
noncomputable section
variable (G : GuardT) (lo : Nat) {σ : Store} {r : DV × Store}
open _root_.Go.D.Code (fstC sndC)
open _root_.Go.D.Ann (left right)
def c26_0 : Code := bodyOf Tryz.f26
def a26_0 : Ann := (pol 26).ann
def F26 (x0 x1 x2 : DV) (σ : Store) : RS :=
 codeF G PP (pol 26) CC lo c26_0 a26_0 (x0 :: x1 :: x2 :: zn 12 []) σ (finR PP Tryz.f26.results.toList)
theorem F26_eq (G : GuardT) (lo : Nat) (x0 x1 x2 : DV) (σ : Store) : F26 G lo x0 x1 x2 σ =
 (binOp PP .geq 3 x0 x1).bind fun x9 =>
 G _ x9 true (some (x0, σ)) σ fun x11 σ1 =>
 G _ x9 true (some (x2, σ1)) σ1 fun x12 σ2 =>
 G _ x9 true ((binOp PP .leq 3 x11 x12).bind fun v => some (v, σ2)) σ2 fun x13 σ3 =>
 (pickV x9 x13 (DV.p (PV.bool false))).bind fun x14 =>
 some (x14, σ3) := by kernel_rfl
theorem F26_call {lo : Nat} {x0 x1 x2 : DV} (h : F26 guardT lo x0 x1 x2 σ = some r) : CC lo 26 [x0, x1, x2] σ = some r :=
 callL_run Tryz.func26 (by decide +kernel) rfl (by decide +kernel) h
def c65_0 : Code := bodyOf Tryz.f65
def a65_0 : Ann := (pol 65).ann
def F65 (x0 x1 x2 : DV) (σ : Store) : RS :=
 codeF G PP (pol 65) CC lo c65_0 a65_0 (x0 :: x1 :: x2 :: zn 12 []) σ (finR PP Tryz.f65.results.toList)
theorem F65_eq (G : GuardT) (lo : Nat) (x0 x1 x2 : DV) (σ : Store) : F65 G lo x0 x1 x2 σ =
 (binOp PP .leq 3 x1 x0).bind fun x9 =>
 G _ x9 true (some (x0, σ)) σ fun x11 σ1 =>
 G _ x9 true (some (x2, σ1)) σ1 fun x12 σ2 =>
 G _ x9 true ((binOp PP .leq 3 x11 x12).bind fun v => some (v, σ2)) σ2 fun x13 σ3 =>
 (pickV x9 x13 (DV.p (PV.bool false))).bind fun x14 =>
 some (x14, σ3) := by kernel_rfl
theorem F65_call {lo : Nat} {x0 x1 x2 : DV} (h : F65 guardT lo x0 x1 x2 σ = some r) : CC lo 65 [x0, x1, x2] σ = some r :=
 callL_run Tryz.func65 (by decide +kernel) rfl (by decide +kernel) h
def c67_0 : Code := bodyOf Tryz.f67
def a67_0 : Ann := (pol 67).ann
def F67 (x0 x1 : DV) (σ : Store) : RS :=
 codeF G PP (pol 67) CC lo c67_0 a67_0 (x0 :: x1 :: zn 5 []) σ (finR PP Tryz.f67.results.toList)
theorem F67_eq (G : GuardT) (lo : Nat) (x0 x1 : DV) (σ : Store) : F67 G lo x0 x1 σ =
 condK x0
 (
 some (x1, σ)
 )
 (
 some (I0, σ)
 ) := by kernel_rfl
theorem F67_call {lo : Nat} {x0 x1 : DV} (h : F67 guardT lo x0 x1 σ = some r) : CC lo 67 [x0, x1] σ = some r :=
 callL_run Tryz.func67 (by decide +kernel) rfl (by decide +kernel) h
def c66_0 : Code := bodyOf Tryz.f66
def a66_0 : Ann := (pol 66).ann
def a66_7 : Ann := right (left (right (right a66_0)))
def a66_8 : Ann := left a66_7
def c66_9 : Code := fstC (fstC (sndC (fstC (sndC (sndC c66_0)))))
def c66_27 : Code := sndC (sndC (sndC c66_0))
def a66_27 : Ann := right (right (right a66_0))
def f66_L0 (x3 x6 x7 x8 : DV) (σ : Store) : RS :=
 codeF G PP (pol 66) CC lo (.loop c66_9) a66_8 (Z :: Z :: Z :: x3 :: Z :: Z :: x6 :: x7 :: x8 :: zn 9 []) σ
 (blockC 0 a66_7 (seqC G PP (pol 66) CC lo c66_27 a66_27 (finR PP Tryz.f66.results.toList)))
def F66 (x0 : DV) (σ : Store) : RS :=
 codeF G PP (pol 66) CC lo c66_0 a66_0 (x0 :: zn 17 []) σ (finR PP Tryz.f66.results.toList)
theorem f66_L0_eq (G : GuardT) (hG : GuardOk G) (lo : Nat) (x3 x6 x7 x8 : DV) (σ : Store) : f66_L0 G lo x3 x6 x7 x8 σ =
 (binOp PP .lss 3 x8 x7).bind fun x9 =>
 condK x9
 (
 (indexAddr PP 160 x6 x8).bind fun x10 =>
 (load PP 30 x10 σ).bind fun x11 =>
 (binOp PP .neq 30 x11 x3).bind fun x14 =>
 condK x14
 (
 some (x11, σ)
 )
 (
 (binOp PP .add 3 x8 I1).bind fun x16 =>
 f66_L0 G lo x3 x6 x7 x16 σ
 )
 )
 (
 some (x3, σ)
 ) := (loopF_eq G hG).trans (by kernel_rfl)
theorem F66_eq (G : GuardT) (lo : Nat) (x0 : DV) (σ : Store) : F66 G lo x0 σ =
 (len PP 160 x0 σ).bind fun x7 =>
 f66_L0 G lo I0 x0 x7 I0 σ := by kernel_rfl
theorem F66_call {lo : Nat} {x0 : DV} (h : F66 guardT lo x0 σ = some r) : CC lo 66 [x0] σ = some r :=
 callL_run Tryz.func66 (by decide +kernel) rfl (by decide +kernel) h
end
end Go.D
end
/- Equations of functions 14, 52, 16, 69, 17, 80, 33, 34, 85, 35, 5, printed by gen.py. -/
section
set_option linter.unusedVariables false
set_option maxRecDepth 10000
namespace Go.D
open Go.Proofs
noncomputable section
variable (G : GuardT) (lo : Nat) {σ : Store} {r : DV × Store}
open _root_.Go.D.Code (fstC sndC)
open _root_.Go.D.Ann (left right)
def c52_0 : Code := bodyOf Tryz.f52
def a52_0 : Ann := (pol 52).ann
def F52 (x0 : DV) (σ : Store) : RS :=
 codeF G PP (pol 52) CC lo c52_0 a52_0 (x0 :: zn 5 []) σ (finR PP Tryz.f52.results.toList)
theorem F52_eq (G : GuardT) (lo : Nat) (x0 : DV) (σ : Store) : F52 G lo x0 σ =
 (buildSlice PP none 24 0 [] σ).bind fun r3_1 =>
 (append PP lo false 24 24 r3_1.1 x0 r3_1.2).bind fun r5_2 =>
 some (r5_2.1, r5_2.2) := by kernel_rfl
theorem F52_call {lo : Nat} {x0 : DV} (h : F52 guardT lo x0 σ = some r) : CC lo 52 [x0] σ = some r :=
 callL_run Tryz.func52 (by decide +kernel) rfl (by decide +kernel) h
def c80_0 : Code := bodyOf Tryz.f80
def a80_0 : Ann := (pol 80).ann
def a80_13 : Ann := right (left (right (right a80_0)))
def a80_14 : Ann := left a80_13
def c80_15 : Code := fstC (fstC (sndC (fstC (sndC (sndC c80_0)))))
def c80_31 : Code := sndC (sndC (sndC c80_0))
def a80_31 : Ann := right (right (right a80_0))
def f80_L0 (x0 x1 x5 : DV) (σ : Store) : RS :=
 codeF G PP (pol 80) CC lo (.loop c80_15) a80_14 (x0 :: x1 :: Z :: Z :: Z :: x5 :: zn 20 []) σ
 (blockC 0 a80_13 (seqC G PP (pol 80) CC lo c80_31 a80_31 (finR PP Tryz.f80.results.toList)))
def F80 (x0 x1 : DV) (σ : Store) : RS :=
 codeF G PP (pol 80) CC lo c80_0 a80_0 (x0 :: x1 :: zn 24 []) σ (finR PP Tryz.f80.results.toList)
theorem f80_L0_eq (G : GuardT) (hG : GuardOk G) (lo : Nat) (x0 x1 x5 : DV) (σ : Store) : f80_L0 G lo x0 x1 x5 σ =
 (len PP 24 x0 σ).bind fun x13 =>
 (binOp PP .lss 3 x5 x13).bind fun x14 =>
 condK x14
 (
 (indexAddr PP 24 x0 x5).bind fun x19 =>
 (load PP 3 x19 σ).bind fun x20 =>
 (indexAddr PP 24 x1 x5).bind fun x23 =>
 (load PP 3 x23 σ).bind fun x24 =>
 (binOp PP .neq 3 x20 x24).bind fun x25 =>
 condK x25
 (
 some ((DV.p (PV.bool false)), σ)
 )
 (
 (binOp PP .add 3 x5 I1).bind fun x16 =>
 f80_L0 G lo x0 x1 x16 σ
 )
 )
 (
 some ((DV.p (PV.bool true)), σ)
 ) := (loopF_eq G hG).trans (by kernel_rfl)
theorem F80_eq (G : GuardT) (lo : Nat) (x0 x1 : DV) (σ : Store) : F80 G lo x0 x1 σ =
 (len PP 24 x0 σ).bind fun x7 =>
 (len PP 24 x1 σ).bind fun x9 =>
 (binOp PP .neq 3 x7 x9).bind fun x10 =>
 condK x10
 (
 some ((DV.p (PV.bool false)), σ)
 )
 (
 f80_L0 G lo x0 x1 I0 σ
 ) := by kernel_rfl
theorem F80_call {lo : Nat} {x0 x1 : DV} (h : F80 guardT lo x0 x1 σ = some r) : CC lo 80 [x0, x1] σ = some r :=
 callL_run Tryz.func80 (by decide +kernel) rfl (by decide +kernel) h
def c33_0 : Code := bodyOf Tryz.f33
def a33_0 : Ann := (pol 33).ann
def F33 (x0 x1 : DV) (σ : Store) : RS :=
 codeF G PP (pol 33) CC lo c33_0 a33_0 (x0 :: x1 :: zn 15 []) σ (finR PP Tryz.f33.results.toList)
theorem F33_eq (G : GuardT) (lo : Nat) (x0 x1 : DV) (σ : Store) : F33 G lo x0 x1 σ =
 (boxP x0).bind fun x2 =>
 (boxP x1).bind fun x3 =>
 (fieldAddr PP 26 x2 0).bind fun x5 =>
 (load PP 24 x5 σ).bind fun x6 =>
 (fieldAddr PP 26 x3 0).bind fun x7 =>
 (load PP 24 x7 σ).bind fun x8 =>
 (pureFn CC (DV.fn 80 []) [x6, x8] σ).bind fun x9 =>
 G _ x9 true ((fieldAddr PP 26 x2 1).bind fun v => some (v, σ)) σ fun x11 σ1 =>
 G _ x9 true ((load PP 24 x11 σ1).bind fun v => some (v, σ1)) σ1 fun x12 σ2 =>
 G _ x9 true ((fieldAddr PP 26 x3 1).bind fun v => some (v, σ2)) σ2 fun x13 σ3 =>
 G _ x9 true ((load PP 24 x13 σ3).bind fun v => some (v, σ3)) σ3 fun x14 σ4 =>
 G _ x9 true ((pureFn CC (DV.fn 80 []) [x12, x14] σ4).bind fun v => some (v, σ4)) σ4 fun x15 σ5 =>
 (pickV x9 x15 (DV.p (PV.bool false))).bind fun x16 =>
 some (x16, σ5) := by kernel_rfl
theorem F33_call {lo : Nat} {x0 x1 : DV} (h : F33 guardT lo x0 x1 σ = some r) : CC lo 33 [x0, x1] σ = some r :=
 callL_run Tryz.func33 (by decide +kernel) rfl (by decide +kernel) h
end
end Go.D
end
/- Words: the shortest form is the same for all forms of an infinite word; the same without stuttering. Plain Lean. -/
section
set_option linter.unusedVariables false
set_option linter.unusedSimpArgs false
namespace Go.D.Las
def atW (P L : List Int) (i : Nat) : Int := if i < P.length then P.getD i 0 else L.getD ((i - P.length) % L.length) 0
def lastI (l : List Int) : Int := l.getD (l.length - 1) 0
def Per (l : List Int) (n : Nat) : Prop := l.length % n = 0 ∧ ∀ i, i < l.length → n ≤ i → l.getD i 0 = l.getD (i - n) 0
instance (l : List Int) (n : Nat) : Decidable (Per l n) := by unfold Per; exact inferInstance
structure Can (P L : List Int) : Prop where
  ne : L ≠ []
  mn : ∀ n, 0 < n → n < L.length → L.length % n = 0 → ∃ i, P.length ≤ i ∧ atW P L (i + n) ≠ atW P L i
  en : P = [] ∨ lastI P ≠ lastI L
def dd : Int → List Int → List Int
  | _, [] => []
  | p, x :: l => if x = p then dd p l else x :: dd x l
def once : List Int → List Int
  | [] => []
  | x :: l => x :: dd x l
end Go.D.Las
end
/- Chapter 13: lists of numbers as the program's values; words; small functions. -/
section
set_option linter.unusedVariables false
set_option linter.unusedSimpArgs false
namespace Go.D
abbrev OI := Option (List Int)
def N (n : Nat) : DV := .p (.int .i64 (n : Nat))
theorem ltT {a b : Int} (h : a < b) : decide (a < b) = true := decide_eq_true h
theorem ltF {a b : Int} (h : ¬ a < b) : decide (a < b) = false := decide_eq_false h
theorem leT {a b : Int} (h : a ≤ b) : decide (a ≤ b) = true := decide_eq_true h
theorem leF {a b : Int} (h : ¬ a ≤ b) : decide (a ≤ b) = false := decide_eq_false h
theorem gtT {a b : Int} (h : a > b) : decide (a > b) = true := decide_eq_true h
theorem gtF {a b : Int} (h : ¬ a > b) : decide (a > b) = false := decide_eq_false h
theorem geT {a b : Int} (h : a ≥ b) : decide (a ≥ b) = true := decide_eq_true h
theorem geF {a b : Int} (h : ¬ a ≥ b) : decide (a ≥ b) = false := decide_eq_false h
theorem eqT {a b : Int} (h : a = b) : decide (a = b) = true := decide_eq_true h
theorem eqF {a b : Int} (h : ¬ a = b) : decide (a = b) = false := decide_eq_false h
theorem add1 {i : Nat} (h : i ≤ 1000000) : binOp PP .add 3 (.p (.int .i64 (i : Nat))) (.p (.int .i64 1)) = some (.p (.int .i64 ((i + 1 : Nat)))) := by rw [b_add, wrap_succ h]
theorem sub1 {i : Nat} (h0 : 0 < i) (h : i ≤ 1000000) : binOp PP .sub 3 (.p (.int .i64 (i : Nat))) (.p (.int .i64 1)) = some (.p (.int .i64 ((i - 1 : Nat)))) := by
  rw [b_sub, wrap_ok] <;> first | omega | skip
  congr 3
  omega
theorem src24 : srcType PP 24 = true := Eq.trans (by kernel_rfl) rfl
theorem bytes3 : bytes? PP 3 = some 8 := Eq.trans (by kernel_rfl) rfl
theorem pures_map (cs : List PV) : pures (cs.map DV.p) = some cs := by
  induction cs with
  | nil => rfl
  | cons c cs ih => simp only [List.map_cons, pures, ih, DV.pure?]
theorem get_snoc {σ : Store} {row : Row} : (σ ++ [row])[σ.length]? = some row := by simp
theorem get_old {σ : Store} {r : Nat} {row row' : Row} (h : σ[r]? = some row) : (σ ++ [row'])[r]? = some row := by
  rw [List.getElem?_append_left (List.getElem?_eq_some_iff.1 h).1]; exact h
theorem get_lt {σ : Store} {r : Nat} {row : Row} (h : σ[r]? = some row) : r < σ.length := (List.getElem?_eq_some_iff.1 h).1
theorem load1_getD {l : List Int} {i : Nat} (h : i < l.length) (σ : Store) : load1 (.pptr (eInts l) i) σ = some (.p (.int .i64 (l.getD i 0))) := by
  rw [load1_ints h, List.getD_eq_getElem?_getD, List.getElem?_eq_getElem h]; rfl
theorem sl_view (o : OI) : view (.p (eSl o)) = .p (eSl o) := by simp [view, viewCell, loosen_sl]
def PL (x : DV) (l : List Int) : Prop := (x = .p .nilsl ∧ l = []) ∨ (∃ ex, x = .p (.sl ex l.length (eInts l))) ∨ ∃ r v, x = .osl r v 1 l.length (eInts l)
theorem PL.sl (o : OI) : PL (.p (eSl o)) (L o) := by
  cases o with
  | none => exact .inl ⟨rfl, rfl⟩
  | some l => exact .inr (.inl ⟨false, rfl⟩)
theorem PL.some (l : List Int) : PL (.p (eSl (some l))) l := .inr (.inl ⟨false, rfl⟩)
theorem PL.len {x : DV} {l : List Int} (h : PL x l) (σ : Store) : len PP 24 x σ = Option.some (.p (.int .i64 (l.length : Nat))) := by
  rcases h with ⟨rfl, rfl⟩ | ⟨ex, rfl⟩ | ⟨r, v, rfl⟩ <;> simp [D.len, u24]
theorem PL.idx {x : DV} {l : List Int} (h : PL x l) {i : Nat} (hi : i < l.length) : indexAddr PP 24 x (.p (.int .i64 (i : Nat))) = Option.some (.pptr (eInts l) i) := by
  have h2 : (0 : Int) ≤ (i : Int) ∧ (i : Int) < (l.length : Nat) := by omega
  rcases h with ⟨rfl, rfl⟩ | ⟨ex, rfl⟩ | ⟨r, v, rfl⟩
  · simp at hi
  · simp [indexAddr, u24, s3, h2]
  · simp [indexAddr, u24, s3, h2]
theorem bound_nat {k most : Nat} (h : k ≤ most) (d : Nat) : bound (some (.p (.int .i64 (k : Nat)))) d most = some k := by
  have h2 : (0 : Int) ≤ (k : Int) ∧ (k : Int) ≤ (most : Nat) := by omega
  simp [bound, h2]
theorem eInts_take (l : List Int) (k : Nat) : (eInts l).take k = eInts (l.take k) := by simp [eInts, List.map_take]
theorem PL.take {x : DV} {l : List Int} (h : PL x l) {k : Nat} (hk : k ≤ l.length) : ∃ y, sliceOp PP 24 x none (Option.some (.p (.int .i64 (k : Nat)))) none = Option.some y ∧ PL y (l.take k) := by
  have hl : (l.take k).length = k := by simp; omega
  rcases h with ⟨rfl, rfl⟩ | ⟨ex, rfl⟩ | ⟨r, v, rfl⟩
  · have : k = 0 := by simpa using hk
    subst this
    exact ⟨.p .nilsl, by simp [sliceOp, u24, s3, bound], .inl ⟨rfl, by simp⟩⟩
  · refine ⟨.p (.sl (ex && k == l.length) k (eInts (l.take k))), ?_, .inr (.inl ⟨_, by rw [hl]⟩)⟩
    have hb := bound_nat hk l.length
    simp only [sliceOp, u24, s3, Option.isSome_none, Bool.false_and, if_false, Bool.false_eq_true, hb, show bound none l.length l.length = Option.some l.length from rfl, show bound none 0 k = Option.some 0 from rfl, Nat.zero_mul, List.drop_zero, Nat.sub_zero, Nat.mul_one, eInts_take]
  · by_cases hf : k = l.length ∧ 0 < l.length
    · obtain ⟨rfl, h0⟩ := hf
      refine ⟨.osl r v 1 l.length (eInts l), ?_, .inr (.inr ⟨r, v, by rw [List.take_length]⟩)⟩
      have hb := bound_nat hk l.length
      simp only [sliceOp, u24, s3, Option.isSome_none, Bool.false_and, if_false, Bool.false_eq_true, hb, show bound none l.length l.length = Option.some l.length from rfl, show bound none 0 l.length = Option.some 0 from rfl, Nat.zero_mul, List.drop_zero, Nat.sub_zero, ne_eq, not_true_eq_false, beq_self_eq_true, Bool.true_and, decide_eq_true h0, if_true]
    · refine ⟨.p (.sl false k (eInts (l.take k))), ?_, .inr (.inl ⟨_, by rw [hl]⟩)⟩
      have hb := bound_nat hk l.length
      have hne : (k == l.length && decide (0 < l.length)) = false := by
        rw [Bool.and_eq_false_iff, beq_eq_false_iff_ne, decide_eq_false_iff_not]
        by_cases e : k = l.length
        · exact .inr fun h => hf ⟨e, h⟩
        · exact .inl e
      simp only [sliceOp, u24, s3, Option.isSome_none, Bool.false_and, if_false, Bool.false_eq_true, hb, show bound none l.length l.length = Option.some l.length from rfl, show bound none 0 k = Option.some 0 from rfl, Nat.zero_mul, List.drop_zero, Nat.sub_zero, Nat.mul_one, eInts_take, ne_eq, not_true_eq_false, hne]
theorem PL.src {x : DV} {l : List Int} (h : PL x l) (σ : Store) : source σ 1 x = Option.some (l.length, (eInts l).map .p) := by
  rcases h with ⟨rfl, rfl⟩ | ⟨ex, rfl⟩ | ⟨r, v, rfl⟩
  · rfl
  · simp [source, ints_length]
  · simp [source, ints_length]
theorem PL.vw {x : DV} {l : List Int} (h : PL x l) : ∃ o, view x = .p (eSl o) ∧ L o = l := by
  rcases h with ⟨rfl, rfl⟩ | ⟨ex, rfl⟩ | ⟨r, v, rfl⟩
  · exact ⟨none, rfl, rfl⟩
  · exact ⟨Option.some l, by simp [view, viewCell, loosen, loosens_ints, eSl], rfl⟩
  · exact ⟨Option.some l, by simp [view, viewCell, loosens_ints, eSl], rfl⟩
theorem PL.thaw {x : DV} {l : List Int} (h : PL x l) (n : Nat) (σ : Store) : ∃ o, D.thaw n σ x = Option.some (.p (eSl o)) ∧ L o = l := by
  rcases h with ⟨rfl, rfl⟩ | ⟨ex, rfl⟩ | ⟨r, v, rfl⟩
  · exact ⟨none, rfl, rfl⟩
  · exact ⟨Option.some l, by simp [D.thaw, thaw1, thawP, loosen, loosens_ints, eSl], rfl⟩
  · exact ⟨Option.some l, by simp [D.thaw, thaw1, thawP, loosens_ints, eSl], rfl⟩
theorem PL.one {x : DV} {l : List Int} (h : PL x l) : x.one = true ∧ x.cells = [x] := by
  rcases h with ⟨rfl, rfl⟩ | ⟨ex, rfl⟩ | ⟨r, v, rfl⟩ <;> exact ⟨rfl, rfl⟩
structure Wd where
  p : OI
  l : OI
def eWd (w : Wd) : List PV := [eSl w.p, eSl w.l]
def vWd (w : Wd) : DV := .agg [.p (eSl w.p), .p (eSl w.l)]
theorem wd_view (w : Wd) : view (vWd w) = vWd w := by simp [view, viewCell, vWd, loosen_sl]
theorem wd_free (w : Wd) : rowFree (vWd w) = true := rfl
theorem box_wd (w : Wd) : boxP (vWd w) = some (.pptr (eWd w) 0) := rfl
theorem fa26_0 (x : DV) : fieldAddr PP 26 x 0 = shiftPtr x 0 := Eq.trans (by kernel_rfl) rfl
theorem fa26_1 (x : DV) : fieldAddr PP 26 x 1 = shiftPtr x 1 := Eq.trans (by kernel_rfl) rfl
theorem zero26 : zeroOf PP 26 = some [.p .nilsl, .p .nilsl] := Eq.trans (by kernel_rfl) rfl
theorem wd_0 (w : Wd) (σ : Store) : load1 (.pptr (eWd w) 0) σ = some (.p (eSl w.p)) := load1_pptr rfl σ
theorem wd_1 (w : Wd) (σ : Store) : load1 (.pptr (eWd w) 1) σ = some (.p (eSl w.l)) := load1_pptr rfl σ
theorem bs24_0 (σ : Store) : buildSlice PP none 24 0 [] σ = some (.p (.sl true 0 []), σ) := Eq.trans (by kernel_rfl) rfl
theorem bs24_1 (a : Int) (σ : Store) : buildSlice PP none 24 1 [(0, .p (.int .i64 a))] σ = some (.p (.sl true 1 [.int .i64 a]), σ) := Eq.trans (by kernel_rfl) rfl
theorem bs160_2 (a b : Int) (σ : Store) : buildSlice PP none 160 2 [(0, .p (.int .i64 a)), (1, .p (.int .i64 b))] σ = some (.p (.sl true 2 [pI a, pI b]), σ) := Eq.trans (by kernel_rfl) rfl
theorem bld26 {x y : DV} (hx : x.one = true) (hy : y.one = true) : build PP 26 [(0, x), (1, y)] = some (.agg [x, y]) := by
  cases x <;> first | (exfalso; simp [DV.one] at hx; done) | skip
  all_goals (cases y <;> first | (exfalso; simp [DV.one] at hy; done) | exact Eq.trans (by kernel_rfl) rfl)
theorem PL.undef {x : DV} {l : List Int} (h : PL x l) : x.isUndef = false := by
  rcases h with ⟨rfl, rfl⟩ | ⟨ex, rfl⟩ | ⟨r, v, rfl⟩ <;> rfl
def inR (n lo hi : Int) : Bool := decide (n ≥ lo) && decide (n ≤ hi)
theorem inR_iff (n a b : Int) : inR n a b = true ↔ a ≤ n ∧ n ≤ b := by
  unfold inR
  rw [Bool.and_eq_true, decide_eq_true_iff, decide_eq_true_iff]
theorem pureV_view {call : CallF} {f : FuncId} {args args' : List DV} {σ : Store} (h : args.map view = args') (h2 : args'.map view = args') : pureV call f args σ = pureV call f args' σ := by
  unfold pureV
  rw [h, h2]
theorem len160 (ex : Bool) (n : Nat) (cs : List PV) (σ : Store) : len PP 160 (.p (.sl ex n cs)) σ = some (.p (.int .i64 (n : Nat))) := by simp [len, u160]
theorem S26 (n a b : Int) (σ : Store) : pureV CC 26 [.p (.int .i64 n), .p (.int .i64 a), .p (.int .i64 b)] σ = some (.p (.bool (inR n a b))) := by
  refine pureV_free rfl rfl (F26_call (r := (.p (.bool (inR n a b)), [])) ?_) rfl
  rw [F26_eq]
  by_cases h : n ≥ a
  · simp only [b_geq, geT h, gG, b_leq, inR, Bool.true_and]
  · simp only [b_geq, geF h, gG, inR, Bool.false_and]
theorem S65 (n a b : Int) (σ : Store) : pureV CC 65 [.p (.int .i64 n), .p (.int .i64 a), .p (.int .i64 b)] σ = some (.p (.bool (inR n a b))) := by
  refine pureV_free rfl rfl (F65_call (r := (.p (.bool (inR n a b)), [])) ?_) rfl
  rw [F65_eq]
  by_cases h : a ≤ n
  · have h' : decide (n ≥ a) = true := decide_eq_true h
    simp only [b_leq, leT h, gG, inR, h', Bool.true_and]
  · have h' : decide (n ≥ a) = false := decide_eq_false h
    simp only [b_leq, leF h, gG, inR, h', Bool.false_and]
def wrg (b : Bool) (e : Int) : Int := if b = true then e else 0
theorem S67 (b : Bool) (e : Int) (σ : Store) : pureV CC 67 [.p (.bool b), .p (.int .i64 e)] σ = some (.p (.int .i64 (wrg b e))) := by
  refine pureV_free rfl rfl (F67_call (r := (.p (.int .i64 (wrg b e)), [])) ?_) rfl
  rw [F67_eq]
  cases b <;> simp only [gG] <;> rfl
def orL : List Int → Int
  | [] => 0
  | v :: l => if v ≠ 0 then v else orL l
theorem idx160 {ex : Bool} {l : List Int} {i : Nat} (h : i < l.length) : indexAddr PP 160 (.p (.sl ex l.length (eInts l))) (.p (.int .i64 (i : Nat))) = some (.pptr (eInts l) i) := by
  have h2 : (0 : Int) ≤ (i : Int) ∧ (i : Int) < (l.length : Nat) := by omega
  simp [indexAddr, u160, s30, h2]
theorem drop_cons {l : List Int} {i : Nat} (h : i < l.length) : l.drop i = l.getD i 0 :: l.drop (i + 1) := by
  rw [List.drop_eq_getElem_cons h, List.getD_eq_getElem?_getD, List.getElem?_eq_getElem h]; rfl
theorem L66 {ex : Bool} {l : List Int} {lo : Nat} {σ : Store} (hl : l.length ≤ 1000) : ∀ (k i : Nat), l.length - i = k → i ≤ l.length → f66_L0 guardT lo (.p (.int .i64 0)) (.p (.sl ex l.length (eInts l))) (N l.length) (N i) σ = some (.p (.int .i64 (orL (l.drop i))), σ)
  | 0, i, hk, hi => by
    rw [f66_L0_eq guardT rfl, List.drop_eq_nil_of_le (by omega)]
    simp (disch := omega) only [N, b_lss, ltF, gG, orL]
  | k + 1, i, hk, hi => by
    have h : i < l.length := by omega
    rw [f66_L0_eq guardT rfl, drop_cons h]
    have ih := L66 (ex := ex) (lo := lo) (σ := σ) hl k (i + 1) (by omega) (by omega)
    simp (disch := omega) only [N, b_lss, ltT, gG, idx160 h, load30, load1_getD h, b_neq, orL]
    by_cases hv : l.getD i 0 = 0
    · simp (disch := omega) only [eqT hv, gG, add1]
      rw [if_neg (by simpa using hv)]
      exact ih
    · simp only [eqF hv, gG]
      rw [if_pos hv]
theorem S66 {ex : Bool} {l : List Int} (hl : l.length ≤ 1000) (σ : Store) : pureV CC 66 [.p (.sl ex l.length (eInts l))] σ = some (.p (.int .i64 (orL l))) := by
  rw [pureV_view (args' := [.p (.sl false l.length (eInts l))]) (by simp [view, viewCell, loosen, loosens_ints]) (by simp [view, viewCell, loosen, loosens_ints])]
  refine pureV_free (by simp [view, viewCell, loosen, loosens_ints]) rfl (F66_call (r := (.p (.int .i64 (orL l)), [])) ?_) rfl
  rw [F66_eq]
  have := L66 (ex := false) (l := l) (lo := 0) (σ := []) hl _ 0 rfl (Nat.zero_le _)
  simp only [len160, obind]
  simpa [N] using this
end Go.D
end
/- What a call's arguments are: plain data of any type without pointers, as values of D. For any program. -/
section
set_option linter.unusedVariables false
set_option linter.unusedSimpArgs false
namespace Go.D

mutual
inductive Plain (P : Program) : TypeId → List PV → Prop where
  | bool {t : TypeId} (h : P.underlying t = some .bool) (b : Bool) : Plain P t [.bool b]
  | int {t : TypeId} {k : IntKind} (h : P.underlying t = some (.int k)) (n : Int) (hw : (Lit.int k n).wf = true) : Plain P t [.int k n]
  | str {t : TypeId} (h : P.underlying t = some .string) (s : ByteArray) (hs : s.size ≤ maxLen) : Plain P t [.str s]
  | nilsl {t e : TypeId} (h : P.underlying t = some (.slice e)) : Plain P t [.nilsl]
  | sl {t e : TypeId} (h : P.underlying t = some (.slice e)) (n : Nat) (cs : List PV) (hx : PlainL P (List.replicate n e) cs) : Plain P t [.sl false n cs]
  | struct {t : TypeId} {fs : Array Field} (h : P.underlying t = some (.struct fs)) (cs : List PV) (hx : PlainL P (fs.toList.map (·.type)) cs) : Plain P t cs
  | array {t e : TypeId} {n : Nat} (h : P.underlying t = some (.array n e)) (cs : List PV) (hx : PlainL P (List.replicate n e) cs) : Plain P t cs
inductive PlainL (P : Program) : List TypeId → List PV → Prop where
  | nil : PlainL P [] []
  | cons {t : TypeId} {ts : List TypeId} {a b : List PV} (h : Plain P t a) (hs : PlainL P ts b) : PlainL P (t :: ts) (a ++ b)
end

/-! ### Taking apart -/
section
variable {P : Program} {t e : TypeId} {k : IntKind} {cs : List PV}
theorem Plain.inv_int (hu : P.underlying t = some (.int k)) (h : Plain P t cs) : ∃ n, (Lit.int k n).wf = true ∧ cs = [.int k n] := by
  cases h with
  | int h n hw =>
    rw [hu] at h
    injection h with h
    injection h with h
    exact ⟨n, by rw [h]; exact hw, by rw [h]⟩
  | _ h => rw [hu] at h; injection h with h; exact absurd h (by simp)
theorem Plain.inv_bool (hu : P.underlying t = some .bool) (h : Plain P t cs) : ∃ b, cs = [.bool b] := by
  cases h with
  | bool h b => exact ⟨b, rfl⟩
  | _ h => rw [hu] at h; injection h with h; exact absurd h (by simp)
theorem Plain.inv_str (hu : P.underlying t = some .string) (h : Plain P t cs) : ∃ s, s.size ≤ maxLen ∧ cs = [.str s] := by
  cases h with
  | str h s hs => exact ⟨s, hs, rfl⟩
  | _ h => rw [hu] at h; injection h with h; exact absurd h (by simp)
theorem Plain.inv_slice (hu : P.underlying t = some (.slice e)) (h : Plain P t cs) : cs = [.nilsl] ∨ ∃ n xs, PlainL P (List.replicate n e) xs ∧ cs = [.sl false n xs] := by
  cases h with
  | nilsl h => exact .inl rfl
  | sl h n xs hx =>
    rw [hu] at h
    injection h with h
    injection h with h
    exact .inr ⟨n, xs, by rw [h]; exact hx, rfl⟩
  | _ h => rw [hu] at h; injection h with h; exact absurd h (by simp)
theorem Plain.inv_struct {fs : Array Field} (hu : P.underlying t = some (.struct fs)) (h : Plain P t cs) : PlainL P (fs.toList.map (·.type)) cs := by
  cases h with
  | struct h xs hx =>
    rw [hu] at h
    injection h with h
    injection h with h
    rw [h]; exact hx
  | _ h => rw [hu] at h; injection h with h; exact absurd h (by simp)
theorem Plain.inv_array {n : Nat} (hu : P.underlying t = some (.array n e)) (h : Plain P t cs) : PlainL P (List.replicate n e) cs := by
  cases h with
  | array h xs hx =>
    rw [hu] at h
    injection h with h
    injection h with h1 h2
    rw [h1, h2]; exact hx
  | _ h => rw [hu] at h; injection h with h; exact absurd h (by simp)
theorem PlainL.inv_nil (h : PlainL P [] cs) : cs = [] := by cases h; rfl
theorem PlainL.inv_cons {ts : List TypeId} (h : PlainL P (t :: ts) cs) : ∃ a b, Plain P t a ∧ PlainL P ts b ∧ cs = a ++ b := by
  cases h with
  | cons h hs => exact ⟨_, _, h, hs, rfl⟩
theorem PlainL.inv_rep {α : Type} {f : α → List PV} (hf : ∀ a, Plain P t a → ∃ x, a = f x) : ∀ {n : Nat} {cs : List PV}, PlainL P (List.replicate n t) cs → ∃ xs : List α, xs.length = n ∧ cs = xs.flatMap f
  | 0, cs, h => ⟨[], rfl, h.inv_nil⟩
  | n + 1, cs, h => by
    obtain ⟨a, b, h1, h2, rfl⟩ := PlainL.inv_cons (ts := List.replicate n t) h
    obtain ⟨x, rfl⟩ := hf a h1
    obtain ⟨xs, h3, rfl⟩ := PlainL.inv_rep hf h2
    exact ⟨x :: xs, by simp [h3], by simp⟩
end

/-! ### Types that are read -/
def layOk (P : Program) (ok : TypeId → Bool) (total : Nat) : Nat → List Field → Bool
  | off, [] => off == total
  | off, f :: fs => f.offset == off && ok f.type && layOk P ok total (off + P.cellsOf f.type) fs
def plainTy (P : Program) : Nat → TypeId → Bool
  | 0, _ => false
  | n + 1, t => match P.underlying t with
    | some .bool | some (.int _) | some .string => true
    | some (.slice e) => decide (0 < P.cellsOf e) && plainTy P n e
    | some (.struct fs) => layOk P (plainTy P n) (P.cellsOf t) 0 fs.toList
    | some (.array m e) => m * P.cellsOf e == P.cellsOf t && plainTy P n e
    | _ => false

section
variable {H : Type} {enc : TypeId × Value → H} {W : World} {P : Program} {hd : Bool}
abbrev memR (W : World) : Mem := fun b o => W.cell? ⟨b, o, none⟩

theorem spot_cell {a : Addr} {v : Value} (h : W.cell? a = some v) : a.spot = none := by
  unfold World.cell? at h
  split at h
  · split at h
    · exact absurd h (by simp)
    · rename_i hs
      cases e : a.spot with
      | none => rfl
      | some s => rw [e] at hs; exact absurd rfl hs
  · exact absurd h (by simp)
theorem addr_eq {a : Addr} {n : Nat} (h : a.spot = none) : a.add n = ⟨a.block, a.off + n, none⟩ := by
  cases a with
  | mk b o s => cases h; exact Addr.add_mid b o n

def RelL (M : Mem) (ps : List PV) (vs : List Value) : Prop := ps.length = vs.length ∧ ∀ j (h1 : j < ps.length) (h2 : j < vs.length), PRel M ps[j] vs[j]

theorem RelL.append {M : Mem} {a c : List PV} {b d : List Value} (h : RelL M a b) (h2 : RelL M c d) : RelL M (a ++ c) (b ++ d) := by
  refine ⟨by simp [h.1, h2.1], fun j h3 h4 => ?_⟩
  by_cases hj : j < a.length
  · rw [List.getElem_append_left hj, List.getElem_append_left (by rw [← h.1]; exact hj)]
    exact h.2 j hj _
  · rw [List.getElem_append_right (by omega), List.getElem_append_right (by rw [← h.1]; omega)]
    have e : j - b.length = j - a.length := by rw [h.1]
    simp only [e]
    refine h2.2 _ (by simp at h3; omega) ?_
theorem elems_read {e : TypeId} {sz : Nat} {b : Nat} : ∀ (n o : Nat),
    (∀ i, i < n → ∃ ps vs, Plain P e ps ∧ vs.length = sz ∧ RelL (memR W) ps vs ∧ ∀ j (h : j < vs.length), W.cell? ⟨b, o + i * sz + j, none⟩ = some vs[j]) →
    ∃ cs vs, PlainL P (List.replicate n e) cs ∧ vs.length = n * sz ∧ RelL (memR W) cs vs ∧ ∀ j (h : j < vs.length), W.cell? ⟨b, o + j, none⟩ = some vs[j]
  | 0, o, h => ⟨[], [], .nil, by simp, ⟨rfl, fun j h1 _ => absurd h1 (by simp)⟩, fun j h => absurd h (by simp)⟩
  | n + 1, o, h => by
    obtain ⟨ps, vs, h1, h2, h3, h4⟩ := h 0 (by omega)
    obtain ⟨cs, ws, g1, g2, g3, g4⟩ := elems_read n (o + sz) fun i hi => by
      obtain ⟨ps, vs, k1, k2, k3, k4⟩ := h (i + 1) (by omega)
      refine ⟨ps, vs, k1, k2, k3, fun j hj => ?_⟩
      have : o + sz + i * sz + j = o + (i + 1) * sz + j := by rw [Nat.add_mul]; omega
      rw [this]
      exact k4 j hj
    refine ⟨ps ++ cs, vs ++ ws, .cons h1 g1, by simp [h2, g2, Nat.add_mul]; omega, h3.append g3, fun j hj => ?_⟩
    by_cases hjv : j < vs.length
    · rw [List.getElem_append_left hjv]
      have := h4 j hjv
      simpa using this
    · rw [List.getElem_append_right (by omega)]
      have := g4 (j - vs.length) (by simp at hj; omega)
      have e2 : o + sz + (j - vs.length) = o + j := by omega
      rwa [e2] at this
theorem layOk_le {ok : TypeId → Bool} {total : Nat} : ∀ (fs : List Field) (off : Nat), layOk P ok total off fs = true → off ≤ total
  | [], off, h => by
    have : off = total := by simpa [layOk] using h
    omega
  | f :: fs, off, h => by
    simp only [layOk, Bool.and_eq_true] at h
    have := layOk_le fs _ h.2
    omega
theorem fields_read {ok : TypeId → Bool} {total : Nat} {cs : List Value} (hc : cs.length = total) : ∀ (fs : List Field) (off : Nat), layOk P ok total off fs = true →
    (∀ f ∈ fs, ok f.type = true → ∃ ps, Plain P f.type ps ∧ RelL (memR W) ps ((cs.drop f.offset).take (P.cellsOf f.type))) →
    ∃ ps, PlainL P (fs.map (·.type)) ps ∧ RelL (memR W) ps (cs.drop off)
  | [], off, h, hf => by
    have : off = total := by simpa [layOk] using h
    refine ⟨[], .nil, ?_⟩
    rw [List.drop_eq_nil_of_le (by omega)]
    exact ⟨rfl, fun j h1 _ => absurd h1 (by simp)⟩
  | f :: fs, off, h, hf => by
    simp only [layOk, Bool.and_eq_true, beq_iff_eq] at h
    obtain ⟨⟨h1, h2⟩, h3⟩ := h
    obtain ⟨ps, g1, g2⟩ := hf f (by simp) h2
    obtain ⟨qs, k1, k2⟩ := fields_read hc fs _ h3 fun g hg => hf g (by simp [hg])
    refine ⟨ps ++ qs, .cons g1 k1, ?_⟩
    have e : cs.drop off = (cs.drop off).take (P.cellsOf f.type) ++ cs.drop (off + P.cellsOf f.type) := by
      rw [← List.drop_drop, List.take_append_drop]
    rw [h1] at g2
    rw [e]
    exact g2.append k2
theorem parts_read {e : TypeId} {sz : Nat} {cs : List Value} : ∀ (n off : Nat), cs.length = off + n * sz →
    (∀ i, i < n → ∃ ps, Plain P e ps ∧ RelL (memR W) ps ((cs.drop (off + i * sz)).take sz)) → ∃ ps, PlainL P (List.replicate n e) ps ∧ RelL (memR W) ps (cs.drop off)
  | 0, off, hc, h => by
    refine ⟨[], .nil, ?_⟩
    rw [List.drop_eq_nil_of_le (by omega)]
    exact ⟨rfl, fun j h1 _ => absurd h1 (by simp)⟩
  | n + 1, off, hc, h => by
    obtain ⟨ps, g1, g2⟩ := h 0 (by omega)
    obtain ⟨qs, k1, k2⟩ := parts_read (sz := sz) n (off + sz) (by rw [hc, Nat.add_mul]; omega) fun i hi => by
      obtain ⟨ps, a1, a2⟩ := h (i + 1) (by omega)
      refine ⟨ps, a1, ?_⟩
      have : off + (i + 1) * sz = off + sz + i * sz := by rw [Nat.add_mul]; omega
      rwa [this] at a2
    refine ⟨ps ++ qs, .cons g1 k1, ?_⟩
    have e : cs.drop off = (cs.drop off).take sz ++ cs.drop (off + sz) := by
      rw [← List.drop_drop, List.take_append_drop]
    rw [Nat.zero_mul, Nat.add_zero] at g2
    rw [e]
    exact g2.append k2

theorem read_plain : ∀ (m fuel : Nat) (t : TypeId) (cs : List Value) (x : DataW H × List MemPlace), plainTy P m t = true → DataW.trod enc P W 0 (fun _ => true) hd fuel t cs = some x → ∃ ps, Plain P t ps ∧ RelL (memR W) ps cs
  | 0, _, _, _, _, hp, _ => by simp [plainTy] at hp
  | m + 1, fuel, t, cs, x, hp, h => by
    unfold plainTy at hp
    split at hp
    · rename_i hu
      obtain ⟨b, rfl, _⟩ := DataW.trod_bool hu h
      refine ⟨[.bool b], .bool hu b, rfl, fun j h1 h2 => ?_⟩
      match j, h1 with
      | 0, _ => exact .bool b
    · rename_i k hu
      obtain ⟨n, rfl, _, hw⟩ := DataW.trod_int hu h
      refine ⟨[.int k n], .int hu n hw, rfl, fun j h1 h2 => ?_⟩
      match j, h1 with
      | 0, _ => exact .int k n
    · rename_i hu
      obtain ⟨s, rfl, _, hs⟩ := DataW.trod_string hu h
      refine ⟨[.str s], .str hu s hs, rfl, fun j h1 h2 => ?_⟩
      match j, h1 with
      | 0, _ => exact .str s
    · rename_i e hu
      simp only [Bool.and_eq_true, decide_eq_true_eq] at hp
      obtain ⟨hsz, hpe⟩ := hp
      rcases DataW.trod_slice hu h with ⟨rfl, _⟩ | ⟨a, len, cap, elems, rest, n, _, rfl, _, _, hl, hm, hlen, hel, hrest, _⟩
      · refine ⟨[.nilsl], .nilsl hu, rfl, fun j h1 h2 => ?_⟩
        match j, h1 with
        | 0, _ => exact .nilsl
      · have hrest := hrest rfl
        have hspot : cap ≠ 0 → a.spot = none := by
          intro hc
          have key : ∃ cs, W.cells? 0 (a.add 0) (P.cellsOf e) = some cs := by
            by_cases h0 : 0 < len
            · have h1 := hel 0 h0
              rw [List.getElem?_eq_getElem (by omega)] at h1
              obtain ⟨cs, h2, _⟩ := Option.bind_eq_some_iff.1 h1
              exact ⟨cs, by simpa using h2⟩
            · have h1 := hrest.2 0 (by omega)
              rw [List.getElem?_eq_getElem (by omega)] at h1
              obtain ⟨cs, h2, _⟩ := Option.bind_eq_some_iff.1 h1
              have hl0 : len = 0 := by omega
              exact ⟨cs, by simpa [hl0] using h2⟩
          obtain ⟨cs, h2⟩ := key
          obtain ⟨_, h3, h4⟩ := World.cells?_some h2
          have h5 := h4 0 hsz
          rw [List.getElem?_eq_getElem (by omega)] at h5
          exact spot_cell (a := a) h5
        obtain ⟨ps, vs, g1, g2, g3, g4⟩ := elems_read (P := P) (W := W) (e := e) (sz := P.cellsOf e) (b := a.block) len a.off fun i hi => by
          have h1 := hel i hi
          rw [List.getElem?_eq_getElem (by omega)] at h1
          obtain ⟨vs, h2, h3⟩ := Option.bind_eq_some_iff.1 h1
          obtain ⟨ps, k1, k2⟩ := read_plain m n e vs _ hpe h3
          obtain ⟨_, h5, h4⟩ := World.cells?_some h2
          refine ⟨ps, vs, k1, h5, k2, fun j hj => ?_⟩
          have h6 := h4 j (by omega)
          have hs := hspot (by omega)
          rw [addr_eq hs, addr_eq rfl, List.getElem?_eq_getElem hj] at h6
          exact h6
        refine ⟨[.sl false len ps], .sl hu len ps g1, rfl, fun j h1 h2 => ?_⟩
        match j, h1 with
        | 0, _ =>
          refine .sl (fun j => vs.getD j Go.undef) hspot hl (by simp) (fun j hj => ?_) (fun j hj => ?_)
          · have hj2 : j < vs.length := by rw [← g3.1]; exact hj
            show W.cell? _ = _
            rw [List.getD_eq_getElem?_getD, List.getElem?_eq_getElem hj2]
            exact g4 j hj2
          · have hj2 : j < vs.length := by rw [← g3.1]; exact hj
            rw [List.getD_eq_getElem?_getD, List.getElem?_eq_getElem hj2]
            exact g3.2 j hj hj2
    · rename_i fs hu
      obtain ⟨xs, n, _, _, hl, hlen, hf⟩ := DataW.trod_struct hu h
      obtain ⟨ps, g1, g2⟩ := fields_read (P := P) (W := W) hl fs.toList 0 hp fun f hfm hok => by
        obtain ⟨i, hi, rfl⟩ := List.getElem_of_mem hfm
        have hi2 : i < fs.size := by simpa using hi
        have h1 := hf i fs[i] (by simp [hi2])
        rw [List.getElem?_eq_getElem (by omega)] at h1
        simp only [Array.getElem_toList] at hok ⊢
        obtain ⟨ps, k1, k2⟩ := read_plain m n _ _ _ hok h1
        exact ⟨ps, k1, k2⟩
      exact ⟨ps, .struct hu ps g1, g2⟩
    · rename_i k e hu
      simp only [Bool.and_eq_true, beq_iff_eq] at hp
      obtain ⟨xs, n, _, _, hl, hlen, hf⟩ := DataW.trod_array hu h
      obtain ⟨ps, g1, g2⟩ := parts_read (P := P) (W := W) (e := e) (sz := P.cellsOf e) (cs := cs) k 0 (by rw [hl, ← hp.1]; omega) fun i hi => by
        have h1 := hf i hi
        rw [List.getElem?_eq_getElem (by omega)] at h1
        obtain ⟨ps, k1, k2⟩ := read_plain m n _ _ _ hp.2 h1
        rw [Nat.zero_add]
        exact ⟨ps, k1, k2⟩
      exact ⟨ps, .array hu ps g1, g2⟩
    · exact absurd hp (by simp)

/-! ### Arguments -/
theorem relL_agg {ps : List PV} {vs : Array Value} (h : RelL (memR W) ps vs.toList) : VRel (fun _ _ => none) (memR W) (.agg (ps.map .p)) (.agg vs) := by
  refine .agg (by have := h.1; simp at this; simp [this]) fun j h1 h2 => ?_
  have := h.2 j (by simpa using h1) (by simpa using h2)
  simp only [List.getElem_map]
  exact .p (by simpa using this)
theorem relL_one {p : PV} {v : Value} (h : RelL (memR W) [p] [v]) : VRel (fun _ _ => none) (memR W) (.p p) v := .p (h.2 0 (by simp) (by simp))
variable {r : Reach} {b0 : Nat} {v : Value} {d : DataW H} {ps : List MemPlace} {t : TypeId}
theorem read_struct {fs : Array Field} (m : Nat) (hu : P.underlying t = some (.struct fs)) (hp : plainTy P m t = true) (hok : Value.okWide P W r b0 t v) (h : DataW.Trod enc P W 0 (fun _ => true) hd t v d ps) :
    ∃ cs, Plain P t cs ∧ VRel (fun _ _ => none) (memR W) (.agg (cs.map .p)) v := by
  simp only [Value.okWide, hu] at hok
  obtain ⟨vs, rfl, _⟩ := hok
  obtain ⟨fuel, h⟩ := h
  obtain ⟨cs, h1, h2⟩ := read_plain m fuel t _ _ hp h
  exact ⟨cs, h1, relL_agg h2⟩
theorem read_array {n : Nat} {e : TypeId} (m : Nat) (hu : P.underlying t = some (.array n e)) (hp : plainTy P m t = true) (hok : Value.okWide P W r b0 t v) (h : DataW.Trod enc P W 0 (fun _ => true) hd t v d ps) :
    ∃ cs, Plain P t cs ∧ VRel (fun _ _ => none) (memR W) (.agg (cs.map .p)) v := by
  simp only [Value.okWide, hu] at hok
  obtain ⟨vs, rfl, _⟩ := hok
  obtain ⟨fuel, h⟩ := h
  obtain ⟨cs, h1, h2⟩ := read_plain m fuel t _ _ hp h
  exact ⟨cs, h1, relL_agg h2⟩
theorem read_slice {e : TypeId} (m : Nat) (hu : P.underlying t = some (.slice e)) (hp : plainTy P m t = true) (hok : Value.okWide P W r b0 t v) (h : DataW.Trod enc P W 0 (fun _ => true) hd t v d ps) :
    ∃ c, Plain P t [c] ∧ VRel (fun _ _ => none) (memR W) (.p c) v := by
  obtain ⟨a0, len, cap, rfl⟩ := Go.WideShapes.okWide_slice hu hok
  obtain ⟨fuel, h⟩ := h
  obtain ⟨cs, h1, h2⟩ := read_plain m fuel t _ _ hp h
  rcases h1.inv_slice hu with rfl | ⟨n, xs, _, rfl⟩
  · exact ⟨_, h1, relL_one h2⟩
  · exact ⟨_, h1, relL_one h2⟩
theorem read_intA {k : IntKind} (hu : P.underlying t = some (.int k)) (hok : Value.okWide P W r b0 t v) (h : DataW.Trod enc P W 0 (fun _ => true) hd t v d ps) :
    ∃ n, (Lit.int k n).wf = true ∧ VRel (fun _ _ => none) (memR W) (.p (.int k n)) v := by
  obtain ⟨n, rfl⟩ := Go.WideShapes.okWide_int hu hok
  obtain ⟨fuel, h⟩ := h
  obtain ⟨n', h1, _, h2⟩ := DataW.trod_int hu h
  have : n = n' := by simpa [Value.cells] using h1
  subst this
  exact ⟨n, h2, .p (.int _ _)⟩
theorem read_strA (hu : P.underlying t = some .string) (hok : Value.okWide P W r b0 t v) (h : DataW.Trod enc P W 0 (fun _ => true) hd t v d ps) :
    ∃ s, s.size ≤ maxLen ∧ VRel (fun _ _ => none) (memR W) (.p (.str s)) v := by
  obtain ⟨s, rfl⟩ := Go.WideShapes.okWide_string hu hok
  obtain ⟨fuel, h⟩ := h
  obtain ⟨s', h1, _, h2⟩ := DataW.trod_string hu h
  have : s = s' := by simpa [Value.cells] using h1
  subst this
  exact ⟨s, h2, .p (.str _)⟩
end
end Go.D
end
/- Chapter 13: from what D answers to what the program answers in any world; what a call's arguments are. -/
section
set_option linter.unusedVariables false
set_option linter.unusedSimpArgs false
set_option maxRecDepth 100000
namespace Go.D
open Go.ChangeShapes Go.WideShapes Go.ChangeAt Go.RowKit

def memOf (W : World) : Mem := fun b o => W.cell? ⟨b, o, none⟩
theorem below_of {C : Nat → Nat → Prop} {m : Nat → Prop} {w w' : World} (h : Frm C m w w') (hC : ∀ b o, ¬ C b o) (hm : ∀ b, ¬ m b) : Below w.heap.size w w' := by
  refine ⟨h.os, h.tape, h.output, h.size, fun k hk => ?_⟩
  have := h.obj k hk
  rw [Array.getElem?_eq_getElem hk] at this ⊢
  cases ho : w.heap[k] with
  | cells c e f =>
    rw [ho] at this
    cases hx : w'.heap[k]? with
    | none => rw [hx] at this; simp [ObjKept] at this
    | some o =>
      rw [hx] at this
      cases o with
      | cells c' e' f' =>
        obtain ⟨h1, h2, h3, h4⟩ := this
        subst h1; subst h2
        have : c' = c := Array.ext_getElem? fun i => by rw [h4 i (hC k i)]
        rw [this]
      | _ => simp [ObjKept] at this
  | map es c =>
    rw [ho] at this
    cases hx : w'.heap[k]? with
    | none => rw [hx] at this; simp [ObjKept] at this
    | some o =>
      rw [hx] at this
      cases o with
      | map es' c' =>
        rcases this with h1 | ⟨h1, h2⟩
        · exact absurd h1 (hm k)
        · rw [h1, h2]
      | _ => simp [ObjKept] at this
  | _ =>
    rw [ho] at this
    cases hx : w'.heap[k]? with
    | none => rw [hx] at this; simp [ObjKept] at this
    | some o => rw [hx] at this; cases o <;> simp [ObjKept] at this <;> simp_all
theorem mixed_ok : PP.follows .mixedOrders = true := by kernel_rfl
theorem body143 : Go.Proofs.Tryz.f143.body = some (backCode 24 3 99 3 4 0 "iter.go:28" "iter.go:29") := by kernel_rfl
theorem back143 : SeqOk PP 143 (.backward false 1) :=
  back_ok Go.Proofs.Tryz.func143 (by decide +kernel) body143 (by kernel_rfl) (by kernel_rfl) ⟨by kernel_rfl, by kernel_rfl, ⟨1, by kernel_rfl⟩, by kernel_rfl, by kernel_rfl⟩
theorem seqA (g : FuncId) (hg : g ≠ 44) : (polA g).seq = fun _ => none := by
  unfold polA
  split <;> first | rfl | exact absurd rfl hg
theorem seqB (g : FuncId) : (polB g).seq = fun _ => none := by
  unfold polB
  split <;> rfl
theorem seqs_ok : ∀ g f kind, (pol g).seq f = some kind → SeqOk PP f kind := by
  intro g f kind h
  by_cases hg : g = 44
  · subst hg
    have h1 : (pol 44).seq f = if f = 143 then some (.backward false 1) else none := rfl
    rw [h1] at h
    split at h
    · rename_i hf
      subst hf
      injection h with h; subst h
      exact back143
    · exact absurd h (by simp)
  · have h1 : (pol g).seq = fun _ => none := by
      unfold pol
      cases Nat.ble g 99 with
      | true => exact seqA g hg
      | false => exact seqB g
    rw [h1] at h
    exact absurd h (by simp)
theorem calls_of {f : FuncId} {args : List DV} {σ' : Store} {b : Bool} (h : CC 0 f args [] = some (.p (.bool b), σ')) {W : World} {vs : Array Value} (hv : Vals (fun _ _ => none) (memOf W) args vs) :
    Calls PP f vs W fun e W' => e = .returned (.bool b) ∧ Below W.heap.size W W' := by
  obtain ⟨k, hk⟩ := lim_some h
  have hs : SRel [] (fun _ _ => none) (memOf W) W := srel_bare fun b o v h => h
  obtain ⟨_, hc⟩ := callK_ok mixed_ok seqs_ok k _ _ _ _ _ _ (hk k (Nat.le_refl _)) (Nat.zero_le _) _ _ _ _ hs hv
  have hw := callsIn_wide.1 (hc Fence.wide 0 Free.wide)
  refine hw.mono ?_
  rintro e W' ⟨v', rfl, L', M', hp, hr⟩
  refine ⟨by rw [bool_of hr], below_of hp.frm ?_ ?_⟩
  · rintro b o ⟨r, row, l, _, ⟨h, _⟩, _⟩
    exact absurd h (by simp)
  · rintro b ⟨r, es, l, _, ⟨h, _⟩, _⟩
    exact absurd h (by simp)
theorem own_ok : ownKnob PP.godebug = none := by kernel_rfl
theorem laidOut_ok : laidOutB PP = true := by kernel_rfl
theorem ul4 : PP.underlying 4 = some .bool := by kernel_rfl
theorem ul3 : PP.underlying 3 = some (.int .i64) := by kernel_rfl
theorem dec3 {a : List PV} (h : Plain PP 3 a) : ∃ n, a = [pI n] := by
  obtain ⟨n, _, rfl⟩ := h.inv_int ul3
  exact ⟨n, rfl⟩
theorem flat1 {α : Type} (f : α → PV) (l : List α) : l.flatMap (fun a => [f a]) = l.map f := by
  induction l with
  | nil => rfl
  | cons a l ih => simp [ih]
theorem dec24 {a : List PV} (h : Plain PP 24 a) : ∃ o, a = [eSl o] := by
  rcases h.inv_slice u24 with rfl | ⟨n, xs, hx, rfl⟩
  · exact ⟨none, rfl⟩
  · obtain ⟨l, rfl, rfl⟩ := hx.inv_rep (f := fun n => [pI n]) fun a ha => dec3 ha
    exact ⟨some l, by rw [flat1]; rfl⟩
section
variable {H : Type} {enc : TypeId × Value → H} {W : World} {hd : Bool} {r : Reach} {b0 : Nat} {v : Value} {d : DataW H} {ps : List MemPlace}
end
abbrev lay13 : List (String × DataW Unit) := Go.Proofs.YtpacancmcjbckaaGreatDoor.Rows.lassoWordsRow.laid
noncomputable def laidW (os : Os) : World := World.laidAll PP os lay13
theorem laidW_met (os : Os) (args : Array Value) : laidMetH PP lay13 ((laidW os).forCall (fun _ _ => 0) ⟨#[], args, []⟩).memory := by
  rw [MakeChecks.laidMetH_plain _ _ _ (by kernel_rfl)]
  exact laidMet_laidAll args (by kernel_rfl) (by kernel_rfl)
end Go.D
end
/- Chapter 13: formulas; where their parts begin; their errors, in plain Lean. -/
section
set_option linter.unusedVariables false
set_option linter.unusedSimpArgs false
namespace Go.D
structure Nd where
  k : Int
  n : Int
  a : OI
instance : Inhabited Nd := ⟨⟨0, 0, none⟩⟩
abbrev Fm := Option (List Nd)
namespace Las
def nA (F : List Nd) (i : Nat) : List Int := L (F.getD i default).a
def foK (F : List Nd) : Nat → Nat → Int
  | 0, _ => -1
  | k + 1, r => if nA F r = [] then r else if 0 ≤ (nA F r).getD 0 0 ∧ (nA F r).getD 0 0 ≤ (r : Int) - 1 then foK F k ((nA F r).getD 0 0).toNat else -1
def fo (F : List Nd) (r : Nat) : Int := foK F (r + 1) r
theorem foK_fuel (F : List Nd) : ∀ (k k' r : Nat), r < k → r < k' → foK F k r = foK F k' r
  | 0, _, r, h, _ => by omega
  | k + 1, 0, r, _, h => by omega
  | k + 1, k' + 1, r, h, h' => by
    unfold foK
    by_cases h1 : nA F r = []
    · rw [if_pos h1, if_pos h1]
    · rw [if_neg h1, if_neg h1]
      by_cases h2 : 0 ≤ (nA F r).getD 0 0 ∧ (nA F r).getD 0 0 ≤ (r : Int) - 1
      · rw [if_pos h2, if_pos h2]
        exact foK_fuel F k k' _ (by omega) (by omega)
      · rw [if_neg h2, if_neg h2]
theorem fo_eq (F : List Nd) (r : Nat) : fo F r = if nA F r = [] then (r : Int) else if 0 ≤ (nA F r).getD 0 0 ∧ (nA F r).getD 0 0 ≤ (r : Int) - 1 then fo F ((nA F r).getD 0 0).toNat else -1 := by
  unfold fo
  conv => lhs; unfold foK
  by_cases h1 : nA F r = []
  · rw [if_pos h1, if_pos h1]
  · rw [if_neg h1, if_neg h1]
    by_cases h2 : 0 ≤ (nA F r).getD 0 0 ∧ (nA F r).getD 0 0 ≤ (r : Int) - 1
    · rw [if_pos h2, if_pos h2]
      exact foK_fuel F _ _ _ (by omega) (by omega)
    · rw [if_neg h2, if_neg h2]
theorem foK_le (F : List Nd) : ∀ (k r : Nat), -1 ≤ foK F k r ∧ foK F k r ≤ r
  | 0, r => by unfold foK; omega
  | k + 1, r => by
    unfold foK
    by_cases h1 : nA F r = []
    · rw [if_pos h1]; omega
    · rw [if_neg h1]
      by_cases h2 : 0 ≤ (nA F r).getD 0 0 ∧ (nA F r).getD 0 0 ≤ (r : Int) - 1
      · rw [if_pos h2]
        have := foK_le F k ((nA F r).getD 0 0).toNat
        omega
      · rw [if_neg h2]; omega
theorem fo_le (F : List Nd) (r : Nat) : -1 ≤ fo F r ∧ fo F r ≤ r := foK_le F _ _
def foI (F : List Nd) (r : Int) : Int := if r < 0 then -1 else fo F r.toNat
def stB (F : List Nd) (us : List Int) : Int → Nat → Option Int
  | x, 0 => some x
  | x, k + 1 => if us.getD k 0 = x - 1 then (if foI F (x - 1) < 0 then none else stB F us (foI F (x - 1)) k) else none
def stands (F : List Nd) (i : Nat) : Bool := (stB F (nA F i) i (nA F i).length).isSome
def ar (k : Int) : Int := if k = 0 ∨ k = 1 then 0 else if k = 2 ∨ k = 6 ∨ k = 7 then 1 else 2
def bad (x : Nd) : Bool := if x.k = 1 then !inR x.n 0 11 else !decide (x.n = 0)
def chkF (F : List Nd) : Nat → Nat → Int × Int
  | 0, _ => if fo F (F.length - 1) = 0 then (0, 0) else ((F.length - 1 : Nat), 15)
  | d + 1, i =>
    if inR (F.getD i default).k 0 9 = true then
      if (((nA F i).length : Nat) : Int) = ar (F.getD i default).k ∧ stands F i = true then
        if bad (F.getD i default) = true then ((i : Nat), 3) else chkF F d (i + 1)
      else ((i : Nat), 6)
    else ((i : Nat), 4)
def chk (F : List Nd) : Int × Int := if F.length = 0 then (0, 1) else if F.length > 40 then (0, 2) else chkF F F.length 0
def bgB (B us : List Int) : Int → Nat → Int
  | x, 0 => x
  | x, k + 1 => if us.getD k 0 = x - 1 ∧ ¬ us.getD k 0 < 0 then bgB B us (B.getD (us.getD k 0).toNat 0) k else -1
theorem bgB_eq {F : List Nd} {B us : List Int} {i : Nat} (hB : ∀ j, j < i → B.getD j 0 = fo F j ∧ 0 ≤ fo F j) : ∀ (k : Nat) (x : Int), x ≤ i → bgB B us x k = (stB F us x k).getD (-1)
  | 0, x, hx => rfl
  | k + 1, x, hx => by
    unfold bgB stB
    by_cases h1 : us.getD k 0 = x - 1
    · by_cases h2 : us.getD k 0 < 0
      · have h3 : foI F (x - 1) < 0 := by unfold foI; rw [if_pos (by omega)]; decide
        rw [if_neg (fun h => h.2 h2), if_pos h1, if_pos h3]; rfl
      · obtain ⟨b1, b2⟩ := hB (us.getD k 0).toNat (by omega)
        have h3 : foI F (x - 1) = fo F (us.getD k 0).toNat := by unfold foI; rw [if_neg (by omega), h1]
        have h4 := fo_le F (us.getD k 0).toNat
        rw [if_pos ⟨h1, h2⟩, if_pos h1, h3, if_neg (by omega), b1]
        exact bgB_eq hB k _ (by omega)
    · rw [if_neg (fun h => h1 h.1), if_neg h1]; rfl
theorem stB_end {F : List Nd} {us : List Int} : ∀ (k : Nat) (x y : Int), stB F us x (k + 1) = some y → us.getD 0 0 ≤ x - 1 ∧ 0 ≤ us.getD 0 0 ∧ y = fo F (us.getD 0 0).toNat ∧ 0 ≤ y
  | k, x, y, h => by
    unfold stB at h
    by_cases h1 : us.getD k 0 = x - 1
    · rw [if_pos h1] at h
      by_cases h2 : foI F (x - 1) < 0
      · rw [if_pos h2] at h
        exact absurd h (by simp)
      · rw [if_neg h2] at h
        have h3 : ¬ x - 1 < 0 := fun hh => h2 (by unfold foI; rw [if_pos hh]; decide)
        have h4 : foI F (x - 1) = fo F (x - 1).toNat := by unfold foI; rw [if_neg h3]
        have h5 := fo_le F (x - 1).toNat
        cases k with
        | zero =>
          injection h with h
          exact ⟨by omega, by omega, by rw [h1, ← h, h4], by omega⟩
        | succ k =>
          obtain ⟨a, b, c, d⟩ := stB_end k _ _ h
          exact ⟨by omega, b, c, d⟩
    · rw [if_neg h1] at h
      exact absurd h (by simp)
theorem stB_pos {F : List Nd} {us : List Int} : ∀ (k : Nat) (x y : Int), 0 ≤ x → stB F us x k = some y → 0 ≤ y
  | 0, x, y, hx, h => by injection h with h; omega
  | k + 1, x, y, hx, h => (stB_end k x y h).2.2.2
theorem stands_fo {F : List Nd} {i : Nat} {y : Int} (h : stB F (nA F i) i (nA F i).length = some y) : y = fo F i := by
  rw [fo_eq]
  by_cases h1 : nA F i = []
  · rw [if_pos h1]
    rw [h1] at h
    injection h with h
    exact h.symm
  · obtain ⟨m, hm⟩ : ∃ m, (nA F i).length = m + 1 := ⟨(nA F i).length - 1, by have := List.length_pos_iff.2 h1; omega⟩
    rw [hm] at h
    obtain ⟨a, b, c, _⟩ := stB_end m _ _ h
    rw [if_neg h1, if_pos ⟨b, a⟩, c]
end Las
end Go.D
end
/- Equations of functions 13, 19, 46, 25, 103, 104, 105, 99, 44, 70, printed by gen.py. -/
section
set_option linter.unusedVariables false
set_option maxRecDepth 10000
namespace Go.D
open Go.Proofs
noncomputable section
variable (G : GuardT) (lo : Nat) {σ : Store} {r : DV × Store}
open _root_.Go.D.Code (fstC sndC)
open _root_.Go.D.Ann (left right)
def c13_0 : Code := bodyOf Tryz.f13
def a13_0 : Ann := (pol 13).ann
def a13_13 : Ann := right (left (right (right a13_0)))
def a13_14 : Ann := left a13_13
def c13_15 : Code := fstC (fstC (sndC (fstC (sndC (sndC c13_0)))))
def c13_31 : Code := sndC (sndC (sndC c13_0))
def a13_31 : Ann := right (right (right a13_0))
def f13_L0 (x0 x3 : DV) (σ : Store) : RS :=
 codeF G PP (pol 13) CC lo (.loop c13_15) a13_14 (x0 :: Z :: Z :: x3 :: zn 16 []) σ
 (blockC 0 a13_13 (seqC G PP (pol 13) CC lo c13_31 a13_31 (finR PP Tryz.f13.results.toList)))
def F13 (x0 : DV) (σ : Store) : RS :=
 codeF G PP (pol 13) CC lo c13_0 a13_0 (x0 :: zn 19 []) σ (finR PP Tryz.f13.results.toList)
theorem f13_L0_eq (G : GuardT) (hG : GuardOk G) (lo : Nat) (x0 x3 : DV) (σ : Store) : f13_L0 G lo x0 x3 σ =
 (len PP 23 x0 σ).bind fun x9 =>
 (binOp PP .lss 3 x3 x9).bind fun x10 =>
 condK x10
 (
 (indexAddr PP 23 x0 x3).bind fun x15 =>
 (fieldAddr PP 67 x15 2).bind fun x16 =>
 (load PP 24 x16 σ).bind fun x17 =>
 (len PP 24 x17 σ).bind fun x18 =>
 (binOp PP .gtr 3 x18 (DV.p (PV.int IntKind.i64 (45)))).bind fun x19 =>
 condK x19
 (
 some ((DV.p (PV.bool false)), σ)
 )
 (
 (binOp PP .add 3 x3 I1).bind fun x12 =>
 f13_L0 G lo x0 x12 σ
 )
 )
 (
 some ((DV.p (PV.bool true)), σ)
 ) := (loopF_eq G hG).trans (by kernel_rfl)
theorem F13_eq (G : GuardT) (lo : Nat) (x0 : DV) (σ : Store) : F13 G lo x0 σ =
 (len PP 23 x0 σ).bind fun x5 =>
 (binOp PP .gtr 3 x5 (DV.p (PV.int IntKind.i64 (45)))).bind fun x6 =>
 condK x6
 (
 some ((DV.p (PV.bool false)), σ)
 )
 (
 f13_L0 G lo x0 I0 σ
 ) := by kernel_rfl
theorem F13_call {lo : Nat} {x0 : DV} (h : F13 guardT lo x0 σ = some r) : CC lo 13 [x0] σ = some r :=
 callL_run Tryz.func13 (by decide +kernel) rfl (by decide +kernel) h
def c19_0 : Code := bodyOf Tryz.f19
def a19_0 : Ann := (pol 19).ann
def a19_7 : Ann := right (left (right (right a19_0)))
def a19_8 : Ann := left a19_7
def c19_9 : Code := fstC (fstC (sndC (fstC (sndC (sndC c19_0)))))
def c19_23 : Code := sndC (sndC (sndC c19_0))
def a19_23 : Ann := right (right (right a19_0))
def f19_L0 (x0 x3 x4 : DV) (σ : Store) : RS :=
 codeF G PP (pol 19) CC lo (.loop c19_9) a19_8 (x0 :: Z :: Z :: x3 :: x4 :: zn 20 []) σ
 (blockC 0 a19_7 (seqC G PP (pol 19) CC lo c19_23 a19_23 (finR PP Tryz.f19.results.toList)))
def F19 (x0 : DV) (σ : Store) : RS :=
 codeF G PP (pol 19) CC lo c19_0 a19_0 (x0 :: zn 24 []) σ (finR PP Tryz.f19.results.toList)
theorem f19_L0_eq (G : GuardT) (hG : GuardOk G) (lo : Nat) (x0 x3 x4 : DV) (σ : Store) : f19_L0 G lo x0 x3 x4 σ =
 (len PP 23 x0 σ).bind fun x8 =>
 (binOp PP .lss 3 x4 x8).bind fun x9 =>
 condK x9
 (
 (indexAddr PP 23 x0 x4).bind fun x14 =>
 (load PP 67 x14 σ).bind fun x15 =>
 (zeroOf PP 67).bind fun z5 =>
 (store PP lo 67 (DV.ptr (List.length σ) 0) x15 (σ ++ [Row.mix z5])).bind fun σ1 =>
 (fieldAddr PP 67 (DV.ptr (List.length σ) 0) 2).bind fun x16 =>
 (load PP 24 x16 σ1).bind fun x17 =>
 (pureFn CC (DV.fn 52 []) [x17] σ1).bind fun x18 =>
 (fieldAddr PP 67 (DV.ptr (List.length σ) 0) 2).bind fun x19 =>
 (store PP lo 24 x19 x18 σ1).bind fun σ2 =>
 (load PP 67 (DV.ptr (List.length σ) 0) σ2).bind fun x21 =>
 (buildSlice PP none 23 1 [(0, x21)] σ2).bind fun r22_3 =>
 (append PP lo false 23 23 x3 r22_3.1 r22_3.2).bind fun r23_4 =>
 (binOp PP .add 3 x4 I1).bind fun x11 =>
 f19_L0 G lo x0 r23_4.1 x11 r23_4.2
 )
 (
 some (x3, σ)
 ) := (loopF_eq G hG).trans (by kernel_rfl)
theorem F19_eq (G : GuardT) (lo : Nat) (x0 : DV) (σ : Store) : F19 G lo x0 σ =
 f19_L0 G lo x0 (DV.p PV.nilsl) I0 σ := by kernel_rfl
theorem F19_call {lo : Nat} {x0 : DV} (h : F19 guardT lo x0 σ = some r) : CC lo 19 [x0] σ = some r :=
 callL_run Tryz.func19 (by decide +kernel) rfl (by decide +kernel) h
def c46_0 : Code := bodyOf Tryz.f46
def a46_0 : Ann := (pol 46).ann
def a46_21 : Ann := right (left (right (right (right a46_0))))
def a46_22 : Ann := left a46_21
def c46_23 : Code := fstC (fstC (sndC (fstC (sndC (sndC (sndC c46_0))))))
def c46_57 : Code := sndC (sndC (sndC (sndC c46_0)))
def a46_57 : Ann := right (right (right (right a46_0)))
def f46_L0 (x0 x4 : DV) (σ : Store) : RS :=
 codeF G PP (pol 46) CC lo (.loop c46_23) a46_22 (x0 :: Z :: Z :: Z :: x4 :: zn 65 []) σ
 (blockC 0 a46_21 (seqC G PP (pol 46) CC lo c46_57 a46_57 (finR PP Tryz.f46.results.toList)))
def F46 (x0 : DV) (σ : Store) : RS :=
 codeF G PP (pol 46) CC lo c46_0 a46_0 (x0 :: zn 69 []) σ (finR PP Tryz.f46.results.toList)
theorem f46_L0_eq (G : GuardT) (hG : GuardOk G) (lo : Nat) (x0 x4 : DV) (σ : Store) : f46_L0 G lo x0 x4 σ =
 (len PP 23 x0 σ).bind fun x14 =>
 (binOp PP .lss 3 x4 x14).bind fun x15 =>
 condK x15
 (
 (indexAddr PP 23 x0 x4).bind fun x20 =>
 (load PP 67 x20 σ).bind fun x21 =>
 (zeroOf PP 67).bind fun z5 =>
 (store PP lo 67 (DV.ptr (List.length σ) 0) x21 (σ ++ [Row.mix z5])).bind fun σ1 =>
 (fieldAddr PP 67 (DV.ptr (List.length σ) 0) 0).bind fun x22 =>
 (load PP 3 x22 σ1).bind fun x23 =>
 (pureFn CC (DV.fn 26 []) [x23, I0, (DV.p (PV.int IntKind.i64 (9)))] σ1).bind fun x24 =>
 (unOp .not x24).bind fun x25 =>
 condK x25
 (
 some ((DV.tuple [x4, (DV.p (PV.int IntKind.i64 (4)))]), σ1)
 )
 (
 (fieldAddr PP 67 (DV.ptr (List.length σ) 0) 2).bind fun x27 =>
 (load PP 24 x27 σ1).bind fun x28 =>
 (len PP 24 x28 σ1).bind fun x29 =>
 (fieldAddr PP 67 (DV.ptr (List.length σ) 0) 0).bind fun x30 =>
 (load PP 3 x30 σ1).bind fun x31 =>
 (pureFn CC (DV.fn 103 []) [x31] σ1).bind fun x32 =>
 (binOp PP .neq 3 x29 x32).bind fun x33 =>
 G _ x33 false (some (x0, σ1)) σ1 fun x35 σ2 =>
 G _ x33 false (some (x4, σ2)) σ2 fun x36 σ3 =>
 G _ x33 false ((pureFn CC (DV.fn 104 []) [x35, x36] σ3).bind fun v => some (v, σ3)) σ3 fun x37 σ4 =>
 G _ x33 false ((unOp .not x37).bind fun v => some (v, σ4)) σ4 fun x38 σ5 =>
 (pickV x33 (DV.p (PV.bool true)) x38).bind fun x39 =>
 condK x39
 (
 some ((DV.tuple [x4, (DV.p (PV.int IntKind.i64 (6)))]), σ5)
 )
 (
 (fieldAddr PP 67 (DV.ptr (List.length σ) 0) 0).bind fun x41 =>
 (load PP 3 x41 σ5).bind fun x42 =>
 (binOp PP .eql 3 x42 I1).bind fun x43 =>
 G _ x43 true ((fieldAddr PP 67 (DV.ptr (List.length σ) 0) 1).bind fun v => some (v, σ5)) σ5 fun x45 σ6 =>
 G _ x43 true ((load PP 3 x45 σ6).bind fun v => some (v, σ6)) σ6 fun x46 σ7 =>
 G _ x43 true ((pureFn CC (DV.fn 26 []) [x46, I0, (DV.p (PV.int IntKind.i64 (11)))] σ7).bind fun v => some (v, σ7)) σ7 fun x47 σ8 =>
 G _ x43 true ((unOp .not x47).bind fun v => some (v, σ8)) σ8 fun x48 σ9 =>
 (pickV x43 x48 (DV.p (PV.bool false))).bind fun x49 =>
 G _ x49 false ((fieldAddr PP 67 (DV.ptr (List.length σ) 0) 0).bind fun v => some (v, σ9)) σ9 fun x51 σ10 =>
 G _ x49 false ((load PP 3 x51 σ10).bind fun v => some (v, σ10)) σ10 fun x52 σ11 =>
 G _ x49 false ((binOp PP .neq 3 x52 I1).bind fun v => some (v, σ11)) σ11 fun x53 σ12 =>
 G _ x49 false (some (x53, σ12)) σ12 fun x54 σ13 =>
 G _ x54 true ((fieldAddr PP 67 (DV.ptr (List.length σ) 0) 1).bind fun v => some (v, σ13)) σ13 fun x55 σ14 =>
 G _ x54 true ((load PP 3 x55 σ14).bind fun v => some (v, σ14)) σ14 fun x56 σ15 =>
 G _ x54 true ((binOp PP .neq 3 x56 I0).bind fun v => some (v, σ15)) σ15 fun x57 σ16 =>
 G _ x49 false ((pickV x54 x57 (DV.p (PV.bool false))).bind fun v => some (v, σ16)) σ16 fun x58 σ17 =>
 (pickV x49 (DV.p (PV.bool true)) x58).bind fun x59 =>
 condK x59
 (
 some ((DV.tuple [x4, (DV.p (PV.int IntKind.i64 (3)))]), σ17)
 )
 (
 (binOp PP .add 3 x4 I1).bind fun x17 =>
 f46_L0 G lo x0 x17 σ17
 )
 )
 )
 )
 (
 (len PP 23 x0 σ).bind fun x63 =>
 (binOp PP .sub 3 x63 I1).bind fun x64 =>
 (pureFn CC (DV.fn 105 []) [x0, x64] σ).bind fun x65 =>
 (binOp PP .neq 3 x65 I0).bind fun x66 =>
 condK x66
 (
 (len PP 23 x0 σ).bind fun x68 =>
 (binOp PP .sub 3 x68 I1).bind fun x69 =>
 some ((DV.tuple [x69, (DV.p (PV.int IntKind.i64 (15)))]), σ)
 )
 (
 some ((DV.tuple [I0, I0]), σ)
 )
 ) := (loopF_eq G hG).trans (by kernel_rfl)
theorem F46_eq (G : GuardT) (lo : Nat) (x0 : DV) (σ : Store) : F46 G lo x0 σ =
 (len PP 23 x0 σ).bind fun x7 =>
 (binOp PP .eql 3 x7 I0).bind fun x8 =>
 condK x8
 (
 some ((DV.tuple [I0, I1]), σ)
 )
 (
 (len PP 23 x0 σ).bind fun x10 =>
 (binOp PP .gtr 3 x10 (DV.p (PV.int IntKind.i64 (40)))).bind fun x11 =>
 condK x11
 (
 some ((DV.tuple [I0, (DV.p (PV.int IntKind.i64 (2)))]), σ)
 )
 (
 f46_L0 G lo x0 I0 σ
 )
 ) := by kernel_rfl
theorem F46_call {lo : Nat} {x0 : DV} (h : F46 guardT lo x0 σ = some r) : CC lo 46 [x0] σ = some r :=
 callL_run Tryz.func46 (by decide +kernel) rfl (by decide +kernel) h
def c25_0 : Code := bodyOf Tryz.f25
def a25_0 : Ann := (pol 25).ann
def F25 (x0 : DV) (σ : Store) : RS :=
 codeF G PP (pol 25) CC lo c25_0 a25_0 (x0 :: zn 10 []) σ (finR PP Tryz.f25.results.toList)
theorem F25_eq (G : GuardT) (lo : Nat) (x0 : DV) (σ : Store) : F25 G lo x0 σ =
 (pureFn CC (DV.fn 46 []) [x0] σ).bind fun x7 =>
 (extractV x7 0).bind fun x8 =>
 (extractV x7 1).bind fun x9 =>
 some (x9, σ) := by kernel_rfl
theorem F25_call {lo : Nat} {x0 : DV} (h : F25 guardT lo x0 σ = some r) : CC lo 25 [x0] σ = some r :=
 callL_run Tryz.func25 (by decide +kernel) rfl (by decide +kernel) h
def c103_0 : Code := bodyOf Tryz.f103
def a103_0 : Ann := (pol 103).ann
def a103_5 : Ann := right (left (right a103_0))
def c103_12 : Code := sndC (fstC (sndC (fstC (sndC c103_0))))
def a103_12 : Ann := right (left a103_5)
def c103_26 : Code := sndC (sndC c103_12)
def a103_26 : Ann := right (right a103_12)
def c103_31 : Code := sndC (sndC c103_0)
def a103_31 : Ann := right (right a103_0)
def f103_J0_fr (x0 x2 x3 x4 x5 x6 : DV) : Frame := [x0, Z, x2, x3, x4, x5, x6, Z, Z, Z, Z]
def f103_J0 (x0 x2 x3 x4 x5 x6 : DV) (σ : Store) : RS :=
 (seqC G PP (pol 103) CC lo c103_12 a103_12 (blockC 0 a103_5 (seqC G PP (pol 103) CC lo c103_31 a103_31 (finR PP Tryz.f103.results.toList)))) .normal (f103_J0_fr x0 x2 x3 x4 x5 x6) σ
def f103_J1_fr (x0 x2 x3 x4 x5 x6 x7 x8 x9 x10 : DV) : Frame := [x0, Z, x2, x3, x4, x5, x6, x7, x8, x9, x10]
def f103_J1 (x0 x2 x3 x4 x5 x6 x7 x8 x9 x10 : DV) (σ : Store) : RS :=
 (seqC G PP (pol 103) CC lo c103_26 a103_26 (blockC 0 a103_5 (seqC G PP (pol 103) CC lo c103_31 a103_31 (finR PP Tryz.f103.results.toList)))) .normal (f103_J1_fr x0 x2 x3 x4 x5 x6 x7 x8 x9 x10) σ
def F103 (x0 : DV) (σ : Store) : RS :=
 codeF G PP (pol 103) CC lo c103_0 a103_0 (x0 :: zn 10 []) σ (finR PP Tryz.f103.results.toList)
theorem f103_J0_eq (G : GuardT) (lo : Nat) (x0 x2 x3 x4 x5 x6 : DV) (σ : Store) : f103_J0 G lo x0 x2 x3 x4 x5 x6 σ =
 condK x4
 (
 some (I0, σ)
 )
 (
 (binOp PP .eql 3 x3 (DV.p (PV.int IntKind.i64 (2)))).bind fun x8 =>
 condK x8
 (
 f103_J1 G lo x0 x2 x3 x4 x5 x6 x8 x8 Z Z σ
 )
 (
 (binOp PP .eql 3 x3 (DV.p (PV.int IntKind.i64 (6)))).bind fun x9 =>
 condK x9
 (
 f103_J1 G lo x0 x2 x3 x4 x5 x6 x9 x8 x9 Z σ
 )
 (
 (binOp PP .eql 3 x3 (DV.p (PV.int IntKind.i64 (7)))).bind fun x10 =>
 f103_J1 G lo x0 x2 x3 x4 x5 x6 x10 x8 x9 x10 σ
 )
 )
 ) := by kernel_rfl
theorem f103_J1_eq (G : GuardT) (lo : Nat) (x0 x2 x3 x4 x5 x6 x7 x8 x9 x10 : DV) (σ : Store) : f103_J1 G lo x0 x2 x3 x4 x5 x6 x7 x8 x9 x10 σ =
 condK x7
 (
 some (I1, σ)
 )
 (
 some ((DV.p (PV.int IntKind.i64 (2))), σ)
 ) := by kernel_rfl
theorem F103_eq (G : GuardT) (lo : Nat) (x0 : DV) (σ : Store) : F103 G lo x0 σ =
 (binOp PP .eql 3 x0 I0).bind fun x5 =>
 condK x5
 (
 f103_J0 G lo x0 I0 x0 x5 x5 Z σ
 )
 (
 (binOp PP .eql 3 x0 I1).bind fun x6 =>
 f103_J0 G lo x0 I0 x0 x6 x5 x6 σ
 ) := by kernel_rfl
theorem F103_call {lo : Nat} {x0 : DV} (h : F103 guardT lo x0 σ = some r) : CC lo 103 [x0] σ = some r :=
 callL_run Tryz.func103 (by decide +kernel) rfl (by decide +kernel) h
def c104_0 : Code := bodyOf Tryz.f104
def a104_0 : Ann := (pol 104).ann
def a104_7 : Ann := right (left (right (right a104_0)))
def a104_8 : Ann := left a104_7
def c104_9 : Code := fstC (fstC (sndC (fstC (sndC (sndC c104_0)))))
def c104_35 : Code := sndC (sndC (sndC c104_0))
def a104_35 : Ann := right (right (right a104_0))
def f104_L0 (x0 x1 x5 x6 : DV) (σ : Store) : RS :=
 codeF G PP (pol 104) CC lo (.loop c104_9) a104_8 (x0 :: x1 :: Z :: Z :: Z :: x5 :: x6 :: zn 29 []) σ
 (blockC 0 a104_7 (seqC G PP (pol 104) CC lo c104_35 a104_35 (finR PP Tryz.f104.results.toList)))
def F104 (x0 x1 : DV) (σ : Store) : RS :=
 codeF G PP (pol 104) CC lo c104_0 a104_0 (x0 :: x1 :: zn 34 []) σ (finR PP Tryz.f104.results.toList)
theorem f104_L0_eq (G : GuardT) (hG : GuardOk G) (lo : Nat) (x0 x1 x5 x6 : DV) (σ : Store) : f104_L0 G lo x0 x1 x5 x6 σ =
 (binOp PP .geq 3 x6 I0).bind fun x16 =>
 condK x16
 (
 (indexAddr PP 23 x0 x1).bind fun x21 =>
 (fieldAddr PP 67 x21 2).bind fun x22 =>
 (load PP 24 x22 σ).bind fun x23 =>
 (indexAddr PP 24 x23 x6).bind fun x25 =>
 (load PP 3 x25 σ).bind fun x26 =>
 (binOp PP .sub 3 x5 I1).bind fun x28 =>
 (binOp PP .neq 3 x26 x28).bind fun x29 =>
 condK x29
 (
 some ((DV.p (PV.bool false)), σ)
 )
 (
 (binOp PP .sub 3 x5 I1).bind fun x32 =>
 (pureFn CC (DV.fn 105 []) [x0, x32] σ).bind fun x33 =>
 (binOp PP .lss 3 x33 I0).bind fun x35 =>
 condK x35
 (
 some ((DV.p (PV.bool false)), σ)
 )
 (
 (binOp PP .sub 3 x6 I1).bind fun x18 =>
 f104_L0 G lo x0 x1 x33 x18 σ
 )
 )
 )
 (
 some ((DV.p (PV.bool true)), σ)
 ) := (loopF_eq G hG).trans (by kernel_rfl)
theorem F104_eq (G : GuardT) (lo : Nat) (x0 x1 : DV) (σ : Store) : F104 G lo x0 x1 σ =
 (indexAddr PP 23 x0 x1).bind fun x10 =>
 (fieldAddr PP 67 x10 2).bind fun x11 =>
 (load PP 24 x11 σ).bind fun x12 =>
 (len PP 24 x12 σ).bind fun x13 =>
 (binOp PP .sub 3 x13 I1).bind fun x14 =>
 f104_L0 G lo x0 x1 x1 x14 σ := by kernel_rfl
theorem F104_call {lo : Nat} {x0 x1 : DV} (h : F104 guardT lo x0 x1 σ = some r) : CC lo 104 [x0, x1] σ = some r :=
 callL_run Tryz.func104 (by decide +kernel) rfl (by decide +kernel) h
def c105_0 : Code := bodyOf Tryz.f105
def a105_0 : Ann := (pol 105).ann
def a105_11 : Ann := left (right (right a105_0))
def a105_12 : Ann := left a105_11
def c105_13 : Code := fstC (fstC (fstC (sndC (sndC c105_0))))
def c105_31 : Code := sndC (sndC (sndC c105_0))
def a105_31 : Ann := right (right (right a105_0))
def f105_L0 (x0 x1 : DV) (σ : Store) : RS :=
 codeF G PP (pol 105) CC lo (.loop c105_13) a105_12 (x0 :: x1 :: zn 27 []) σ
 (blockC 0 a105_11 (seqC G PP (pol 105) CC lo c105_31 a105_31 (finR PP Tryz.f105.results.toList)))
def F105 (x0 x1 : DV) (σ : Store) : RS :=
 codeF G PP (pol 105) CC lo c105_0 a105_0 (x0 :: x1 :: zn 27 []) σ (finR PP Tryz.f105.results.toList)
theorem f105_L0_eq (G : GuardT) (hG : GuardOk G) (lo : Nat) (x0 x1 : DV) (σ : Store) : f105_L0 G lo x0 x1 σ =
 (indexAddr PP 23 x0 x1).bind fun x10 =>
 (fieldAddr PP 67 x10 2).bind fun x11 =>
 (load PP 24 x11 σ).bind fun x12 =>
 (len PP 24 x12 σ).bind fun x13 =>
 (binOp PP .gtr 3 x13 I0).bind fun x14 =>
 condK x14
 (
 (indexAddr PP 23 x0 x1).bind fun x17 =>
 (fieldAddr PP 67 x17 2).bind fun x18 =>
 (load PP 24 x18 σ).bind fun x19 =>
 (indexAddr PP 24 x19 I0).bind fun x20 =>
 (load PP 3 x20 σ).bind fun x21 =>
 (binOp PP .sub 3 x1 I1).bind fun x24 =>
 (pureFn CC (DV.fn 26 []) [x21, I0, x24] σ).bind fun x25 =>
 (unOp .not x25).bind fun x26 =>
 condK x26
 (
 some ((DV.p (PV.int IntKind.i64 (-1))), σ)
 )
 (
 f105_L0 G lo x0 x21 σ
 )
 )
 (
 some (x1, σ)
 ) := (loopF_eq G hG).trans (by kernel_rfl)
theorem F105_eq (G : GuardT) (lo : Nat) (x0 x1 : DV) (σ : Store) : F105 G lo x0 x1 σ =
 (binOp PP .lss 3 x1 I0).bind fun x7 =>
 condK x7
 (
 some ((DV.p (PV.int IntKind.i64 (-1))), σ)
 )
 (
 f105_L0 G lo x0 x1 σ
 ) := by kernel_rfl
theorem F105_call {lo : Nat} {x0 x1 : DV} (h : F105 guardT lo x0 x1 σ = some r) : CC lo 105 [x0, x1] σ = some r :=
 callL_run Tryz.func105 (by decide +kernel) rfl (by decide +kernel) h
def c99_0 : Code := bodyOf Tryz.f99
def a99_0 : Ann := (pol 99).ann
def a99_5 : Ann := right (left (right a99_0))
def c99_12 : Code := sndC (fstC (sndC (fstC (sndC c99_0))))
def a99_12 : Ann := right (left a99_5)
def c99_26 : Code := sndC (sndC c99_12)
def a99_26 : Ann := right (right a99_12)
def c99_31 : Code := sndC (sndC c99_0)
def a99_31 : Ann := right (right a99_0)
def f99_J0_fr (x0 x2 x3 x4 x5 x6 : DV) : Frame := [x0, Z, x2, x3, x4, x5, x6, Z, Z, Z, Z]
def f99_J0 (x0 x2 x3 x4 x5 x6 : DV) (σ : Store) : RS :=
 (seqC G PP (pol 99) CC lo c99_12 a99_12 (blockC 0 a99_5 (seqC G PP (pol 99) CC lo c99_31 a99_31 (finR PP Tryz.f99.results.toList)))) .normal (f99_J0_fr x0 x2 x3 x4 x5 x6) σ
def f99_J1_fr (x0 x2 x3 x4 x5 x6 x7 x8 x9 x10 : DV) : Frame := [x0, Z, x2, x3, x4, x5, x6, x7, x8, x9, x10]
def f99_J1 (x0 x2 x3 x4 x5 x6 x7 x8 x9 x10 : DV) (σ : Store) : RS :=
 (seqC G PP (pol 99) CC lo c99_26 a99_26 (blockC 0 a99_5 (seqC G PP (pol 99) CC lo c99_31 a99_31 (finR PP Tryz.f99.results.toList)))) .normal (f99_J1_fr x0 x2 x3 x4 x5 x6 x7 x8 x9 x10) σ
def F99 (x0 : DV) (σ : Store) : RS :=
 codeF G PP (pol 99) CC lo c99_0 a99_0 (x0 :: zn 10 []) σ (finR PP Tryz.f99.results.toList)
theorem f99_J0_eq (G : GuardT) (lo : Nat) (x0 x2 x3 x4 x5 x6 : DV) (σ : Store) : f99_J0 G lo x0 x2 x3 x4 x5 x6 σ =
 condK x4
 (
 some (I0, σ)
 )
 (
 (binOp PP .eql 3 x3 (DV.p (PV.int IntKind.i64 (2)))).bind fun x8 =>
 condK x8
 (
 f99_J1 G lo x0 x2 x3 x4 x5 x6 x8 x8 Z Z σ
 )
 (
 (binOp PP .eql 3 x3 (DV.p (PV.int IntKind.i64 (6)))).bind fun x9 =>
 condK x9
 (
 f99_J1 G lo x0 x2 x3 x4 x5 x6 x9 x8 x9 Z σ
 )
 (
 (binOp PP .eql 3 x3 (DV.p (PV.int IntKind.i64 (7)))).bind fun x10 =>
 f99_J1 G lo x0 x2 x3 x4 x5 x6 x10 x8 x9 x10 σ
 )
 )
 ) := by kernel_rfl
theorem f99_J1_eq (G : GuardT) (lo : Nat) (x0 x2 x3 x4 x5 x6 x7 x8 x9 x10 : DV) (σ : Store) : f99_J1 G lo x0 x2 x3 x4 x5 x6 x7 x8 x9 x10 σ =
 condK x7
 (
 some (I1, σ)
 )
 (
 some ((DV.p (PV.int IntKind.i64 (2))), σ)
 ) := by kernel_rfl
theorem F99_eq (G : GuardT) (lo : Nat) (x0 : DV) (σ : Store) : F99 G lo x0 σ =
 (binOp PP .eql 3 x0 I0).bind fun x5 =>
 condK x5
 (
 f99_J0 G lo x0 I0 x0 x5 x5 Z σ
 )
 (
 (binOp PP .eql 3 x0 I1).bind fun x6 =>
 f99_J0 G lo x0 I0 x0 x6 x5 x6 σ
 ) := by kernel_rfl
theorem F99_call {lo : Nat} {x0 : DV} (h : F99 guardT lo x0 σ = some r) : CC lo 99 [x0] σ = some r :=
 callL_run Tryz.func99 (by decide +kernel) rfl (by decide +kernel) h
def c44_0 : Code := bodyOf Tryz.f44
def a44_0 : Ann := (pol 44).ann
def a44_17 : Ann := right (left (right (right (right a44_0))))
def a44_18 : Ann := left a44_17
def c44_19 : Code := fstC (fstC (sndC (fstC (sndC (sndC (sndC c44_0))))))
def a44_26 : Ann := left (right (right (left a44_18)))
def a44_42 : Ann := right (left (right (right (right (left a44_26)))))
def a44_43 : Ann := left a44_42
def c44_44 : Code := fstC (fstC (sndC (fstC (sndC (sndC (sndC (fstC (fstC (sndC (sndC c44_19))))))))))
def c44_45 : Code := sndC (fstC (sndC (fstC (sndC (sndC (sndC (fstC (fstC (sndC (sndC c44_19))))))))))
def c44_55 : Code := sndC (sndC (sndC (sndC (fstC (fstC (sndC (sndC c44_19)))))))
def a44_55 : Ann := right (right (right (right (left a44_26))))
def c44_63 : Code := sndC (sndC c44_55)
def a44_63 : Ann := right (right a44_55)
def c44_74 : Code := sndC (sndC (sndC c44_19))
def a44_74 : Ann := right (right (right (left a44_18)))
def c44_75 : Code := sndC (sndC (sndC (sndC c44_0)))
def a44_75 : Ann := right (right (right (right a44_0)))
def f44_L0 (x0 x2 x3 x5 x27 x28 x29 : DV) (σ : Store) : RS :=
 codeF G PP (pol 44) CC lo (.loop c44_19) a44_18 (x0 :: Z :: x2 :: x3 :: Z :: x5 :: zn 21 (x27 :: x28 :: x29 :: zn 71 [])) σ
 (blockC 0 a44_17 (seqC G PP (pol 44) CC lo c44_75 a44_75 (finR PP Tryz.f44.results.toList)))
def f44_R0 (G : GuardT) (lo : Nat) (x0 x2 x3 x5 x6 x7 x8 x27 x28 x29 x30 x31 x32 x33 x34 x35 x36 x37 x39 x40 x41 x42 : DV) (xs : List DV) (σ : Store) (K' : Ex → Store → Option (DV × Store)) : RS :=
 roundC G PP (pol 44) CC lo c44_44 c44_45 (Ann.left a44_43) [43, 44] (x0 :: Z :: x2 :: x3 :: Z :: x5 :: x6 :: x7 :: x8 :: zn 18 (x27 :: x28 :: x29 :: x30 :: x31 :: x32 :: x33 :: x34 :: x35 :: x36 :: x37 :: Z :: x39 :: x40 :: x41 :: x42 :: zn 58 [])) xs σ K'
def f44_X0 (G : GuardT) (lo : Nat) (ex : Ex) (x0 x2 x3 x5 x6 x7 x8 x27 x28 x29 x30 x31 x32 x33 x34 x35 x36 x37 x39 x40 x41 x42 : DV) (σ : Store) : RS :=
 (blockC 2 a44_42 (seqC G PP (pol 44) CC lo c44_55 a44_55 (blockC 1 a44_26 (seqC G PP (pol 44) CC lo c44_74 a44_74 (loopC G PP (pol 44) CC lo c44_19 a44_18 (blockC 0 a44_17 (seqC G PP (pol 44) CC lo c44_75 a44_75 (finR PP Tryz.f44.results.toList)))))))) ex (x0 :: Z :: x2 :: x3 :: Z :: x5 :: x6 :: x7 :: x8 :: zn 18 (x27 :: x28 :: x29 :: x30 :: x31 :: x32 :: x33 :: x34 :: x35 :: x36 :: x37 :: Z :: x39 :: x40 :: x41 :: x42 :: zn 58 [])) σ
def f44_J0_fr (x0 x2 x3 x5 x6 x7 x8 x27 x28 x29 : DV) : Frame := (x0 :: Z :: x2 :: x3 :: Z :: x5 :: x6 :: x7 :: x8 :: zn 18 (x27 :: x28 :: x29 :: zn 71 []))
def f44_J0 (x0 x2 x3 x5 x6 x7 x8 x27 x28 x29 : DV) (σ : Store) : RS :=
 (seqC G PP (pol 44) CC lo c44_55 a44_55 (blockC 1 a44_26 (seqC G PP (pol 44) CC lo c44_74 a44_74 (loopC G PP (pol 44) CC lo c44_19 a44_18 (blockC 0 a44_17 (seqC G PP (pol 44) CC lo c44_75 a44_75 (finR PP Tryz.f44.results.toList))))))) .normal (f44_J0_fr x0 x2 x3 x5 x6 x7 x8 x27 x28 x29) σ
def f44_J1_fr (x0 x2 x3 x5 x6 x7 x8 x11 x27 x28 x29 x57 x58 x59 x60 x61 x62 x63 x64 x65 x66 : DV) : Frame := (x0 :: Z :: x2 :: x3 :: Z :: x5 :: x6 :: x7 :: x8 :: Z :: Z :: x11 :: zn 15 (x27 :: x28 :: x29 :: zn 27 (x57 :: x58 :: x59 :: x60 :: x61 :: x62 :: x63 :: x64 :: x65 :: x66 :: zn 34 [])))
def f44_J1 (x0 x2 x3 x5 x6 x7 x8 x11 x27 x28 x29 x57 x58 x59 x60 x61 x62 x63 x64 x65 x66 : DV) (σ : Store) : RS :=
 (seqC G PP (pol 44) CC lo c44_63 a44_63 (blockC 1 a44_26 (seqC G PP (pol 44) CC lo c44_74 a44_74 (loopC G PP (pol 44) CC lo c44_19 a44_18 (blockC 0 a44_17 (seqC G PP (pol 44) CC lo c44_75 a44_75 (finR PP Tryz.f44.results.toList))))))) .normal (f44_J1_fr x0 x2 x3 x5 x6 x7 x8 x11 x27 x28 x29 x57 x58 x59 x60 x61 x62 x63 x64 x65 x66) σ
def F44 (x0 : DV) (σ : Store) : RS :=
 codeF G PP (pol 44) CC lo c44_0 a44_0 (x0 :: zn 100 []) σ (finR PP Tryz.f44.results.toList)
theorem f44_L0_eq (G : GuardT) (hG : GuardOk G) (lo : Nat) (x0 x2 x3 x5 x27 x28 x29 : DV) (σ : Store) : f44_L0 G lo x0 x2 x3 x5 x27 x28 x29 σ =
 (binOp PP .lss 3 x29 x28).bind fun x30 =>
 condK x30
 (
 (indexAddr PP 23 x27 x29).bind fun x32 =>
 (load PP 67 x32 σ).bind fun x33 =>
 (zeroOf PP 67).bind fun z7 =>
 (store PP lo 67 (DV.ptr (List.length σ) 0) x33 (σ ++ [Row.mix z7])).bind fun σ2 =>
 (fieldAddr PP 67 (DV.ptr (List.length σ) 0) 0).bind fun x34 =>
 (load PP 3 x34 σ2).bind fun x35 =>
 (pureFn CC (DV.fn 65 []) [x35, I0, (DV.p (PV.int IntKind.i64 (9)))] σ2).bind fun x36 =>
 (unOp .not x36).bind fun x37 =>
 condK x37
 (
 some ((DV.tuple [x29, (DV.p (PV.int IntKind.i64 (4)))]), σ2)
 )
 (
 (zeroOf PP 3).bind fun z8 =>
 (store PP lo 3 (DV.ptr (List.length σ2) 0) x29 (σ2 ++ [Row.mix z8])).bind fun σ3 =>
 (fieldAddr PP 67 (DV.ptr (List.length σ) 0) 2).bind fun x40 =>
 (load PP 24 x40 σ3).bind fun x41 =>
 (pureFn CC (DV.fn 98 []) [x41] σ3).bind fun x42 =>
 rangeK (pol 44) x42 2 true true (fun xs ρ K' => f44_R0 G lo x0 x2 x3 x5 x29 (DV.ptr (List.length σ) 0) (DV.ptr (List.length σ2) 0) x27 x28 x29 x30 x29 x32 x33 x34 x35 x36 x37 x29 x40 x41 x42 xs ρ K') σ3 fun ex ρ => f44_X0 G lo ex x0 x2 x3 x5 x29 (DV.ptr (List.length σ) 0) (DV.ptr (List.length σ2) 0) x27 x28 x29 x30 x29 x32 x33 x34 x35 x36 x37 x29 x40 x41 x42 ρ
 )
 )
 (
 (len PP 23 x0 σ).bind fun x93 =>
 (binOp PP .sub 3 x93 I1).bind fun x94 =>
 (load PP 24 x5 σ).bind fun x95 =>
 (indexAddr PP 24 x95 x94).bind fun x97 =>
 (load PP 3 x97 σ).bind fun x98 =>
 (binOp PP .neq 3 x98 I0).bind fun x99 =>
 condK x99
 (
 some ((DV.tuple [x94, (DV.p (PV.int IntKind.i64 (15)))]), σ)
 )
 (
 some ((DV.tuple [I0, I0]), σ)
 )
 ) := (loopF_eq G hG).trans (by kernel_rfl)
theorem f44_R0_eq (G : GuardT) (lo : Nat) (x0 x2 x3 x5 x6 x7 x8 x27 x28 x29 x30 x31 x32 x33 x34 x35 x36 x37 x39 x40 x41 x42 : DV) (x43 x44 : DV) (σ : Store) (K' : Ex → Store → Option (DV × Store)) : f44_R0 G lo x0 x2 x3 x5 x6 x7 x8 x27 x28 x29 x30 x31 x32 x33 x34 x35 x36 x37 x39 x40 x41 x42 [x43, x44] σ K' =
 (load PP 3 x8 σ).bind fun x46 =>
 (binOp PP .sub 3 x46 I1).bind fun x47 =>
 (binOp PP .neq 3 x44 x47).bind fun x48 =>
 G _ x48 false (some (x44, σ)) σ fun x50 σ4 =>
 G _ x48 false ((binOp PP .lss 3 x50 I0).bind fun v => some (v, σ4)) σ4 fun x51 σ5 =>
 (pickV x48 (DV.p (PV.bool true)) x51).bind fun x52 =>
 condK x52
 (
 (store PP lo 3 x8 (DV.p (PV.int IntKind.i64 (-1))) σ5).bind fun σ6 =>
 K' (.exit 2) σ6
 )
 (
 (load PP 24 x5 σ5).bind fun x53 =>
 (indexAddr PP 24 x53 x44).bind fun x55 =>
 (load PP 3 x55 σ5).bind fun x56 =>
 (store PP lo 3 x8 x56 σ5).bind fun σ7 =>
 K' .normal σ7
 ) := by kernel_rfl
theorem f44_X0_normal (G : GuardT) (lo : Nat) (x0 x2 x3 x5 x6 x7 x8 x27 x28 x29 x30 x31 x32 x33 x34 x35 x36 x37 x39 x40 x41 x42 : DV) (σ : Store) : f44_X0 G lo .normal x0 x2 x3 x5 x6 x7 x8 x27 x28 x29 x30 x31 x32 x33 x34 x35 x36 x37 x39 x40 x41 x42 σ =
 f44_J0 G lo x0 x2 x3 x5 x6 x7 x8 x27 x28 x29 σ := by kernel_rfl
theorem f44_J0_eq (G : GuardT) (lo : Nat) (x0 x2 x3 x5 x6 x7 x8 x27 x28 x29 : DV) (σ : Store) : f44_J0 G lo x0 x2 x3 x5 x6 x7 x8 x27 x28 x29 σ =
 (fieldAddr PP 67 x7 1).bind fun x57 =>
 (load PP 3 x57 σ).bind fun x58 =>
 (binOp PP .neq 3 x58 I0).bind fun x59 =>
 (fieldAddr PP 67 x7 0).bind fun x60 =>
 (load PP 3 x60 σ).bind fun x61 =>
 (binOp PP .eql 3 x61 I1).bind fun x62 =>
 condK x62
 (
 (fieldAddr PP 67 x7 1).bind fun x63 =>
 (load PP 3 x63 σ).bind fun x64 =>
 (pureFn CC (DV.fn 65 []) [x64, I0, (DV.p (PV.int IntKind.i64 (11)))] σ).bind fun x65 =>
 (unOp .not x65).bind fun x66 =>
 f44_J1 G lo x0 x2 x3 x5 x6 x7 x8 x66 x27 x28 x29 x57 x58 x59 x60 x61 x62 x63 x64 x65 x66 σ
 )
 (
 f44_J1 G lo x0 x2 x3 x5 x6 x7 x8 x59 x27 x28 x29 x57 x58 x59 x60 x61 x62 Z Z Z Z σ
 ) := by kernel_rfl
theorem f44_J1_eq (G : GuardT) (lo : Nat) (x0 x2 x3 x5 x6 x7 x8 x11 x27 x28 x29 x57 x58 x59 x60 x61 x62 x63 x64 x65 x66 : DV) (σ : Store) : f44_J1 G lo x0 x2 x3 x5 x6 x7 x8 x11 x27 x28 x29 x57 x58 x59 x60 x61 x62 x63 x64 x65 x66 σ =
 (load PP 3 x8 σ).bind fun x67 =>
 (binOp PP .lss 3 x67 I0).bind fun x68 =>
 G _ x68 false ((fieldAddr PP 67 x7 2).bind fun v => some (v, σ)) σ fun x70 σ8 =>
 G _ x68 false ((load PP 24 x70 σ8).bind fun v => some (v, σ8)) σ8 fun x71 σ9 =>
 G _ x68 false ((len PP 24 x71 σ9).bind fun v => some (v, σ9)) σ9 fun x72 σ10 =>
 G _ x68 false ((fieldAddr PP 67 x7 0).bind fun v => some (v, σ10)) σ10 fun x73 σ11 =>
 G _ x68 false ((load PP 3 x73 σ11).bind fun v => some (v, σ11)) σ11 fun x74 σ12 =>
 G _ x68 false ((pureFn CC (DV.fn 99 []) [x74] σ12).bind fun v => some (v, σ12)) σ12 fun x75 σ13 =>
 G _ x68 false ((binOp PP .neq 3 x72 x75).bind fun v => some (v, σ13)) σ13 fun x76 σ14 =>
 (pickV x68 (DV.p (PV.bool true)) x76).bind fun x77 =>
 (pureFn CC (DV.fn 67 []) [x77, (DV.p (PV.int IntKind.i64 (6)))] σ14).bind fun x78 =>
 (pureFn CC (DV.fn 67 []) [x11, (DV.p (PV.int IntKind.i64 (3)))] σ14).bind fun x80 =>
 (buildSlice PP none 160 2 [(0, x78), (1, x80)] σ14).bind fun r81_15 =>
 (pureFn CC (DV.fn 66 []) [r81_15.1] r81_15.2).bind fun x82 =>
 (binOp PP .neq 30 x82 I0).bind fun x84 =>
 condK x84
 (
 some ((DV.tuple [x6, x82]), r81_15.2)
 )
 (
 (load PP 24 x5 r81_15.2).bind fun x87 =>
 (load PP 3 x8 r81_15.2).bind fun x88 =>
 (buildSlice PP none 24 1 [(0, x88)] r81_15.2).bind fun r89_16 =>
 (append PP lo false 24 24 x87 r89_16.1 r89_16.2).bind fun r90_17 =>
 (store PP lo 24 x5 r90_17.1 r90_17.2).bind fun σ18 =>
 (binOp PP .add 3 x29 I1).bind fun x91 =>
 f44_L0 G lo x0 x2 x3 x5 x27 x28 x91 σ18
 ) := by kernel_rfl
theorem F44_eq (G : GuardT) (lo : Nat) (x0 : DV) (σ : Store) : F44 G lo x0 σ =
 (len PP 23 x0 σ).bind fun x15 =>
 (binOp PP .eql 3 x15 I0).bind fun x16 =>
 (pureFn CC (DV.fn 67 []) [x16, I1] σ).bind fun x17 =>
 (len PP 23 x0 σ).bind fun x19 =>
 (binOp PP .gtr 3 x19 (DV.p (PV.int IntKind.i64 (40)))).bind fun x20 =>
 (pureFn CC (DV.fn 67 []) [x20, (DV.p (PV.int IntKind.i64 (2)))] σ).bind fun x21 =>
 (buildSlice PP none 160 2 [(0, x17), (1, x21)] σ).bind fun r22_1 =>
 (pureFn CC (DV.fn 66 []) [r22_1.1] r22_1.2).bind fun x23 =>
 (binOp PP .neq 30 x23 I0).bind fun x25 =>
 condK x25
 (
 some ((DV.tuple [I0, x23]), r22_1.2)
 )
 (
 (zeroOf PP 24).bind fun z5 =>
 (len PP 23 x0 (r22_1.2 ++ [Row.mix z5])).bind fun x28 =>
 f44_L0 G lo x0 I0 I0 (DV.ptr (List.length r22_1.2) 0) x0 x28 I0 (r22_1.2 ++ [Row.mix z5])
 ) := by kernel_rfl
theorem F44_call {lo : Nat} {x0 : DV} (h : F44 guardT lo x0 σ = some r) : CC lo 44 [x0] σ = some r :=
 callL_run Tryz.func44 (by decide +kernel) rfl (by decide +kernel) h
def c70_0 : Code := bodyOf Tryz.f70
def a70_0 : Ann := (pol 70).ann
def F70 (x0 : DV) (σ : Store) : RS :=
 codeF G PP (pol 70) CC lo c70_0 a70_0 (x0 :: zn 10 []) σ (finR PP Tryz.f70.results.toList)
theorem F70_eq (G : GuardT) (lo : Nat) (x0 : DV) (σ : Store) : F70 G lo x0 σ =
 (pureFn CC (DV.fn 44 []) [x0] σ).bind fun x7 =>
 (extractV x7 0).bind fun x8 =>
 (extractV x7 1).bind fun x9 =>
 some (x9, σ) := by kernel_rfl
theorem F70_call {lo : Nat} {x0 : DV} (h : F70 guardT lo x0 σ = some r) : CC lo 70 [x0] σ = some r :=
 callL_run Tryz.func70 (by decide +kernel) rfl (by decide +kernel) h
end
end Go.D
end
/- Chapter 13: errors of words, copies, comparisons, in the program and in the reference. -/
section
set_option linter.unusedVariables false
set_option linter.unusedSimpArgs false
namespace Go.D
open Las
theorem app24 {x : DV} {l : List Int} (h : PL x l) (hl : l.length ≤ 1000000) (lo : Nat) (σ : Store) : ∃ y σ', append PP lo false 24 24 (.p (.sl true 0 [])) x σ = some (y, σ') ∧ PL y l ∧ thawAll lo σ' y = some (.p (eSl (some l))) := by
  by_cases hb : l = []
  · subst hb
    refine ⟨.p (.sl true 0 []), σ, ?_, .inr (.inl ⟨true, by simp; rfl⟩), rfl⟩
    simp [append, src24, u24, s3, bytes3, zero3, h.src σ, appLit]
  · have hb0 : ¬ (l.length = 0) := fun e => hb (List.length_eq_zero_iff.1 e)
    refine ⟨.osl σ.length 0 1 l.length (eInts l), σ ++ [.tok 0], ?_, .inr (.inr ⟨σ.length, 0, rfl⟩), by simp [thawAll, thawPart, thaw, thaw1, thawP, loosens_ints, eSl]⟩
    simp [append, src24, u24, s3, bytes3, zero3, h.src σ, appLit, hb0, pures_map, hb]
    omega
theorem S52 {o : OI} (hl : (L o).length ≤ 1000000) (σ : Store) : pureV CC 52 [.p (eSl o)] σ = some (.p (eSl (some (L o)))) := by
  obtain ⟨y, σ', h1, h2, h3⟩ := app24 (PL.sl o) hl 0 []
  refine pureV_free (by simp [sl_view]) rfl (F52_call (r := (y, σ')) ?_) h3
  rw [F52_eq]
  simp only [bs24_0, gG, h1]
def eqFrom (a b : List Int) : Nat → Nat → Bool
  | 0, _ => true
  | d + 1, i => decide (a.getD i 0 = b.getD i 0) && eqFrom a b d (i + 1)
theorem eqFrom_iff {a b : List Int} (h : a.length = b.length) : eqFrom a b a.length 0 = decide (a = b) := by
  have key : ∀ d i, a.length - i = d → i ≤ a.length → (eqFrom a b d i = true ↔ a.drop i = b.drop i) := by
    intro d
    induction d with
    | zero =>
      intro i hd hi
      rw [List.drop_eq_nil_of_le (by omega), List.drop_eq_nil_of_le (by omega)]
      simp [eqFrom]
    | succ d ih =>
      intro i hd hi
      rw [drop_cons (show i < a.length by omega), drop_cons (show i < b.length by omega), eqFrom, Bool.and_eq_true, decide_eq_true_iff, ih (i + 1) (by omega) (by omega), List.cons.injEq]
  rw [Bool.eq_iff_iff, key a.length 0 rfl (Nat.zero_le _), decide_eq_true_iff]
  simp
theorem L80 {o o' : OI} (h : (L o).length = (L o').length) (hl : (L o).length ≤ 100000) (lo : Nat) (σ : Store) : ∀ (d i : Nat), (L o).length - i = d → i ≤ (L o).length →
    f80_L0 guardT lo (.p (eSl o)) (.p (eSl o')) (N i) σ = some (.p (.bool (eqFrom (L o) (L o') d i)), σ)
  | 0, i, hd, hi => by
    rw [f80_L0_eq guardT rfl]
    simp (disch := omega) only [N, (PL.sl _).len, gG, b_lss, ltF, eqFrom]
  | d + 1, i, hd, hi => by
    have h1 : i < (L o).length := by omega
    have h2 : i < (L o').length := by omega
    have ih := L80 h hl lo σ d (i + 1) (by omega) (by omega)
    rw [f80_L0_eq guardT rfl]
    simp (disch := omega) only [N, (PL.sl _).len, gG, b_lss, ltT, (PL.sl o).idx h1, (PL.sl o').idx h2, load3, load1_getD h1, load1_getD h2, b_neq, eqFrom]
    by_cases e : (L o).getD i 0 = (L o').getD i 0
    · simp (disch := omega) only [eqT e, gG, add1, Bool.true_and]
      exact ih
    · simp only [eqF e, gG, Bool.false_and]
theorem S80 {o o' : OI} (hl : (L o).length ≤ 100000) (σ : Store) : pureV CC 80 [.p (eSl o), .p (eSl o')] σ = some (.p (.bool (decide (L o = L o')))) := by
  refine pureV_free (by simp [sl_view]) rfl (F80_call (r := (.p (.bool (decide (L o = L o'))), [])) ?_) rfl
  rw [F80_eq]
  simp only [(PL.sl _).len, gG, b_neq]
  by_cases h : (L o).length = (L o').length
  · have h' : ((L o).length : Int) = ((L o').length : Nat) := by omega
    have := L80 h hl 0 [] _ 0 rfl (Nat.zero_le _)
    rw [Nat.sub_zero, eqFrom_iff h] at this
    simp only [eqT h', gG]
    exact this
  · have h' : ¬ ((L o).length : Int) = ((L o').length : Nat) := by omega
    have hne : ¬ (L o = L o') := fun e => h (by rw [e])
    simp only [eqF h', gG, decide_eq_false hne]
theorem S33 {u w : Wd} (h0 : (L u.p).length ≤ 100000) (h1 : (L u.l).length ≤ 100000) (σ : Store) : pureV CC 33 [vWd u, vWd w] σ = some (.p (.bool (decide (L u.p = L w.p) && decide (L u.l = L w.l)))) := by
  refine pureV_free (by simp [wd_view]) (by simp [wd_free]) (F33_call (r := (.p (.bool (decide (L u.p = L w.p) && decide (L u.l = L w.l))), [])) ?_) rfl
  rw [F33_eq]
  simp only [box_wd, gG, fa26_0, fa26_1, shift_ptr, shift_pptr, Nat.zero_add, Nat.add_zero, pureFn_fn, List.append_nil, List.singleton_append, List.cons_append, List.nil_append, load24, wd_0, wd_1, S80 h0]
  cases decide (L u.p = L w.p) with
  | true => simp only [gG, shift_ptr, shift_pptr, Nat.zero_add, Nat.add_zero, pureFn_fn, List.append_nil, List.singleton_append, List.cons_append, List.nil_append, load24, wd_1, S80 h1, Bool.true_and]
  | false => simp only [gG, Bool.false_and]
end Go.D
end
/- Closed calls, worked out by the kernel one by one. -/
section
set_option linter.unusedVariables false
set_option maxRecDepth 100000
namespace Go.D

mutual
def eqPV : PV → PV → Bool
  | .bool a, .bool b => a == b
  | .int k n, .int k' m => k == k' && n == m
  | .nilsl, .nilsl => true
  | .sl a n cs, .sl b m ds => a == b && n == m && eqPVs cs ds
  | _, _ => false
def eqPVs : List PV → List PV → Bool
  | [], [] => true
  | a :: as', b :: bs => eqPV a b && eqPVs as' bs
  | _, _ => false
end
mutual
theorem eqPV_eq : ∀ (a b : PV), eqPV a b = true → a = b
  | .bool a, .bool b, h => by simp [eqPV] at h; rw [h]
  | .int k n, .int k' m, h => by
    simp [eqPV] at h
    rw [h.1, h.2]
  | .nilsl, .nilsl, h => rfl
  | .sl a n cs, .sl b m ds, h => by
    simp [eqPV] at h
    rw [h.1.1, h.1.2, eqPVs_eq cs ds h.2]
  | .bool _, .int .., h | .bool _, .str _, h | .bool _, .nilptr, h | .bool _, .nilsl, h | .bool _, .nilmap, h | .bool _, .nilfn, h | .bool _, .niliface, h | .bool _, .sl .., h => by simp [eqPV] at h
  | .int .., .bool _, h | .int .., .str _, h | .int .., .nilptr, h | .int .., .nilsl, h | .int .., .nilmap, h | .int .., .nilfn, h | .int .., .niliface, h | .int .., .sl .., h => by simp [eqPV] at h
  | .nilsl, .bool _, h | .nilsl, .int .., h | .nilsl, .str _, h | .nilsl, .nilptr, h | .nilsl, .nilmap, h | .nilsl, .nilfn, h | .nilsl, .niliface, h | .nilsl, .sl .., h => by simp [eqPV] at h
  | .sl .., .bool _, h | .sl .., .int .., h | .sl .., .str _, h | .sl .., .nilptr, h | .sl .., .nilsl, h | .sl .., .nilmap, h | .sl .., .nilfn, h | .sl .., .niliface, h => by simp [eqPV] at h
  | .str _, b, h | .nilptr, b, h | .nilmap, b, h | .nilfn, b, h | .niliface, b, h => by cases b <;> simp [eqPV] at h
theorem eqPVs_eq : ∀ (a b : List PV), eqPVs a b = true → a = b
  | [], [], h => rfl
  | a :: as', b :: bs, h => by
    simp [eqPVs] at h
    rw [eqPV_eq a b h.1, eqPVs_eq as' bs h.2]
  | [], _ :: _, h | _ :: _, [], h => by simp [eqPVs] at h
end

def flatD : DV → Option (List (Nat × PV))
  | .p v => some [(0, v)]
  | .agg cs => some (cs.filterMap fun c => match c with | .p v => some (1, v) | _ => none)
  | _ => none

def eqD1 : DV → DV → Bool
  | .p v, .p w => eqPV v w
  | _, _ => false
def eqD1s : List DV → List DV → Bool
  | [], [] => true
  | a :: as', b :: bs => eqD1 a b && eqD1s as' bs
  | _, _ => false
def eqD2 : DV → DV → Bool
  | .agg cs, .agg ds => eqD1s cs ds
  | a, b => eqD1 a b
def eqD2s : List DV → List DV → Bool
  | [], [] => true
  | a :: as', b :: bs => eqD2 a b && eqD2s as' bs
  | _, _ => false
def eqD : DV → DV → Bool
  | .tuple cs, .tuple ds => eqD2s cs ds
  | a, b => eqD2 a b

theorem eqD1_eq {a b : DV} (h : eqD1 a b = true) : a = b := by
  unfold eqD1 at h
  split at h
  · rw [eqPV_eq _ _ h]
  · exact absurd h (by simp)
theorem eqD1s_eq : ∀ {a b : List DV}, eqD1s a b = true → a = b
  | [], [], h => rfl
  | a :: as', b :: bs, h => by
    simp only [eqD1s, Bool.and_eq_true] at h
    rw [eqD1_eq h.1, eqD1s_eq h.2]
  | [], _ :: _, h => absurd h (by simp [eqD1s])
  | _ :: _, [], h => absurd h (by simp [eqD1s])
theorem eqD2_eq {a b : DV} (h : eqD2 a b = true) : a = b := by
  unfold eqD2 at h
  split at h
  · rw [eqD1s_eq h]
  · exact eqD1_eq h
theorem eqD2s_eq : ∀ {a b : List DV}, eqD2s a b = true → a = b
  | [], [], h => rfl
  | a :: as', b :: bs, h => by
    simp only [eqD2s, Bool.and_eq_true] at h
    rw [eqD2_eq h.1, eqD2s_eq h.2]
  | [], _ :: _, h => absurd h (by simp [eqD2s])
  | _ :: _, [], h => absurd h (by simp [eqD2s])
theorem eqD_eq {a b : DV} (h : eqD a b = true) : a = b := by
  unfold eqD at h
  split at h
  · rw [eqD2s_eq h]
  · exact eqD2_eq h

def runIs (P : Program) (pol : FuncId → FPol) (k : Nat) (f : FuncId) (args : List DV) (r : DV) : Bool :=
  match callK P pol k 0 f args [] with
  | some (v, σ) => match thawAll 0 σ v with
    | some v' => eqD v' r
    | none => false
  | none => false

theorem pureV_run {k : Nat} {f : FuncId} {args : List DV} {r : DV} {σ : Store} (h : runIs PP pol k f args r = true) (h1 : args.map view = args) (h2 : args.all rowFree = true) : pureV CC f args σ = some r := by
  unfold runIs at h
  split at h
  · rename_i v σ' hc
    split at h
    · rename_i v' ht
      exact pureV_free h1 h2 (callL_at hc) (ht.trans (by rw [eqD_eq h]))
    · exact absurd h (by simp)
  · exact absurd h (by simp)

end Go.D
end
/- Chapter 13: rows of numbers: concatenated, compacted in place, repeated. -/
section
set_option linter.unusedVariables false
set_option linter.unusedSimpArgs false
namespace Go.D
open Las
def ints (l : List Int) : List DV := (eInts l).map .p
theorem ints_len (l : List Int) : (ints l).length = l.length := by simp [ints, eInts]
theorem ints_take (l : List Int) (k : Nat) : (ints l).take k = ints (l.take k) := by simp [ints, eInts, List.map_take]
theorem ints_drop (l : List Int) (k : Nat) : (ints l).drop k = ints (l.drop k) := by simp [ints, eInts, List.map_drop]
theorem ints_get {l : List Int} {i : Nat} (h : i < l.length) : (ints l)[i]? = some (.p (.int .i64 (l.getD i 0))) := by
  simp [ints, eInts, List.getD_eq_getElem?_getD, h]
structure RowS (σ : Store) (r off : Nat) (l : List Int) : Prop where
  ex : ∃ A, σ[r]? = some (.mix (ints A)) ∧ (A.drop off).take l.length = l ∧ off + l.length ≤ A.length
theorem RowS.idx {σ : Store} {r off : Nat} {l : List Int} (h : RowS σ r off l) {i : Nat} (hi : i < l.length) : indexAddr PP 24 (.rsl r 1 off l.length) (.p (.int .i64 (i : Nat))) = some (.ptr r (off + i)) := by
  have h2 : (0 : Int) ≤ (i : Int) ∧ (i : Int) < (l.length : Nat) := by omega
  simp [indexAddr, u24, s3, h2]
theorem rs_len (r off n : Nat) (σ : Store) : len PP 24 (.rsl r 1 off n) σ = some (.p (.int .i64 (n : Nat))) := by simp [len, u24]
theorem rs_idx {r off n i : Nat} (hi : i < n) : indexAddr PP 24 (.rsl r 1 off n) (.p (.int .i64 (i : Nat))) = some (.ptr r (off + i)) := by
  have h2 : (0 : Int) ≤ (i : Int) ∧ (i : Int) < (n : Nat) := by omega
  simp [indexAddr, u24, s3, h2]
theorem rs_ld {σ : Store} {r i : Nat} {A : List Int} (h : σ[r]? = some (.mix (ints A))) (hi : i < A.length) : load1 (.ptr r i) σ = some (.p (.int .i64 (A.getD i 0))) :=
  load1_ptr h (ints_get hi)
theorem u3 : PP.underlying 3 = some (.int .i64) := Eq.trans (by kernel_rfl) rfl
theorem s24 : size? PP 24 = some 1 := Eq.trans (by kernel_rfl) rfl
section
variable {l : List Int} {r lo : Nat} (hl : l.length ≤ 100000) (hlo : lo ≤ r)
include hl hlo
end
end Go.D
end
/- Chapter 13: the shortest form and the word without stuttering, in the program. -/
section
set_option linter.unusedVariables false
set_option linter.unusedSimpArgs false
namespace Go.D
open Las
end Go.D
end
/- Chapter 13: Shortest and Unstuttered, in the program and in the reference. -/
section
set_option linter.unusedVariables false
set_option linter.unusedSimpArgs false
namespace Go.D
open Las
def Out (σ : Store) (lo sz n : Nat) (cs : List PV) (x : DV) : Prop :=
  cs.length = n * sz ∧ ((n = 0 ∧ x = .p .nilsl) ∨ (n ≠ 0 ∧ ∃ r ver, x = .osl r ver sz n cs ∧ σ[r]? = some (.tok ver) ∧ lo ≤ r))
def Others (σ σ' : Store) (x : DV) : Prop := ∀ i row, σ[i]? = some row → (∀ r ver sz n cs, x = .osl r ver sz n cs → i ≠ r) → σ'[i]? = some row
theorem Out.zero {σ : Store} {lo sz : Nat} : Out σ lo sz 0 [] (.p .nilsl) := ⟨by simp, .inl ⟨rfl, rfl⟩⟩
theorem Others.mix {σ σ' : Store} {lo sz n : Nat} {cs : List PV} {x : DV} (h : Others σ σ' x) (ho : Out σ lo sz n cs x) {i : Nat} {row : Row} (hi : σ[i]? = some row) (hr : ∀ v, row ≠ .tok v) : σ'[i]? = some row := by
  refine h i row hi ?_
  rintro r ver sz' n' cs' rfl rfl
  rcases ho.2 with ⟨_, h2⟩ | ⟨_, r2, ver2, h2, h3, _⟩
  · cases h2
  · injection h2 with e1
    subst e1
    rw [hi] at h3
    injection h3 with h3
    exact hr _ h3
theorem Out.push {σ : Store} {t e lo sz b n : Nat} {z : List DV} {cs vs : List PV} {x : DV} (hs : srcType PP t = true) (hu : PP.underlying t = some (.slice e)) (h1 : size? PP e = some sz) (h2 : bytes? PP e = some b) (h3 : zeroOf PP e = some z)
    (h4 : z.length = sz) (hz : 0 < sz) (hb : 0 < b) (hb2 : b ≤ 1000) (hv : vs.length = sz) (ho : Out σ lo sz n cs x) (hn : n ≤ 1000000) (hlo : lo ≤ σ.length) :
    ∃ x' σ', append PP lo false t t x (.p (.sl true 1 vs)) σ = some (x', σ') ∧ Out σ' lo sz (n + 1) (cs ++ vs) x' ∧ Others σ σ' x ∧ σ.length ≤ σ'.length := by
  have hsrc : source σ sz (.p (.sl true 1 vs)) = some (1, vs.map DV.p) := by simp [source, hv]
  have hz0 : ¬ (z.length ≠ sz ∨ sz = 0) := by omega
  obtain ⟨hc, ho⟩ := ho
  rcases ho with ⟨rfl, rfl⟩ | ⟨hn0, r, ver, rfl, hr, hl⟩
  · refine ⟨.osl σ.length 0 sz 1 vs, σ ++ [.tok 0], ?_, ⟨by simp [hc, hv], .inr ⟨by simp, σ.length, 0, ?_, get_snoc, hlo⟩⟩, ?_, by simp⟩
    · have : b ≤ 140737488355328 := by omega
      simp only [append, hs, hu, h1, h2, h3, hz0, hsrc, appNil]
      simp [this, hb, pures_map, h4, hz, Nat.ne_of_gt hz]
    · have : cs = [] := List.length_eq_zero_iff.1 (by simpa using hc)
      rw [this]; simp
    · intro i row hi _
      exact get_old hi
  · refine ⟨.osl r (ver + 1) sz (n + 1) (cs ++ vs), σ.set r (.tok (ver + 1)), ?_, ⟨by simp [hc, hv, Nat.add_mul], .inr ⟨by simp, r, ver + 1, rfl, ?_, hl⟩⟩, ?_, by simp⟩
    · have e1 : (n + 1) * b ≤ 140737488355328 := Nat.le_trans (Nat.mul_le_mul (show n + 1 ≤ 1000001 by omega) hb2) (by decide)
      have e2 : n + 1 ≤ 140737488355328 := by omega
      simp only [append, hs, hu, h1, h2, h3, hz0, hsrc, appTok]
      simp [e1, e2, hb, hc, hl, hr, pures_map, h4, Nat.ne_of_gt hz]
    · rw [List.getElem?_set_self (get_lt hr)]
    · intro i row hi hne
      rw [List.getElem?_set_ne (fun e => hne _ _ _ _ _ rfl e.symm)]
      exact hi
theorem Out.tw {σ : Store} {lo sz n : Nat} {cs : List PV} {x : DV} (ho : Out σ lo sz n cs x) (m : Nat) : thaw m σ x = some (.p (if n = 0 then .nilsl else .sl false n (loosens cs))) := by
  rcases ho.2 with ⟨rfl, rfl⟩ | ⟨hn, r, ver, rfl, _, _⟩
  · rfl
  · simp [thaw, thaw1, thawP, hn]
theorem Out.twAll {σ : Store} {lo sz n : Nat} {cs : List PV} {x : DV} (ho : Out σ lo sz n cs x) (m : Nat) : thawAll m σ x = some (.p (if n = 0 then .nilsl else .sl false n (loosens cs))) := by
  rcases ho.2 with ⟨rfl, rfl⟩ | ⟨hn, r, ver, rfl, _, _⟩
  · rfl
  · simp [thawAll, thawPart, thaw, thaw1, thawP, hn]
theorem Out.vw {σ : Store} {lo sz n : Nat} {cs : List PV} {x : DV} (ho : Out σ lo sz n cs x) : view x = .p (if n = 0 then .nilsl else .sl false n (loosens cs)) := by
  rcases ho.2 with ⟨rfl, rfl⟩ | ⟨hn, r, ver, rfl, _, _⟩
  · rfl
  · simp [view, viewCell, hn]
theorem Out.push24 {σ : Store} {lo n : Nat} {cs : List PV} {v : PV} {x : DV} (ho : Out σ lo 1 n cs x) (hn : n ≤ 1000000) (hlo : lo ≤ σ.length) :
    ∃ x' σ', append PP lo false 24 24 x (.p (.sl true 1 [v])) σ = some (x', σ') ∧ Out σ' lo 1 (n + 1) (cs ++ [v]) x' ∧ Others σ σ' x ∧ σ.length ≤ σ'.length :=
  Out.push src24 u24 s3 bytes3 zero3 rfl (by decide) (by decide) (by decide) rfl ho hn hlo
end Go.D
end
