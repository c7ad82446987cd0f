/- RefineRelations: for every pair and every list of lists the law answers true and leaves its arguments as they were: the given statement, without conditions. -/
import Derived.Test.YthmgennimcjlpaaQg
import Derived.Test.YthmgennimcjlpaaQd
import Derived.Test.YthmgennimcjlpaaQe
import Derived.Test.YthmgennimcjlpaaQc
import Derived.Test.YthmgennimcjlpaaRows
import Derived.ProofKit
import Derived.SizedLaws
/- awake answers true. -/
section
set_option linter.unusedVariables false
set_option linter.unusedSimpArgs false
set_option maxRecDepth 100000
namespace Go.D

theorem neq_self (t : TypeId) (a : Int) : binOp PP .neq t (.p (.int .i64 a)) (.p (.int .i64 a)) = some (.p (.bool false)) := by rw [b_neq]; simp
theorem eql_self (t : TypeId) (a : Int) : binOp PP .eql t (.p (.int .i64 a)) (.p (.int .i64 a)) = some (.p (.bool true)) := by rw [b_eql]; simp
theorem bs22_2 (x y : Int) (σ : Store) : buildSlice PP none 22 2 [(0, .p (pI x)), (1, .p (pI y))] σ = some (.p (.sl true 2 (eInts [x, y])), σ) := Eq.trans (by kernel_rfl) rfl
theorem bs51_3 (a b c : PV) (σ : Store) : buildSlice PP none 51 3 [(0, .p a), (1, .p b), (2, .p c)] σ = some (.p (.sl true 3 [a, b, c]), σ) := Eq.trans (by kernel_rfl) rfl
theorem bld47 (a b c : PV) : build PP 47 [(0, .p a), (1, .p b), (2, .p c)] = some (.agg [.p a, .p b, .p c]) := Eq.trans (by kernel_rfl) rfl
theorem zero47 : zeroOf PP 47 = some [.p (pI 0), .p (pI 0), .p .nilsl] := Eq.trans (by kernel_rfl) rfl
theorem st47_0 (a b c : PV) (x y z : DV) : store PP 0 47 (.ptr 0 0) (.agg [.p a, .p b, .p c]) [.mix [x, y, z]] = some [.mix [.p a, .p b, .p c]] := Eq.trans (by kernel_rfl) rfl
theorem st47_1 (a b c : PV) (x y z : DV) (m : Row) : store PP 0 47 (.ptr 1 0) (.agg [.p a, .p b, .p c]) [m, .mix [x, y, z]] = some [m, .mix [.p a, .p b, .p c]] := Eq.trans (by kernel_rfl) rfl
theorem ld47_1 (a b c : DV) (m : Row) : load PP 47 (.ptr 1 0) [m, .mix [a, b, c]] = some (.agg [a, b, c]) := Eq.trans (by kernel_rfl) rfl
def rcs : List PV := eInts [0, 0, 3, 0, 0, 1, 0, -1, 1, 0, 2, 1, 1, 1, 0, -1, 2, 0, 0, -1, 2, 1, 1, 2]
theorem len61 (σ : Store) : len PP 61 (.p (.sl false 6 rcs)) σ = some (.p (.int .i64 6)) := Eq.trans (by kernel_rfl) rfl
theorem ix61_0 : indexAddr PP 61 (.p (.sl false 6 rcs)) (.p (.int .i64 0)) = some (.pptr rcs 0) := Eq.trans (by kernel_rfl) rfl
theorem ix61_2 : indexAddr PP 61 (.p (.sl false 6 rcs)) (.p (.int .i64 2)) = some (.pptr rcs 8) := Eq.trans (by kernel_rfl) rfl
theorem ix61_5 : indexAddr PP 61 (.p (.sl false 6 rcs)) (.p (.int .i64 5)) = some (.pptr rcs 20) := Eq.trans (by kernel_rfl) rfl
theorem fa77_2 (x : DV) : fieldAddr PP 77 x 2 = shiftPtr x 2 := Eq.trans (by kernel_rfl) rfl
theorem lr0 (σ : Store) : load1 (.pptr rcs (0 + 2)) σ = some (.p (.int .i64 3)) := load1_pptr rfl σ
theorem lr2 (σ : Store) : load1 (.pptr rcs (8 + 2)) σ = some (.p (.int .i64 2)) := load1_pptr rfl σ
theorem lr5 (σ : Store) : load1 (.pptr rcs (20 + 2)) σ = some (.p (.int .i64 1)) := load1_pptr rfl σ
theorem xt0 (a b : DV) : extractV (.tuple [a, b]) 0 = some a := Eq.trans rfl rfl
theorem xt1 (a b : DV) : extractV (.tuple [a, b]) 1 = some b := Eq.trans rfl rfl

theorem E38 (σ : Store) : pureV CC 38 [] σ = some (.agg (ePair exP)) := pureV_run run38 rfl rfl
theorem E39 (σ : Store) : pureV CC 39 [] σ = some (.agg (ePair exB)) := pureV_run run39 rfl rfl
theorem E23a (σ : Store) : pureV CC 23 [.agg (ePair exP), .p (.sl true 3 (eInts [0, 0, 1]))] σ = some (.tuple [.agg [.p (pI 0), .p (pI 0), .p .nilsl], .p (.int .i64 0)]) := by
  rw [pureV_view (args' := [.agg (ePair exP), slI [0, 0, 1]]) rfl rfl]
  exact pureV_run run23a rfl rfl
theorem E23b (σ : Store) : pureV CC 23 [.agg (ePair exP), .p (.sl true 3 (eInts [0, 1, 1]))] σ = some (.tuple [.agg [.p (pI 0), .p (pI 1), .p (.sl false 2 [pI 0, pI 1])], .p (.int .i64 31)]) := by
  rw [pureV_view (args' := [.agg (ePair exP), slI [0, 1, 1]]) rfl rfl]
  exact pureV_run run23b rfl rfl
theorem E24 (σ : Store) : pureV CC 24 [.agg (ePair exP)] σ = some (.tuple [.p sim0, .p (.int .i64 0)]) := pureV_run run24 rfl rfl
theorem E29 (σ : Store) : pureV CC 29 [.agg (ePair exB)] σ = some (.tuple [.p (.sl false 6 rcs), .p (.int .i64 0)]) := pureV_run run29 rfl rfl
theorem E12 (σ : Store) : pureV CC 12 [.agg (ePair exP), .p (.sl true 3 (eInts [0, 1, 2]))] σ = some (.tuple [.p (eSl (some [0, 0, 1])), .p (.int .i64 0)]) := by
  rw [pureV_view (args' := [.agg (ePair exP), slI [0, 1, 2]]) rfl rfl]
  exact pureV_run run12 rfl rfl
theorem E40 (σ : Store) : pureV CC 40 [.agg [.p (pI 0), .p (pI 1), .p (.sl false 2 [pI 0, pI 1])], .agg [.p (.int .i64 0), .p (.int .i64 1), .p (.sl true 2 (eInts [0, 1]))]] σ = some (.p (.bool true)) := by
  rw [pureV_view (args' := [flt2, flt2]) rfl rfl]
  exact pureV_run run40 rfl rfl
theorem E27 (σ : Store) : pureV CC 27 [.p sim0, .p (.sl true 3 [.sl true 2 (eInts [0, 0]), .sl true 2 (eInts [1, 0]), .sl true 2 (eInts [2, 1])])] σ = some (.p (.bool true)) := by
  rw [pureV_view (args' := [.p sim0, .p sim0]) rfl rfl]
  exact pureV_run run27 rfl rfl
theorem E18 (σ : Store) : pureV CC 18 [.p (eSl (some [0, 0, 1])), .p (.sl true 3 (eInts [0, 0, 1]))] σ = some (.p (.bool true)) := by
  rw [pureV_view (args' := [.p (eSl (some [0, 0, 1])), .p (eSl (some [0, 0, 1]))]) rfl rfl]
  exact S18 rfl (by decide)

theorem F10_true : ∃ σ', F10 guardT 0 [] = some (.p (.bool true), σ') := by
  refine ⟨[.mix [.p (pI 0), .p (pI 0), .p .nilsl], .mix [.p (pI 0), .p (pI 1), .p (.sl false 2 [pI 0, pI 1])]], ?_⟩
  rw [F10_eq]
  simp only [pureFn_fn, List.append_nil, E38, E39, obind, bs22_3, E23a, xt0, xt1, zero47, List.length_nil, List.nil_append, st47_0, List.length_cons, List.cons_append, Nat.zero_add, E23b, st47_1, E24, E29, E12, neq_self, guard_ff, pickV_false, len61, condK_false, ld47_1, bs22_2, bld47, E40, guard_tt, bs51_3, E27, pickV_true, ix61_0, ix61_2, ix61_5, fa77_2, shift_pptr, load3, lr0, lr2, lr5, eql_self, E18]

theorem awake_true (σ : Store) : pureV CC 10 [] σ = some (.p (.bool true)) := by
  obtain ⟨σ', h⟩ := F10_true
  exact pureV_free rfl rfl (F10_call h) rfl

end Go.D
end
/- What a call's arguments are, as values of D: whatever reads as a pair and a path. -/
section
set_option linter.unusedVariables false
set_option linter.unusedSimpArgs false
set_option maxRecDepth 100000
namespace Go.D
open Go.ChangeShapes Go.WideShapes Go.ChangeAt Go.RowKit

/-- All cells that can be read. -/
def memOf (W : World) : Mem := fun b o => W.cell? ⟨b, o, none⟩

variable {H : Type} {enc : TypeId × Value → H} {W : World} {base : Nat}

theorem ul3 : PP.underlying 3 = some (.int .i64) := by kernel_rfl
theorem cells3 : PP.cellsOf 3 = 1 := by kernel_rfl
theorem cells22 : PP.cellsOf 22 = 1 := by kernel_rfl
theorem cells23 : PP.cellsOf 23 = 1 := by kernel_rfl
theorem cells25 : PP.cellsOf 25 = 3 := by kernel_rfl
theorem cells27 : PP.cellsOf 27 = 8 := by kernel_rfl
theorem cells100 : PP.cellsOf 100 = 3 := by kernel_rfl

theorem read_int {sp : Nat → Bool} {hd : Bool} {fuel : Nat} {c : Value} {x : DataW H × List MemPlace} (h : DataW.trod enc PP W 0 sp hd fuel 3 [c] = some x) : ∃ n, c = .int .i64 n := by
  cases fuel with
  | zero => simp [DataW.trod] at h
  | succ n =>
    unfold DataW.trod at h
    rw [ul3] at h
    cases c <;> simp at h
    exact ⟨_, by rw [h.1.1]⟩

theorem spot_of {r : Reach} {b0 : Nat} {t e : TypeId} {a : Addr} {len cap : Nat} (ht : PP.underlying t = some (.slice e)) (h : Cell.okWide PP W r b0 t (.slice (some a) len cap)) : a.spot = none := by
  simp only [Cell.okWide, ht, Cell.ok] at h
  exact h.2.2.2.1

theorem read_sl {r : Reach} {b0 : Nat} {hd : Bool} {fuel : Nat} {c : Value} {x : DataW H × List MemPlace} (hok : Cell.okWide PP W r b0 22 c) (h : DataW.trod enc PP W 0 (fun _ => true) hd fuel 22 [c] = some x) : ∃ o, PRel (memOf W) (eSl o) c := by
  rcases open_ints u22 ul3 cells3 h with ⟨hc, _⟩ | ⟨a, len, cap, zs, hc, _, hl, hm, hz, _, hcell, _⟩
  · injection hc with hc; subst hc
    exact ⟨none, .nilsl⟩
  · injection hc with hc; subst hc
    have hs := spot_of u22 hok
    simp only [if_true] at hz
    have hlen : (zs.take len).length = len := by rw [List.length_take]; omega
    refine ⟨some (zs.take len), ?_⟩
    have e : eSl (some (zs.take len)) = .sl false len (eInts (zs.take len)) := by simp only [eSl, hlen]
    rw [e]
    refine .sl (fun j => .int .i64 (zs.getD j 0)) (fun _ => hs) hl (by simp) (fun j hj => ?_) (fun j hj => ?_)
    · rw [ints_length, hlen] at hj
      have := hcell j (by omega)
      rwa [addr_add hs] at this
    · rw [ints_length, hlen] at hj
      have : (eInts (zs.take len))[j] = pI (zs.getD j 0) := by
        simp only [eInts, List.getElem_map, List.getElem_take]
        rw [List.getD_eq_getElem?_getD, List.getElem?_eq_getElem (by omega)]
        rfl
      rw [this]
      exact .int _ _

theorem read_edg {sp : Nat → Bool} {hd : Bool} {fuel : Nat} {cs : List Value} {x : DataW H × List MemPlace} (h : DataW.trod enc PP W 0 sp hd fuel 100 cs = some x) : ∃ e : Edg, cs = [.int .i64 e.f, .int .i64 e.t, .int .i64 e.a] := by
  obtain ⟨xs, n, _, _, hl, hlen, hf⟩ := DataW.trod_struct Go.Proofs.Try.underlying100 h
  rw [cells100] at hl
  match cs, hl with
  | [a, b, c], _ =>
    match xs, hlen with
    | [y0, y1, y2], _ =>
      have h0 : DataW.trod enc PP W 0 sp hd n 3 (List.take (PP.cellsOf 3) (List.drop 0 [a, b, c])) = some y0 := hf 0 _ rfl
      have h1 : DataW.trod enc PP W 0 sp hd n 3 (List.take (PP.cellsOf 3) (List.drop 1 [a, b, c])) = some y1 := hf 1 _ rfl
      have h2 : DataW.trod enc PP W 0 sp hd n 3 (List.take (PP.cellsOf 3) (List.drop 2 [a, b, c])) = some y2 := hf 2 _ rfl
      rw [cells3] at h0 h1 h2
      obtain ⟨p, rfl⟩ := read_int h0
      obtain ⟨q, rfl⟩ := read_int h1
      obtain ⟨r, rfl⟩ := read_int h2
      exact ⟨⟨p, q, r⟩, rfl⟩

theorem read_es {r : Reach} {b0 : Nat} {hd : Bool} {fuel : Nat} {c : Value} {x : DataW H × List MemPlace} (hok : Cell.okWide PP W r b0 23 c) (h : DataW.trod enc PP W 0 (fun _ => true) hd fuel 23 [c] = some x) : ∃ o, PRel (memOf W) (eEs o) c := by
  rcases DataW.trod_slice u23 h with ⟨hc, _⟩ | ⟨a, len, cap, elems, rest, n, _, hc, _, _, hl, hm, hlen, hel, _, _⟩
  · injection hc with hc; subst hc
    exact ⟨none, .nilsl⟩
  · injection hc with hc; subst hc
    have hs := spot_of u23 hok
    rw [cells100] at hel
    have each : ∀ i, ∃ e : Edg, i < len → W.cell? ⟨a.block, a.off + i * 3, none⟩ = some (.int .i64 e.f) ∧ W.cell? ⟨a.block, a.off + i * 3 + 1, none⟩ = some (.int .i64 e.t) ∧ W.cell? ⟨a.block, a.off + i * 3 + 2, none⟩ = some (.int .i64 e.a) := by
      intro i
      by_cases hi : i < len
      · have h1 := hel i hi
        rw [List.getElem?_eq_getElem (by omega)] at h1
        obtain ⟨cs, h2, h3⟩ := Option.bind_eq_some_iff.1 h1
        obtain ⟨e, rfl⟩ := read_edg h3
        obtain ⟨_, _, h4⟩ := World.cells?_some h2
        refine ⟨e, fun _ => ⟨?_, ?_, ?_⟩⟩
        · have := h4 0 (by omega); rw [addr_add hs, addr_add rfl] at this; exact this
        · have := h4 1 (by omega); rw [addr_add hs, addr_add rfl] at this; exact this
        · have := h4 2 (by omega); rw [addr_add hs, addr_add rfl] at this; exact this
      · exact ⟨default, fun h => absurd h hi⟩
    obtain ⟨f, hf⟩ := Classical.axiomOfChoice each
    have hll : ((List.range len).map f).length = len := by simp
    refine ⟨some ((List.range len).map f), ?_⟩
    have e : eEs (some ((List.range len).map f)) = .sl false len (eEdgs ((List.range len).map f)) := by simp only [eEs, hll]
    rw [e]
    have hget : ∀ i, i < len → (eEdgs ((List.range len).map f))[i * 3]? = some (pI (f i).f) ∧ (eEdgs ((List.range len).map f))[i * 3 + 1]? = some (pI (f i).t) ∧ (eEdgs ((List.range len).map f))[i * 3 + 2]? = some (pI (f i).a) := by
      intro i hi
      have := edgs_get ((List.range len).map f) i (by rw [hll]; exact hi)
      simpa using this
    refine .sl (fun j => .int .i64 (if j % 3 = 0 then (f (j / 3)).f else if j % 3 = 1 then (f (j / 3)).t else (f (j / 3)).a)) (fun _ => hs) hl (by simp) (fun j hj => ?_) (fun j hj => ?_)
    · rw [edgs_length, hll] at hj
      obtain ⟨h0, h1, h2⟩ := hf (j / 3) (by omega)
      have hj3 : j = j / 3 * 3 + j % 3 := by omega
      show W.cell? _ = _
      by_cases c0 : j % 3 = 0
      · have : a.off + j = a.off + j / 3 * 3 := by omega
        rw [this]; simpa [c0] using h0
      · by_cases c1 : j % 3 = 1
        · have : a.off + j = a.off + j / 3 * 3 + 1 := by omega
          rw [this]; simpa [c1] using h1
        · have : a.off + j = a.off + j / 3 * 3 + 2 := by omega
          rw [this]; simpa [c0, c1] using h2
    · have hj' := hj
      rw [edgs_length, hll] at hj
      obtain ⟨h0, h1, h2⟩ := hget (j / 3) (by omega)
      have hx := List.getElem?_eq_getElem hj'
      by_cases c0 : j % 3 = 0
      · have : j / 3 * 3 = j := by omega
        rw [this, hx] at h0
        injection h0 with h0
        rw [h0]; simp only [c0, if_true]; exact .int _ _
      · by_cases c1 : j % 3 = 1
        · have : j / 3 * 3 + 1 = j := by omega
          rw [this, hx] at h1
          injection h1 with h1
          rw [h1]; simp only [c1, if_true, if_neg (show ¬ (1 = 0) by decide)]; exact .int _ _
        · have : j / 3 * 3 + 2 = j := by omega
          rw [this, hx] at h2
          injection h2 with h2
          rw [h2]; simp only [c0, c1, if_false]; exact .int _ _

theorem read_gr {hd : Bool} {fuel : Nat} {c0 c1 c2 : Value} {x : DataW H × List MemPlace} {r : Reach} {b0 : Nat} (h1 : Cell.okWide PP W r b0 22 c1) (h2 : Cell.okWide PP W r b0 23 c2)
    (h : DataW.trod enc PP W 0 (fun _ => true) hd fuel 25 [c0, c1, c2] = some x) : ∃ g : Gr, PRel (memOf W) (pI g.n) c0 ∧ PRel (memOf W) (eSl g.init) c1 ∧ PRel (memOf W) (eEs g.edges) c2 := by
  obtain ⟨xs, n, _, _, hl, hlen, hf⟩ := DataW.trod_struct Go.Proofs.Try.underlying25 h
  match xs, hlen with
  | [y0, y1, y2], _ =>
    have e0 : DataW.trod enc PP W 0 (fun _ => true) hd n 3 (List.take (PP.cellsOf 3) (List.drop 0 [c0, c1, c2])) = some y0 := hf 0 _ rfl
    have e1 : DataW.trod enc PP W 0 (fun _ => true) hd n 22 (List.take (PP.cellsOf 22) (List.drop 1 [c0, c1, c2])) = some y1 := hf 1 _ rfl
    have e2 : DataW.trod enc PP W 0 (fun _ => true) hd n 23 (List.take (PP.cellsOf 23) (List.drop 2 [c0, c1, c2])) = some y2 := hf 2 _ rfl
    rw [cells3] at e0
    rw [cells22] at e1
    rw [cells23] at e2
    obtain ⟨m, rfl⟩ := read_int e0
    obtain ⟨o1, r1⟩ := read_sl h1 e1
    obtain ⟨o2, r2⟩ := read_es h2 e2
    exact ⟨⟨m, o1, o2⟩, .int _ _, r1, r2⟩

theorem types27 : PP.cellTypes PP.depth 27 = some [3, 22, 23, 3, 22, 23, 22, 22] := by kernel_rfl

theorem read_pair {hd : Bool} {r : Reach} {b0 : Nat} {v : Value} {d : DataW H} {ps : List MemPlace} (hok : Value.okWide PP W r b0 27 v) (h : DataW.Trod enc PP W 0 (fun _ => true) hd 27 v d ps) :
    ∃ p : Pair, VRel (fun _ _ => none) (memOf W) (.agg (ePair p)) v := by
  simp only [Value.okWide, Go.Proofs.Try.underlying27] at hok
  obtain ⟨cs, rfl, hsz, ts, hts, _, hcell⟩ := hok
  rw [types27] at hts
  injection hts with hts; subst hts
  rw [cells27] at hsz
  obtain ⟨fuel, h⟩ := h
  obtain ⟨l⟩ := cs
  simp only [List.size_toArray] at hsz
  match l, hsz with
  | [c0, c1, c2, c3, c4, c5, c6, c7], _ =>
    have k1 : Cell.okWide PP W r b0 22 c1 := by obtain ⟨u, hu, hk⟩ := hcell 1 c1 rfl; cases hu; exact hk
    have k2 : Cell.okWide PP W r b0 23 c2 := by obtain ⟨u, hu, hk⟩ := hcell 2 c2 rfl; cases hu; exact hk
    have k4 : Cell.okWide PP W r b0 22 c4 := by obtain ⟨u, hu, hk⟩ := hcell 4 c4 rfl; cases hu; exact hk
    have k5 : Cell.okWide PP W r b0 23 c5 := by obtain ⟨u, hu, hk⟩ := hcell 5 c5 rfl; cases hu; exact hk
    have k6 : Cell.okWide PP W r b0 22 c6 := by obtain ⟨u, hu, hk⟩ := hcell 6 c6 rfl; cases hu; exact hk
    have k7 : Cell.okWide PP W r b0 22 c7 := by obtain ⟨u, hu, hk⟩ := hcell 7 c7 rfl; cases hu; exact hk
    obtain ⟨xs, n, _, _, hl, hlen, hf⟩ := DataW.trod_struct Go.Proofs.Try.underlying27 h
    match xs, hlen with
    | [y0, y1, y2, y3], _ =>
      have e0 : DataW.trod enc PP W 0 (fun _ => true) hd n 25 (List.take (PP.cellsOf 25) (List.drop 0 [c0, c1, c2, c3, c4, c5, c6, c7])) = some y0 := hf 0 _ rfl
      have e1 : DataW.trod enc PP W 0 (fun _ => true) hd n 25 (List.take (PP.cellsOf 25) (List.drop 3 [c0, c1, c2, c3, c4, c5, c6, c7])) = some y1 := hf 1 _ rfl
      have e2 : DataW.trod enc PP W 0 (fun _ => true) hd n 22 (List.take (PP.cellsOf 22) (List.drop 6 [c0, c1, c2, c3, c4, c5, c6, c7])) = some y2 := hf 2 _ rfl
      have e3 : DataW.trod enc PP W 0 (fun _ => true) hd n 22 (List.take (PP.cellsOf 22) (List.drop 7 [c0, c1, c2, c3, c4, c5, c6, c7])) = some y3 := hf 3 _ rfl
      rw [cells25] at e0 e1
      rw [cells22] at e2 e3
      obtain ⟨g0, a0, a1, a2⟩ := read_gr k1 k2 e0
      obtain ⟨g1, b0, b1, b2⟩ := read_gr k4 k5 e1
      obtain ⟨o6, r6⟩ := read_sl k6 e2
      obtain ⟨o7, r7⟩ := read_sl k7 e3
      refine ⟨⟨g0, g1, o6, o7⟩, .agg rfl fun j h1 h2 => ?_⟩
      match j, h1 with
      | 0, _ => exact .p a0
      | 1, _ => exact .p a1
      | 2, _ => exact .p a2
      | 3, _ => exact .p b0
      | 4, _ => exact .p b1
      | 5, _ => exact .p b2
      | 6, _ => exact .p r6
      | 7, _ => exact .p r7

theorem read_path {hd : Bool} {r : Reach} {b0 : Nat} {v : Value} {d : DataW H} {ps : List MemPlace} (hok : Value.okWide PP W r b0 22 v) (h : DataW.Trod enc PP W 0 (fun _ => true) hd 22 v d ps) :
    ∃ o, VRel (fun _ _ => none) (memOf W) (.p (eSl o)) v := by
  obtain ⟨a0, len, cap, rfl⟩ := okWide_slice u22 hok
  have hk : Cell.okWide PP W r b0 22 (.slice a0 len cap) := by simpa only [Value.okWide, u22] using hok
  obtain ⟨fuel, h⟩ := h
  obtain ⟨o, ho⟩ := read_sl hk (by simpa [Value.cells] using h)
  exact ⟨o, .p ho⟩

/-! ### What a call leaves of what was there -/
theorem below_of {C : Nat → Nat → Prop} {m : Nat → Prop} {w w' : World} (h : Frm C m w w') (hC : ∀ b o, ¬ C b o) (hm : ∀ b, ¬ m b) : Below w.heap.size w w' := by
  refine ⟨h.os, h.tape, h.output, h.size, fun k hk => ?_⟩
  have := h.obj k hk
  rw [Array.getElem?_eq_getElem hk] at this ⊢
  cases ho : w.heap[k] with
  | cells c e f =>
    rw [ho] at this
    cases hx : w'.heap[k]? with
    | none => rw [hx] at this; simp [ObjKept] at this
    | some o =>
      rw [hx] at this
      cases o with
      | cells c' e' f' =>
        obtain ⟨h1, h2, h3, h4⟩ := this
        subst h1; subst h2
        have : c' = c := Array.ext_getElem? fun i => by rw [h4 i (hC k i)]
        rw [this]
      | _ => simp [ObjKept] at this
  | map es c =>
    rw [ho] at this
    cases hx : w'.heap[k]? with
    | none => rw [hx] at this; simp [ObjKept] at this
    | some o =>
      rw [hx] at this
      cases o with
      | map es' c' =>
        rcases this with h1 | ⟨h1, h2⟩
        · exact absurd h1 (hm k)
        · rw [h1, h2]
      | _ => simp [ObjKept] at this
  | _ =>
    rw [ho] at this
    cases hx : w'.heap[k]? with
    | none => rw [hx] at this; simp [ObjKept] at this
    | some o => rw [hx] at this; cases o <;> simp [ObjKept] at this <;> simp_all

end Go.D
end
/- RefinePaths: the row, if awake answers true. -/
section
set_option linter.unusedVariables false
set_option linter.unusedSimpArgs false
set_option maxRecDepth 100000
namespace Go.D
open Go.ChangeShapes Go.WideShapes Go.ChangeAt Go.RowKit

theorem mixed_ok : PP.follows .mixedOrders = true := by kernel_rfl
theorem body80 : Go.Proofs.Try.f80.body = some (backCode 22 3 89 3 4 0 "iter.go:28" "iter.go:29") := by kernel_rfl
theorem back80 : SeqOk PP 80 (.backward false 1) :=
  back_ok Go.Proofs.Try.func80 (by decide +kernel) body80 (by kernel_rfl) (by kernel_rfl) ⟨by kernel_rfl, by kernel_rfl, ⟨1, by kernel_rfl⟩, by kernel_rfl, by kernel_rfl⟩

theorem seqs_ok : ∀ g f kind, (pol g).seq f = some kind → SeqOk PP f kind := by
  intro g f kind h
  by_cases hg : g = 12
  · subst hg
    have h1 : (pol 12).seq f = if f = 80 then some (.backward false 1) else none := rfl
    rw [h1] at h
    split at h
    · rename_i hf
      subst hf
      injection h with h; subst h
      exact back80
    · exact absurd h (by simp)
  · have h1 : (pol g).seq = fun _ => none := by
      unfold pol
      split <;> first | rfl | exact absurd rfl hg
    rw [h1] at h
    exact absurd h (by simp)

/-- What D answers at the empty store, the program answers in any world. -/
theorem calls_of {f : FuncId} {args : List DV} {σ' : Store} {b : Bool} (h : CC 0 f args [] = some (.p (.bool b), σ')) {W : World} {vs : Array Value} (hv : Vals (fun _ _ => none) (memOf W) args vs) :
    Calls PP f vs W fun e W' => e = .returned (.bool b) ∧ Below W.heap.size W W' := by
  obtain ⟨k, hk⟩ := lim_some h
  have hs : SRel [] (fun _ _ => none) (memOf W) W := srel_bare fun b o v h => h
  obtain ⟨_, hc⟩ := callK_ok mixed_ok seqs_ok k _ _ _ _ _ _ (hk k (Nat.le_refl _)) (Nat.zero_le _) _ _ _ _ hs hv
  have hw := callsIn_wide.1 (hc Fence.wide 0 Free.wide)
  refine hw.mono ?_
  rintro e W' ⟨v', rfl, L', M', hp, hr⟩
  refine ⟨by rw [bool_of hr], below_of hp.frm ?_ ?_⟩
  · rintro b o ⟨r, row, l, _, ⟨h, _⟩, _⟩
    exact absurd h (by simp)
  · rintro b ⟨r, es, l, _, ⟨h, _⟩, _⟩
    exact absurd h (by simp)

theorem own_ok : ownKnob PP.godebug = none := by kernel_rfl
theorem laidOut_ok : laidOutB PP = true := by kernel_rfl
theorem ul4 : PP.underlying 4 = some .bool := by kernel_rfl

/-- The awake call. -/
def Awake : Prop := ∀ σ, pureV CC 10 [] σ = some (.p (.bool true))

theorem refinePaths_calls (hawake : Awake) {H : Type} {enc : TypeId × Value → H} {W : World} {base : Nat} {args : Array Value} {ds : List (DataW H)} {ps : List MemPlace}
    (hval : ∀ (j : Nat) t v, ([27, 22] : List TypeId).toArray[j]? = some t → args[j]? = some v → Value.okWide PP W .any base t v)
    (hA : DataW.TrodAll enc PP W 0 (fun _ => true) true [27, 22] args.toList ds ps) :
    Calls PP 3 args W fun e W' => e = .returned (.bool true) ∧ Below W.heap.size W W' := by
  obtain ⟨v0, v1, d0, d1, p0, p1, rfl, rfl, rfl, h0, h1⟩ := trodAll_two hA
  obtain ⟨p, hp⟩ := read_pair (hval 0 27 v0 rfl rfl) h0
  obtain ⟨o, ho⟩ := read_path (hval 1 22 v1 rfl rfl) h1
  obtain ⟨σ', hc⟩ := call3 hawake p o
  refine calls_of hc ⟨rfl, fun j h1 h2 => ?_⟩
  match j, h1 with
  | 0, _ => exact hp
  | 1, _ => exact ho

end Go.D
end
/- Equations of functions 66, 74, 73, 60, 72, 62, 36, 34, 35, 37, 8, printed by gen.py. -/
section
set_option linter.unusedVariables false
set_option maxRecDepth 10000
namespace Go.D
noncomputable def c66_0 : Code := bodyOf Go.Proofs.Try.f66
noncomputable def a66_0 : Ann := (pol 66).ann
noncomputable def c66_1 : Code := Code.fstC c66_0
noncomputable def a66_1 : Ann := Ann.left a66_0
noncomputable def c66_2 : Code := Code.sndC c66_0
noncomputable def a66_2 : Ann := Ann.right a66_0
noncomputable def c66_3 : Code := Code.fstC c66_2
noncomputable def a66_3 : Ann := Ann.left a66_2
noncomputable def c66_25 : Code := Code.sndC c66_2
noncomputable def a66_25 : Ann := Ann.right a66_2
noncomputable def c66_4 : Code := Code.fstC c66_3
noncomputable def a66_4 : Ann := Ann.left a66_3
noncomputable def c66_5 : Code := Code.sndC c66_3
noncomputable def a66_5 : Ann := Ann.right a66_3
noncomputable def c66_6 : Code := Code.fstC c66_5
noncomputable def a66_6 : Ann := Ann.left a66_5
noncomputable def c66_7 : Code := Code.fstC c66_6
noncomputable def a66_7 : Ann := Ann.left a66_6
noncomputable def c66_8 : Code := Code.fstC c66_7
noncomputable def a66_8 : Ann := Ann.left a66_7
noncomputable def c66_9 : Code := Code.sndC c66_7
noncomputable def a66_9 : Ann := Ann.right a66_7
noncomputable def c66_10 : Code := Code.fstC c66_9
noncomputable def a66_10 : Ann := Ann.left a66_9
noncomputable def c66_13 : Code := Code.sndC c66_9
noncomputable def a66_13 : Ann := Ann.right a66_9
noncomputable def c66_11 : Code := Code.fstC c66_10
noncomputable def a66_11 : Ann := Ann.left a66_10
noncomputable def c66_12 : Code := Code.sndC c66_10
noncomputable def a66_12 : Ann := Ann.right a66_10
noncomputable def c66_14 : Code := Code.fstC c66_13
noncomputable def a66_14 : Ann := Ann.left a66_13
noncomputable def c66_24 : Code := Code.sndC c66_13
noncomputable def a66_24 : Ann := Ann.right a66_13
noncomputable def c66_15 : Code := Code.fstC c66_14
noncomputable def a66_15 : Ann := Ann.left a66_14
noncomputable def c66_16 : Code := Code.fstC c66_15
noncomputable def a66_16 : Ann := Ann.left a66_15
noncomputable def c66_17 : Code := Code.sndC c66_15
noncomputable def a66_17 : Ann := Ann.right a66_15
noncomputable def c66_18 : Code := Code.fstC c66_17
noncomputable def a66_18 : Ann := Ann.left a66_17
noncomputable def c66_19 : Code := Code.sndC c66_17
noncomputable def a66_19 : Ann := Ann.right a66_17
noncomputable def c66_20 : Code := Code.fstC c66_19
noncomputable def a66_20 : Ann := Ann.left a66_19
noncomputable def c66_23 : Code := Code.sndC c66_19
noncomputable def a66_23 : Ann := Ann.right a66_19
noncomputable def c66_21 : Code := Code.fstC c66_20
noncomputable def a66_21 : Ann := Ann.left a66_20
noncomputable def c66_22 : Code := Code.sndC c66_20
noncomputable def a66_22 : Ann := Ann.right a66_20
noncomputable def c66_26 : Code := Code.fstC c66_25
noncomputable def a66_26 : Ann := Ann.left a66_25
noncomputable def c66_27 : Code := Code.sndC c66_25
noncomputable def a66_27 : Ann := Ann.right a66_25
noncomputable def f66_L0 (G : GuardT) (lo : Nat) (x0 x1 x2 x3 x15 x16 : DV) (σ : Store) : Option (DV × Store) :=
  codeF G PP (pol 66) CC lo (.loop c66_7) a66_6 [x0, x1, x2, x3, ud, ud, ud, ud, ud, ud, ud, ud, ud, ud, ud, x15, x16, ud, ud, ud, ud, ud, ud, ud, ud, ud, ud, ud, ud, ud] σ
   (blockC 0 a66_5 (seqC G PP (pol 66) CC lo c66_25 a66_25 (finR PP Go.Proofs.Try.f66.results.toList)))
noncomputable def F66 (G : GuardT) (lo : Nat) (x0 x1 x2 x3 : DV) (σ : Store) : Option (DV × Store) :=
  codeF G PP (pol 66) CC lo c66_0 a66_0 [x0, x1, x2, x3, ud, ud, ud, ud, ud, ud, ud, ud, ud, ud, ud, ud, ud, ud, ud, ud, ud, ud, ud, ud, ud, ud, ud, ud, ud, ud] σ (finR PP Go.Proofs.Try.f66.results.toList)
theorem f66_L0_eq (G : GuardT) (hG : GuardOk G) (lo : Nat) (x0 x1 x2 x3 x15 x16 : DV) (σ : Store) : f66_L0 G lo x0 x1 x2 x3 x15 x16 σ =
    (binOp PP .lss 3 x16 x15).bind fun x17 =>
    condK x17
     (
      (pureFn CC (DV.fn 45 []) [x0, x2, x16] σ).bind fun x22 =>
      G _ x22 true (some (x3, σ)) σ fun x24 σ1 =>
      G _ x22 true (some (x1, σ1)) σ1 fun x25 σ2 =>
      G _ x22 true (some (x16, σ2)) σ2 fun x26 σ3 =>
      G _ x22 true ((pureFn CC x24 [x25, x26] σ3).bind fun v => some (v, σ3)) σ3 fun x27 σ4 =>
      (pickV x22 x27 (DV.p (PV.bool false))).bind fun x28 =>
      condK x28
       (
        some ((DV.p (PV.bool true)), σ4)
       )
       (
        (binOp PP .add 3 x16 (DV.p (PV.int IntKind.i64 (1)))).bind fun x29 =>
        f66_L0 G lo x0 x1 x2 x3 x15 x29 σ4
       )
     )
     (
      some ((DV.p (PV.bool false)), σ)
     ) := (loopF_eq G hG).trans (by kernel_rfl)
theorem F66_eq (G : GuardT) (lo : Nat) (x0 x1 x2 x3 : DV) (σ : Store) : F66 G lo x0 x1 x2 x3 σ =
    (nilCheckV x0).bind fun x11 =>
    (fieldAddr PP 118 x11 0).bind fun x12 =>
    (fieldAddr PP 27 x12 1).bind fun x13 =>
    (fieldAddr PP 25 x13 0).bind fun x14 =>
    (load PP 3 x14 σ).bind fun x15 =>
    f66_L0 G lo x0 x1 x2 x3 x15 (DV.p (PV.int IntKind.i64 (0))) σ := by kernel_rfl
theorem F66_call {lo : Nat} {x0 x1 x2 x3 : DV} {σ : Store} {r : DV × Store} (h : F66 guardT lo x0 x1 x2 x3 σ = some r) : CC lo 66 [x0, x1, x2, x3] σ = some r :=
  callL_run Go.Proofs.Try.func66 (by decide +kernel) rfl (by decide +kernel) h
noncomputable def c74_0 : Code := bodyOf Go.Proofs.Try.f74
noncomputable def a74_0 : Ann := (pol 74).ann
noncomputable def c74_1 : Code := Code.fstC c74_0
noncomputable def a74_1 : Ann := Ann.left a74_0
noncomputable def c74_2 : Code := Code.sndC c74_0
noncomputable def a74_2 : Ann := Ann.right a74_0
noncomputable def c74_3 : Code := Code.fstC c74_2
noncomputable def a74_3 : Ann := Ann.left a74_2
noncomputable def c74_4 : Code := Code.sndC c74_2
noncomputable def a74_4 : Ann := Ann.right a74_2
noncomputable def F74 (G : GuardT) (lo : Nat) (x0 x1 x2 : DV) (σ : Store) : Option (DV × Store) :=
  codeF G PP (pol 74) CC lo c74_0 a74_0 [x0, x1, x2, ud, ud, ud, ud, ud, ud, ud, ud] σ (finR PP Go.Proofs.Try.f74.results.toList)
theorem F74_eq (G : GuardT) (lo : Nat) (x0 x1 x2 : DV) (σ : Store) : F74 G lo x0 x1 x2 σ =
    (load PP 115 x2 σ).bind fun x6 =>
    (build PP 111 [(0, x0), (1, x1)]).bind fun x9 =>
    (lookup PP 115 x6 x9 false σ).bind fun x10 =>
    some (x10, σ) := by kernel_rfl
theorem F74_call {lo : Nat} {x0 x1 x2 : DV} {σ : Store} {r : DV × Store} (h : F74 guardT lo x0 x1 x2 σ = some r) : CC lo 74 [x0, x1, x2] σ = some r :=
  callL_run Go.Proofs.Try.func74 (by decide +kernel) rfl (by decide +kernel) h
noncomputable def c73_0 : Code := bodyOf Go.Proofs.Try.f73
noncomputable def a73_0 : Ann := (pol 73).ann
noncomputable def c73_1 : Code := Code.fstC c73_0
noncomputable def a73_1 : Ann := Ann.left a73_0
noncomputable def c73_2 : Code := Code.sndC c73_0
noncomputable def a73_2 : Ann := Ann.right a73_0
noncomputable def c73_3 : Code := Code.fstC c73_2
noncomputable def a73_3 : Ann := Ann.left a73_2
noncomputable def c73_37 : Code := Code.sndC c73_2
noncomputable def a73_37 : Ann := Ann.right a73_2
noncomputable def c73_4 : Code := Code.fstC c73_3
noncomputable def a73_4 : Ann := Ann.left a73_3
noncomputable def c73_5 : Code := Code.sndC c73_3
noncomputable def a73_5 : Ann := Ann.right a73_3
noncomputable def c73_6 : Code := Code.fstC c73_5
noncomputable def a73_6 : Ann := Ann.left a73_5
noncomputable def c73_7 : Code := Code.fstC c73_6
noncomputable def a73_7 : Ann := Ann.left a73_6
noncomputable def c73_8 : Code := Code.fstC c73_7
noncomputable def a73_8 : Ann := Ann.left a73_7
noncomputable def c73_9 : Code := Code.sndC c73_7
noncomputable def a73_9 : Ann := Ann.right a73_7
noncomputable def c73_10 : Code := Code.fstC c73_9
noncomputable def a73_10 : Ann := Ann.left a73_9
noncomputable def c73_13 : Code := Code.sndC c73_9
noncomputable def a73_13 : Ann := Ann.right a73_9
noncomputable def c73_11 : Code := Code.fstC c73_10
noncomputable def a73_11 : Ann := Ann.left a73_10
noncomputable def c73_12 : Code := Code.sndC c73_10
noncomputable def a73_12 : Ann := Ann.right a73_10
noncomputable def c73_14 : Code := Code.fstC c73_13
noncomputable def a73_14 : Ann := Ann.left a73_13
noncomputable def c73_36 : Code := Code.sndC c73_13
noncomputable def a73_36 : Ann := Ann.right a73_13
noncomputable def c73_15 : Code := Code.fstC c73_14
noncomputable def a73_15 : Ann := Ann.left a73_14
noncomputable def c73_16 : Code := Code.fstC c73_15
noncomputable def a73_16 : Ann := Ann.left a73_15
noncomputable def c73_17 : Code := Code.sndC c73_15
noncomputable def a73_17 : Ann := Ann.right a73_15
noncomputable def c73_18 : Code := Code.fstC c73_17
noncomputable def a73_18 : Ann := Ann.left a73_17
noncomputable def c73_25 : Code := Code.sndC c73_17
noncomputable def a73_25 : Ann := Ann.right a73_17
noncomputable def c73_19 : Code := Code.fstC c73_18
noncomputable def a73_19 : Ann := Ann.left a73_18
noncomputable def c73_20 : Code := Code.sndC c73_18
noncomputable def a73_20 : Ann := Ann.right a73_18
noncomputable def c73_21 : Code := Code.fstC c73_20
noncomputable def a73_21 : Ann := Ann.left a73_20
noncomputable def c73_24 : Code := Code.sndC c73_20
noncomputable def a73_24 : Ann := Ann.right a73_20
noncomputable def c73_22 : Code := Code.fstC c73_21
noncomputable def a73_22 : Ann := Ann.left a73_21
noncomputable def c73_23 : Code := Code.sndC c73_21
noncomputable def a73_23 : Ann := Ann.right a73_21
noncomputable def c73_26 : Code := Code.fstC c73_25
noncomputable def a73_26 : Ann := Ann.left a73_25
noncomputable def c73_27 : Code := Code.sndC c73_25
noncomputable def a73_27 : Ann := Ann.right a73_25
noncomputable def c73_28 : Code := Code.fstC c73_27
noncomputable def a73_28 : Ann := Ann.left a73_27
noncomputable def c73_29 : Code := Code.sndC c73_27
noncomputable def a73_29 : Ann := Ann.right a73_27
noncomputable def c73_30 : Code := Code.fstC c73_29
noncomputable def a73_30 : Ann := Ann.left a73_29
noncomputable def c73_31 : Code := Code.sndC c73_29
noncomputable def a73_31 : Ann := Ann.right a73_29
noncomputable def c73_32 : Code := Code.fstC c73_31
noncomputable def a73_32 : Ann := Ann.left a73_31
noncomputable def c73_35 : Code := Code.sndC c73_31
noncomputable def a73_35 : Ann := Ann.right a73_31
noncomputable def c73_33 : Code := Code.fstC c73_32
noncomputable def a73_33 : Ann := Ann.left a73_32
noncomputable def c73_34 : Code := Code.sndC c73_32
noncomputable def a73_34 : Ann := Ann.right a73_32
noncomputable def c73_38 : Code := Code.fstC c73_37
noncomputable def a73_38 : Ann := Ann.left a73_37
noncomputable def c73_45 : Code := Code.sndC c73_37
noncomputable def a73_45 : Ann := Ann.right a73_37
noncomputable def c73_39 : Code := Code.fstC c73_38
noncomputable def a73_39 : Ann := Ann.left a73_38
noncomputable def c73_40 : Code := Code.sndC c73_38
noncomputable def a73_40 : Ann := Ann.right a73_38
noncomputable def c73_41 : Code := Code.fstC c73_40
noncomputable def a73_41 : Ann := Ann.left a73_40
noncomputable def c73_44 : Code := Code.sndC c73_40
noncomputable def a73_44 : Ann := Ann.right a73_40
noncomputable def c73_42 : Code := Code.fstC c73_41
noncomputable def a73_42 : Ann := Ann.left a73_41
noncomputable def c73_43 : Code := Code.sndC c73_41
noncomputable def a73_43 : Ann := Ann.right a73_41
noncomputable def c73_46 : Code := Code.fstC c73_45
noncomputable def a73_46 : Ann := Ann.left a73_45
noncomputable def c73_47 : Code := Code.sndC c73_45
noncomputable def a73_47 : Ann := Ann.right a73_45
noncomputable def f73_L0 (G : GuardT) (lo : Nat) (x0 x1 x9 x10 x11 : DV) (σ : Store) : Option (DV × Store) :=
  codeF G PP (pol 73) CC lo (.loop c73_7) a73_6 [x0, x1, ud, ud, ud, ud, ud, ud, ud, x9, x10, x11, ud, ud, ud, ud, ud, ud, ud, ud, ud, ud, ud, ud, ud, ud, ud, ud, ud, ud, ud, ud, ud, ud, ud, ud] σ
   (blockC 0 a73_5 (seqC G PP (pol 73) CC lo c73_37 a73_37 (finR PP Go.Proofs.Try.f73.results.toList)))
noncomputable def F73 (G : GuardT) (lo : Nat) (x0 x1 : DV) (σ : Store) : Option (DV × Store) :=
  codeF G PP (pol 73) CC lo c73_0 a73_0 [x0, x1, ud, ud, ud, ud, ud, ud, ud, ud, ud, ud, ud, ud, ud, ud, ud, ud, ud, ud, ud, ud, ud, ud, ud, ud, ud, ud, ud, ud, ud, ud, ud, ud, ud, ud] σ (finR PP Go.Proofs.Try.f73.results.toList)
theorem f73_L0_eq (G : GuardT) (hG : GuardOk G) (lo : Nat) (x0 x1 x9 x10 x11 : DV) (σ : Store) : f73_L0 G lo x0 x1 x9 x10 x11 σ =
    (binOp PP .lss 3 x11 x10).bind fun x12 =>
    condK x12
     (
      (indexAddr PP 22 x9 x11).bind fun x14 =>
      (load PP 3 x14 σ).bind fun x15 =>
      (len PP 22 x1 σ).bind fun x18 =>
      (binOp PP .geq 3 x11 x18).bind fun x19 =>
      condK x19
       (
        some ((DV.p (PV.int IntKind.i64 (1))), σ)
       )
       (
        (indexAddr PP 22 x1 x11).bind fun x22 =>
        (load PP 3 x22 σ).bind fun x23 =>
        (pureFn CC (DV.fn 68 []) [x15, x23] σ).bind fun x26 =>
        (binOp PP .neq 3 x26 (DV.p (PV.int IntKind.i64 (0)))).bind fun x28 =>
        condK x28
         (
          some (x26, σ)
         )
         (
          (binOp PP .add 3 x11 (DV.p (PV.int IntKind.i64 (1)))).bind fun x30 =>
          f73_L0 G lo x0 x1 x9 x10 x30 σ
         )
       )
     )
     (
      (len PP 22 x0 σ).bind fun x32 =>
      (len PP 22 x1 σ).bind fun x34 =>
      (binOp PP .lss 3 x32 x34).bind fun x35 =>
      condK x35
       (
        some ((DV.p (PV.int IntKind.i64 (-1))), σ)
       )
       (
        some ((DV.p (PV.int IntKind.i64 (0))), σ)
       )
     ) := (loopF_eq G hG).trans (by kernel_rfl)
theorem F73_eq (G : GuardT) (lo : Nat) (x0 x1 : DV) (σ : Store) : F73 G lo x0 x1 σ =
    (len PP 22 x0 σ).bind fun x10 =>
    f73_L0 G lo x0 x1 x0 x10 (DV.p (PV.int IntKind.i64 (0))) σ := by kernel_rfl
theorem F73_call {lo : Nat} {x0 x1 : DV} {σ : Store} {r : DV × Store} (h : F73 guardT lo x0 x1 σ = some r) : CC lo 73 [x0, x1] σ = some r :=
  callL_run Go.Proofs.Try.func73 (by decide +kernel) rfl (by decide +kernel) h
noncomputable def c60_0 : Code := bodyOf Go.Proofs.Try.f60
noncomputable def a60_0 : Ann := (pol 60).ann
noncomputable def c60_1 : Code := Code.fstC c60_0
noncomputable def a60_1 : Ann := Ann.left a60_0
noncomputable def c60_2 : Code := Code.sndC c60_0
noncomputable def a60_2 : Ann := Ann.right a60_0
noncomputable def c60_3 : Code := Code.fstC c60_2
noncomputable def a60_3 : Ann := Ann.left a60_2
noncomputable def c60_23 : Code := Code.sndC c60_2
noncomputable def a60_23 : Ann := Ann.right a60_2
noncomputable def c60_4 : Code := Code.fstC c60_3
noncomputable def a60_4 : Ann := Ann.left a60_3
noncomputable def c60_5 : Code := Code.sndC c60_3
noncomputable def a60_5 : Ann := Ann.right a60_3
noncomputable def c60_6 : Code := Code.fstC c60_5
noncomputable def a60_6 : Ann := Ann.left a60_5
noncomputable def c60_7 : Code := Code.fstC c60_6
noncomputable def a60_7 : Ann := Ann.left a60_6
noncomputable def c60_8 : Code := Code.fstC c60_7
noncomputable def a60_8 : Ann := Ann.left a60_7
noncomputable def c60_13 : Code := Code.sndC c60_7
noncomputable def a60_13 : Ann := Ann.right a60_7
noncomputable def c60_9 : Code := Code.fstC c60_8
noncomputable def a60_9 : Ann := Ann.left a60_8
noncomputable def c60_10 : Code := Code.sndC c60_8
noncomputable def a60_10 : Ann := Ann.right a60_8
noncomputable def c60_11 : Code := Code.fstC c60_10
noncomputable def a60_11 : Ann := Ann.left a60_10
noncomputable def c60_12 : Code := Code.sndC c60_10
noncomputable def a60_12 : Ann := Ann.right a60_10
noncomputable def c60_14 : Code := Code.fstC c60_13
noncomputable def a60_14 : Ann := Ann.left a60_13
noncomputable def c60_22 : Code := Code.sndC c60_13
noncomputable def a60_22 : Ann := Ann.right a60_13
noncomputable def c60_15 : Code := Code.fstC c60_14
noncomputable def a60_15 : Ann := Ann.left a60_14
noncomputable def c60_16 : Code := Code.fstC c60_15
noncomputable def a60_16 : Ann := Ann.left a60_15
noncomputable def c60_17 : Code := Code.sndC c60_15
noncomputable def a60_17 : Ann := Ann.right a60_15
noncomputable def c60_18 : Code := Code.fstC c60_17
noncomputable def a60_18 : Ann := Ann.left a60_17
noncomputable def c60_21 : Code := Code.sndC c60_17
noncomputable def a60_21 : Ann := Ann.right a60_17
noncomputable def c60_19 : Code := Code.fstC c60_18
noncomputable def a60_19 : Ann := Ann.left a60_18
noncomputable def c60_20 : Code := Code.sndC c60_18
noncomputable def a60_20 : Ann := Ann.right a60_18
noncomputable def c60_24 : Code := Code.fstC c60_23
noncomputable def a60_24 : Ann := Ann.left a60_23
noncomputable def c60_25 : Code := Code.sndC c60_23
noncomputable def a60_25 : Ann := Ann.right a60_23
noncomputable def f60_L0 (G : GuardT) (lo : Nat) (x0 x1 x2 x7 : DV) (σ : Store) : Option (DV × Store) :=
  codeF G PP (pol 60) CC lo (.loop c60_7) a60_6 [x0, x1, x2, ud, ud, ud, ud, x7, ud, ud, ud, ud, ud, ud, ud, ud, ud, ud, ud, ud, ud, ud, ud, ud, ud, ud, ud, ud, ud, ud, ud, ud] σ
   (blockC 0 a60_5 (seqC G PP (pol 60) CC lo c60_23 a60_23 (finR PP Go.Proofs.Try.f60.results.toList)))
noncomputable def F60 (G : GuardT) (lo : Nat) (x0 x1 x2 : DV) (σ : Store) : Option (DV × Store) :=
  codeF G PP (pol 60) CC lo c60_0 a60_0 [x0, x1, x2, ud, ud, ud, ud, ud, ud, ud, ud, ud, ud, ud, ud, ud, ud, ud, ud, ud, ud, ud, ud, ud, ud, ud, ud, ud, ud, ud, ud, ud] σ (finR PP Go.Proofs.Try.f60.results.toList)
theorem f60_L0_eq (G : GuardT) (hG : GuardOk G) (lo : Nat) (x0 x1 x2 x7 : DV) (σ : Store) : f60_L0 G lo x0 x1 x2 x7 σ =
    (len PP 51 x0 σ).bind fun x10 =>
    (binOp PP .lss 3 x7 x10).bind fun x11 =>
    condK x11
     (
      (indexAddr PP 51 x0 x7).bind fun x16 =>
      (load PP 22 x16 σ).bind fun x17 =>
      (indexAddr PP 22 x17 (DV.p (PV.int IntKind.i64 (0)))).bind fun x18 =>
      (load PP 3 x18 σ).bind fun x19 =>
      (binOp PP .eql 3 x19 x1).bind fun x21 =>
      G _ x21 true (some (x0, σ)) σ fun x23 σ1 =>
      G _ x21 true (some (x7, σ1)) σ1 fun x24 σ2 =>
      G _ x21 true ((indexAddr PP 51 x23 x24).bind fun v => some (v, σ2)) σ2 fun x25 σ3 =>
      G _ x21 true ((load PP 22 x25 σ3).bind fun v => some (v, σ3)) σ3 fun x26 σ4 =>
      G _ x21 true ((indexAddr PP 22 x26 (DV.p (PV.int IntKind.i64 (1)))).bind fun v => some (v, σ4)) σ4 fun x27 σ5 =>
      G _ x21 true ((load PP 3 x27 σ5).bind fun v => some (v, σ5)) σ5 fun x28 σ6 =>
      G _ x21 true (some (x2, σ6)) σ6 fun x29 σ7 =>
      G _ x21 true ((binOp PP .eql 3 x28 x29).bind fun v => some (v, σ7)) σ7 fun x30 σ8 =>
      (pickV x21 x30 (DV.p (PV.bool false))).bind fun x31 =>
      condK x31
       (
        some ((DV.p (PV.bool true)), σ8)
       )
       (
        (binOp PP .add 3 x7 (DV.p (PV.int IntKind.i64 (1)))).bind fun x13 =>
        f60_L0 G lo x0 x1 x2 x13 σ8
       )
     )
     (
      some ((DV.p (PV.bool false)), σ)
     ) := (loopF_eq G hG).trans (by kernel_rfl)
theorem F60_eq (G : GuardT) (lo : Nat) (x0 x1 x2 : DV) (σ : Store) : F60 G lo x0 x1 x2 σ =
    f60_L0 G lo x0 x1 x2 (DV.p (PV.int IntKind.i64 (0))) σ := by kernel_rfl
theorem F60_call {lo : Nat} {x0 x1 x2 : DV} {σ : Store} {r : DV × Store} (h : F60 guardT lo x0 x1 x2 σ = some r) : CC lo 60 [x0, x1, x2] σ = some r :=
  callL_run Go.Proofs.Try.func60 (by decide +kernel) rfl (by decide +kernel) h
noncomputable def c72_0 : Code := bodyOf Go.Proofs.Try.f72
noncomputable def a72_0 : Ann := (pol 72).ann
noncomputable def c72_1 : Code := Code.fstC c72_0
noncomputable def a72_1 : Ann := Ann.left a72_0
noncomputable def c72_2 : Code := Code.sndC c72_0
noncomputable def a72_2 : Ann := Ann.right a72_0
noncomputable def c72_3 : Code := Code.fstC c72_2
noncomputable def a72_3 : Ann := Ann.left a72_2
noncomputable def c72_23 : Code := Code.sndC c72_2
noncomputable def a72_23 : Ann := Ann.right a72_2
noncomputable def c72_4 : Code := Code.fstC c72_3
noncomputable def a72_4 : Ann := Ann.left a72_3
noncomputable def c72_5 : Code := Code.sndC c72_3
noncomputable def a72_5 : Ann := Ann.right a72_3
noncomputable def c72_6 : Code := Code.fstC c72_5
noncomputable def a72_6 : Ann := Ann.left a72_5
noncomputable def c72_7 : Code := Code.fstC c72_6
noncomputable def a72_7 : Ann := Ann.left a72_6
noncomputable def c72_8 : Code := Code.fstC c72_7
noncomputable def a72_8 : Ann := Ann.left a72_7
noncomputable def c72_13 : Code := Code.sndC c72_7
noncomputable def a72_13 : Ann := Ann.right a72_7
noncomputable def c72_9 : Code := Code.fstC c72_8
noncomputable def a72_9 : Ann := Ann.left a72_8
noncomputable def c72_10 : Code := Code.sndC c72_8
noncomputable def a72_10 : Ann := Ann.right a72_8
noncomputable def c72_11 : Code := Code.fstC c72_10
noncomputable def a72_11 : Ann := Ann.left a72_10
noncomputable def c72_12 : Code := Code.sndC c72_10
noncomputable def a72_12 : Ann := Ann.right a72_10
noncomputable def c72_14 : Code := Code.fstC c72_13
noncomputable def a72_14 : Ann := Ann.left a72_13
noncomputable def c72_22 : Code := Code.sndC c72_13
noncomputable def a72_22 : Ann := Ann.right a72_13
noncomputable def c72_15 : Code := Code.fstC c72_14
noncomputable def a72_15 : Ann := Ann.left a72_14
noncomputable def c72_16 : Code := Code.fstC c72_15
noncomputable def a72_16 : Ann := Ann.left a72_15
noncomputable def c72_17 : Code := Code.sndC c72_15
noncomputable def a72_17 : Ann := Ann.right a72_15
noncomputable def c72_18 : Code := Code.fstC c72_17
noncomputable def a72_18 : Ann := Ann.left a72_17
noncomputable def c72_21 : Code := Code.sndC c72_17
noncomputable def a72_21 : Ann := Ann.right a72_17
noncomputable def c72_19 : Code := Code.fstC c72_18
noncomputable def a72_19 : Ann := Ann.left a72_18
noncomputable def c72_20 : Code := Code.sndC c72_18
noncomputable def a72_20 : Ann := Ann.right a72_18
noncomputable def c72_24 : Code := Code.fstC c72_23
noncomputable def a72_24 : Ann := Ann.left a72_23
noncomputable def c72_25 : Code := Code.sndC c72_23
noncomputable def a72_25 : Ann := Ann.right a72_23
noncomputable def f72_L0 (G : GuardT) (lo : Nat) (x1 x2 x3 x4 x9 : DV) (σ : Store) : Option (DV × Store) :=
  codeF G PP (pol 72) CC lo (.loop c72_7) a72_6 [ud, x1, x2, x3, x4, ud, ud, ud, ud, x9, ud, ud, ud, ud, ud, ud, ud, ud, ud, ud, ud, ud, ud, ud, ud, ud, ud, ud] σ
   (blockC 0 a72_5 (seqC G PP (pol 72) CC lo c72_23 a72_23 (finR PP Go.Proofs.Try.f72.results.toList)))
noncomputable def F72 (G : GuardT) (lo : Nat) (x0 x1 x2 x3 : DV) (σ : Store) : Option (DV × Store) :=
  codeF G PP (pol 72) CC lo c72_0 a72_0 [x0, x1, x2, x3, ud, ud, ud, ud, ud, ud, ud, ud, ud, ud, ud, ud, ud, ud, ud, ud, ud, ud, ud, ud, ud, ud, ud, ud] σ (finR PP Go.Proofs.Try.f72.results.toList)
theorem f72_L0_eq (G : GuardT) (hG : GuardOk G) (lo : Nat) (x1 x2 x3 x4 x9 : DV) (σ : Store) : f72_L0 G lo x1 x2 x3 x4 x9 σ =
    (fieldAddr PP 27 x4 1).bind fun x11 =>
    (fieldAddr PP 25 x11 0).bind fun x12 =>
    (load PP 3 x12 σ).bind fun x13 =>
    (binOp PP .lss 3 x9 x13).bind fun x14 =>
    condK x14
     (
      (fieldAddr PP 27 x4 1).bind fun x17 =>
      (load PP 25 x17 σ).bind fun x18 =>
      (pureFn CC (DV.fn 50 []) [x18, x3, x9] σ).bind fun x21 =>
      G _ x21 true (some (x1, σ)) σ fun x23 σ1 =>
      G _ x21 true (some (x2, σ1)) σ1 fun x24 σ2 =>
      G _ x21 true (some (x9, σ2)) σ2 fun x25 σ3 =>
      G _ x21 true ((pureFn CC (DV.fn 60 []) [x23, x24, x25] σ3).bind fun v => some (v, σ3)) σ3 fun x26 σ4 =>
      (pickV x21 x26 (DV.p (PV.bool false))).bind fun x27 =>
      condK x27
       (
        some ((DV.p (PV.bool true)), σ4)
       )
       (
        (binOp PP .add 3 x9 (DV.p (PV.int IntKind.i64 (1)))).bind fun x16 =>
        f72_L0 G lo x1 x2 x3 x4 x16 σ4
       )
     )
     (
      some ((DV.p (PV.bool false)), σ)
     ) := (loopF_eq G hG).trans (by kernel_rfl)
theorem F72_eq (G : GuardT) (lo : Nat) (x0 x1 x2 x3 : DV) (σ : Store) : F72 G lo x0 x1 x2 x3 σ =
    (boxV x0).bind fun z4 =>
    f72_L0 G lo x1 x2 x3 (DV.ptr (List.length σ) 0) (DV.p (PV.int IntKind.i64 (0))) (σ ++ [Row.mix z4]) := by kernel_rfl
theorem F72_call {lo : Nat} {x0 x1 x2 x3 : DV} {σ : Store} {r : DV × Store} (h : F72 guardT lo x0 x1 x2 x3 σ = some r) : CC lo 72 [x0, x1, x2, x3] σ = some r :=
  callL_run Go.Proofs.Try.func72 (by decide +kernel) rfl (by decide +kernel) h
noncomputable def c62_0 : Code := bodyOf Go.Proofs.Try.f62
noncomputable def a62_0 : Ann := (pol 62).ann
noncomputable def c62_1 : Code := Code.fstC c62_0
noncomputable def a62_1 : Ann := Ann.left a62_0
noncomputable def c62_2 : Code := Code.sndC c62_0
noncomputable def a62_2 : Ann := Ann.right a62_0
noncomputable def c62_3 : Code := Code.fstC c62_2
noncomputable def a62_3 : Ann := Ann.left a62_2
noncomputable def c62_10 : Code := Code.sndC c62_2
noncomputable def a62_10 : Ann := Ann.right a62_2
noncomputable def c62_4 : Code := Code.fstC c62_3
noncomputable def a62_4 : Ann := Ann.left a62_3
noncomputable def c62_5 : Code := Code.sndC c62_3
noncomputable def a62_5 : Ann := Ann.right a62_3
noncomputable def c62_6 : Code := Code.fstC c62_5
noncomputable def a62_6 : Ann := Ann.left a62_5
noncomputable def c62_9 : Code := Code.sndC c62_5
noncomputable def a62_9 : Ann := Ann.right a62_5
noncomputable def c62_7 : Code := Code.fstC c62_6
noncomputable def a62_7 : Ann := Ann.left a62_6
noncomputable def c62_8 : Code := Code.sndC c62_6
noncomputable def a62_8 : Ann := Ann.right a62_6
noncomputable def c62_11 : Code := Code.fstC c62_10
noncomputable def a62_11 : Ann := Ann.left a62_10
noncomputable def c62_33 : Code := Code.sndC c62_10
noncomputable def a62_33 : Ann := Ann.right a62_10
noncomputable def c62_12 : Code := Code.fstC c62_11
noncomputable def a62_12 : Ann := Ann.left a62_11
noncomputable def c62_13 : Code := Code.sndC c62_11
noncomputable def a62_13 : Ann := Ann.right a62_11
noncomputable def c62_14 : Code := Code.fstC c62_13
noncomputable def a62_14 : Ann := Ann.left a62_13
noncomputable def c62_15 : Code := Code.fstC c62_14
noncomputable def a62_15 : Ann := Ann.left a62_14
noncomputable def c62_16 : Code := Code.fstC c62_15
noncomputable def a62_16 : Ann := Ann.left a62_15
noncomputable def c62_21 : Code := Code.sndC c62_15
noncomputable def a62_21 : Ann := Ann.right a62_15
noncomputable def c62_17 : Code := Code.fstC c62_16
noncomputable def a62_17 : Ann := Ann.left a62_16
noncomputable def c62_18 : Code := Code.sndC c62_16
noncomputable def a62_18 : Ann := Ann.right a62_16
noncomputable def c62_19 : Code := Code.fstC c62_18
noncomputable def a62_19 : Ann := Ann.left a62_18
noncomputable def c62_20 : Code := Code.sndC c62_18
noncomputable def a62_20 : Ann := Ann.right a62_18
noncomputable def c62_22 : Code := Code.fstC c62_21
noncomputable def a62_22 : Ann := Ann.left a62_21
noncomputable def c62_32 : Code := Code.sndC c62_21
noncomputable def a62_32 : Ann := Ann.right a62_21
noncomputable def c62_23 : Code := Code.fstC c62_22
noncomputable def a62_23 : Ann := Ann.left a62_22
noncomputable def c62_24 : Code := Code.fstC c62_23
noncomputable def a62_24 : Ann := Ann.left a62_23
noncomputable def c62_25 : Code := Code.sndC c62_23
noncomputable def a62_25 : Ann := Ann.right a62_23
noncomputable def c62_26 : Code := Code.fstC c62_25
noncomputable def a62_26 : Ann := Ann.left a62_25
noncomputable def c62_27 : Code := Code.sndC c62_25
noncomputable def a62_27 : Ann := Ann.right a62_25
noncomputable def c62_28 : Code := Code.fstC c62_27
noncomputable def a62_28 : Ann := Ann.left a62_27
noncomputable def c62_31 : Code := Code.sndC c62_27
noncomputable def a62_31 : Ann := Ann.right a62_27
noncomputable def c62_29 : Code := Code.fstC c62_28
noncomputable def a62_29 : Ann := Ann.left a62_28
noncomputable def c62_30 : Code := Code.sndC c62_28
noncomputable def a62_30 : Ann := Ann.right a62_28
noncomputable def c62_34 : Code := Code.fstC c62_33
noncomputable def a62_34 : Ann := Ann.left a62_33
noncomputable def c62_35 : Code := Code.sndC c62_33
noncomputable def a62_35 : Ann := Ann.right a62_33
noncomputable def f62_L0 (G : GuardT) (lo : Nat) (x1 x2 x3 x4 x9 : DV) (σ : Store) : Option (DV × Store) :=
  codeF G PP (pol 62) CC lo (.loop c62_15) a62_14 [ud, x1, x2, x3, x4, ud, ud, ud, ud, x9, ud, ud, ud, ud, ud, ud, ud, ud, ud, ud, ud, ud, ud, ud, ud, ud, ud, ud, ud, ud, ud, ud, ud, ud, ud, ud, ud, ud, ud, ud, ud, ud, ud, ud, ud, ud, ud, ud, ud] σ
   (blockC 0 a62_13 (seqC G PP (pol 62) CC lo c62_33 a62_33 (finR PP Go.Proofs.Try.f62.results.toList)))
noncomputable def F62 (G : GuardT) (lo : Nat) (x0 x1 x2 x3 : DV) (σ : Store) : Option (DV × Store) :=
  codeF G PP (pol 62) CC lo c62_0 a62_0 [x0, x1, x2, x3, ud, ud, ud, ud, ud, ud, ud, ud, ud, ud, ud, ud, ud, ud, ud, ud, ud, ud, ud, ud, ud, ud, ud, ud, ud, ud, ud, ud, ud, ud, ud, ud, ud, ud, ud, ud, ud, ud, ud, ud, ud, ud, ud, ud, ud] σ (finR PP Go.Proofs.Try.f62.results.toList)
theorem f62_L0_eq (G : GuardT) (hG : GuardOk G) (lo : Nat) (x1 x2 x3 x4 x9 : DV) (σ : Store) : f62_L0 G lo x1 x2 x3 x4 x9 σ =
    (fieldAddr PP 27 x4 0).bind fun x23 =>
    (fieldAddr PP 25 x23 2).bind fun x24 =>
    (load PP 23 x24 σ).bind fun x25 =>
    (len PP 23 x25 σ).bind fun x26 =>
    (binOp PP .lss 3 x9 x26).bind fun x27 =>
    condK x27
     (
      (fieldAddr PP 27 x4 0).bind fun x30 =>
      (fieldAddr PP 25 x30 2).bind fun x31 =>
      (load PP 23 x31 σ).bind fun x32 =>
      (indexAddr PP 23 x32 x9).bind fun x34 =>
      (load PP 100 x34 σ).bind fun x35 =>
      (zeroOf PP 100).bind fun z10 =>
      (store PP lo 100 (DV.ptr (List.length σ) 0) x35 (σ ++ [Row.mix z10])).bind fun σ1 =>
      (fieldAddr PP 100 (DV.ptr (List.length σ) 0) 0).bind fun x36 =>
      (load PP 3 x36 σ1).bind fun x37 =>
      (binOp PP .eql 3 x37 x2).bind fun x39 =>
      G _ x39 true ((load PP 27 x4 σ1).bind fun v => some (v, σ1)) σ1 fun x41 σ2 =>
      G _ x39 true (some (x1, σ2)) σ2 fun x42 σ3 =>
      G _ x39 true ((fieldAddr PP 100 (DV.ptr (List.length σ) 0) 1).bind fun v => some (v, σ3)) σ3 fun x43 σ4 =>
      G _ x39 true ((load PP 3 x43 σ4).bind fun v => some (v, σ4)) σ4 fun x44 σ5 =>
      G _ x39 true (some (x3, σ5)) σ5 fun x45 σ6 =>
      G _ x39 true ((pureFn CC (DV.fn 72 []) [x41, x42, x44, x45] σ6).bind fun v => some (v, σ6)) σ6 fun x46 σ7 =>
      G _ x39 true ((unOp .not x46).bind fun v => some (v, σ7)) σ7 fun x47 σ8 =>
      (pickV x39 x47 (DV.p (PV.bool false))).bind fun x48 =>
      condK x48
       (
        some ((DV.p (PV.bool false)), σ8)
       )
       (
        (binOp PP .add 3 x9 (DV.p (PV.int IntKind.i64 (1)))).bind fun x29 =>
        f62_L0 G lo x1 x2 x3 x4 x29 σ8
       )
     )
     (
      some ((DV.p (PV.bool true)), σ)
     ) := (loopF_eq G hG).trans (by kernel_rfl)
theorem F62_eq (G : GuardT) (lo : Nat) (x0 x1 x2 x3 : DV) (σ : Store) : F62 G lo x0 x1 x2 x3 σ =
    (boxV x0).bind fun z4 =>
    (fieldAddr PP 27 (DV.ptr (List.length σ) 0) 2).bind fun x11 =>
    (load PP 22 x11 (σ ++ [Row.mix z4])).bind fun x12 =>
    (indexAddr PP 22 x12 x2).bind fun x14 =>
    (load PP 3 x14 (σ ++ [Row.mix z4])).bind fun x15 =>
    (fieldAddr PP 27 (DV.ptr (List.length σ) 0) 3).bind fun x16 =>
    (load PP 22 x16 (σ ++ [Row.mix z4])).bind fun x17 =>
    (indexAddr PP 22 x17 x3).bind fun x19 =>
    (load PP 3 x19 (σ ++ [Row.mix z4])).bind fun x20 =>
    (binOp PP .neq 3 x15 x20).bind fun x21 =>
    condK x21
     (
      some ((DV.p (PV.bool false)), (σ ++ [Row.mix z4]))
     )
     (
      f62_L0 G lo x1 x2 x3 (DV.ptr (List.length σ) 0) (DV.p (PV.int IntKind.i64 (0))) (σ ++ [Row.mix z4])
     ) := by kernel_rfl
theorem F62_call {lo : Nat} {x0 x1 x2 x3 : DV} {σ : Store} {r : DV × Store} (h : F62 guardT lo x0 x1 x2 x3 σ = some r) : CC lo 62 [x0, x1, x2, x3] σ = some r :=
  callL_run Go.Proofs.Try.func62 (by decide +kernel) rfl (by decide +kernel) h
noncomputable def c36_0 : Code := bodyOf Go.Proofs.Try.f36
noncomputable def a36_0 : Ann := (pol 36).ann
noncomputable def c36_1 : Code := Code.fstC c36_0
noncomputable def a36_1 : Ann := Ann.left a36_0
noncomputable def c36_2 : Code := Code.sndC c36_0
noncomputable def a36_2 : Ann := Ann.right a36_0
noncomputable def c36_3 : Code := Code.fstC c36_2
noncomputable def a36_3 : Ann := Ann.left a36_2
noncomputable def c36_4 : Code := Code.sndC c36_2
noncomputable def a36_4 : Ann := Ann.right a36_2
noncomputable def c36_5 : Code := Code.fstC c36_4
noncomputable def a36_5 : Ann := Ann.left a36_4
noncomputable def c36_19 : Code := Code.sndC c36_4
noncomputable def a36_19 : Ann := Ann.right a36_4
noncomputable def c36_6 : Code := Code.fstC c36_5
noncomputable def a36_6 : Ann := Ann.left a36_5
noncomputable def c36_7 : Code := Code.sndC c36_5
noncomputable def a36_7 : Ann := Ann.right a36_5
noncomputable def c36_8 : Code := Code.fstC c36_7
noncomputable def a36_8 : Ann := Ann.left a36_7
noncomputable def c36_9 : Code := Code.fstC c36_8
noncomputable def a36_9 : Ann := Ann.left a36_8
noncomputable def c36_10 : Code := Code.fstC c36_9
noncomputable def a36_10 : Ann := Ann.left a36_9
noncomputable def c36_15 : Code := Code.sndC c36_9
noncomputable def a36_15 : Ann := Ann.right a36_9
noncomputable def c36_11 : Code := Code.fstC c36_10
noncomputable def a36_11 : Ann := Ann.left a36_10
noncomputable def c36_12 : Code := Code.sndC c36_10
noncomputable def a36_12 : Ann := Ann.right a36_10
noncomputable def c36_13 : Code := Code.fstC c36_12
noncomputable def a36_13 : Ann := Ann.left a36_12
noncomputable def c36_14 : Code := Code.sndC c36_12
noncomputable def a36_14 : Ann := Ann.right a36_12
noncomputable def c36_16 : Code := Code.fstC c36_15
noncomputable def a36_16 : Ann := Ann.left a36_15
noncomputable def c36_18 : Code := Code.sndC c36_15
noncomputable def a36_18 : Ann := Ann.right a36_15
noncomputable def c36_17 : Code := Code.fstC c36_16
noncomputable def a36_17 : Ann := Ann.left a36_16
noncomputable def c36_20 : Code := Code.fstC c36_19
noncomputable def a36_20 : Ann := Ann.left a36_19
noncomputable def c36_21 : Code := Code.sndC c36_19
noncomputable def a36_21 : Ann := Ann.right a36_19
noncomputable def f36_L0 (G : GuardT) (lo : Nat) (x0 x3 x4 : DV) (σ : Store) : Option (DV × Store) :=
  codeF G PP (pol 36) CC lo (.loop c36_9) a36_8 [x0, ud, ud, x3, x4, ud, ud, ud, ud, ud, ud, ud, ud, ud, ud, ud, ud, ud, ud, ud] σ
   (blockC 0 a36_7 (seqC G PP (pol 36) CC lo c36_19 a36_19 (finR PP Go.Proofs.Try.f36.results.toList)))
noncomputable def F36 (G : GuardT) (lo : Nat) (x0 : DV) (σ : Store) : Option (DV × Store) :=
  codeF G PP (pol 36) CC lo c36_0 a36_0 [x0, ud, ud, ud, ud, ud, ud, ud, ud, ud, ud, ud, ud, ud, ud, ud, ud, ud, ud, ud] σ (finR PP Go.Proofs.Try.f36.results.toList)
theorem f36_L0_eq (G : GuardT) (hG : GuardOk G) (lo : Nat) (x0 x3 x4 : DV) (σ : Store) : f36_L0 G lo x0 x3 x4 σ =
    (len PP 51 x0 σ).bind fun x7 =>
    (binOp PP .lss 3 x4 x7).bind fun x8 =>
    condK x8
     (
      (indexAddr PP 51 x0 x4).bind fun x14 =>
      (load PP 22 x14 σ).bind fun x15 =>
      (pureFn CC (DV.fn 14 []) [x15] σ).bind fun x16 =>
      (buildSlice PP none 51 1 [(0, x16)] σ).bind fun r17_1 =>
      (append PP lo false 51 51 x3 r17_1.1 r17_1.2).bind fun r18_2 =>
      (binOp PP .add 3 x4 (DV.p (PV.int IntKind.i64 (1)))).bind fun x10 =>
      f36_L0 G lo x0 r18_2.1 x10 r18_2.2
     )
     (
      some (x3, σ)
     ) := (loopF_eq G hG).trans (by kernel_rfl)
theorem F36_eq (G : GuardT) (lo : Nat) (x0 : DV) (σ : Store) : F36 G lo x0 σ =
    f36_L0 G lo x0 (DV.p PV.nilsl) (DV.p (PV.int IntKind.i64 (0))) σ := by kernel_rfl
theorem F36_call {lo : Nat} {x0 : DV} {σ : Store} {r : DV × Store} (h : F36 guardT lo x0 σ = some r) : CC lo 36 [x0] σ = some r :=
  callL_run Go.Proofs.Try.func36 (by decide +kernel) rfl (by decide +kernel) h
noncomputable def c34_0 : Code := bodyOf Go.Proofs.Try.f34
noncomputable def a34_0 : Ann := (pol 34).ann
noncomputable def c34_1 : Code := Code.fstC c34_0
noncomputable def a34_1 : Ann := Ann.left a34_0
noncomputable def c34_2 : Code := Code.sndC c34_0
noncomputable def a34_2 : Ann := Ann.right a34_0
noncomputable def c34_3 : Code := Code.fstC c34_2
noncomputable def a34_3 : Ann := Ann.left a34_2
noncomputable def c34_10 : Code := Code.sndC c34_2
noncomputable def a34_10 : Ann := Ann.right a34_2
noncomputable def c34_4 : Code := Code.fstC c34_3
noncomputable def a34_4 : Ann := Ann.left a34_3
noncomputable def c34_5 : Code := Code.sndC c34_3
noncomputable def a34_5 : Ann := Ann.right a34_3
noncomputable def c34_6 : Code := Code.fstC c34_5
noncomputable def a34_6 : Ann := Ann.left a34_5
noncomputable def c34_9 : Code := Code.sndC c34_5
noncomputable def a34_9 : Ann := Ann.right a34_5
noncomputable def c34_7 : Code := Code.fstC c34_6
noncomputable def a34_7 : Ann := Ann.left a34_6
noncomputable def c34_8 : Code := Code.sndC c34_6
noncomputable def a34_8 : Ann := Ann.right a34_6
noncomputable def c34_11 : Code := Code.fstC c34_10
noncomputable def a34_11 : Ann := Ann.left a34_10
noncomputable def c34_31 : Code := Code.sndC c34_10
noncomputable def a34_31 : Ann := Ann.right a34_10
noncomputable def c34_12 : Code := Code.fstC c34_11
noncomputable def a34_12 : Ann := Ann.left a34_11
noncomputable def c34_13 : Code := Code.sndC c34_11
noncomputable def a34_13 : Ann := Ann.right a34_11
noncomputable def c34_14 : Code := Code.fstC c34_13
noncomputable def a34_14 : Ann := Ann.left a34_13
noncomputable def c34_15 : Code := Code.fstC c34_14
noncomputable def a34_15 : Ann := Ann.left a34_14
noncomputable def c34_16 : Code := Code.fstC c34_15
noncomputable def a34_16 : Ann := Ann.left a34_15
noncomputable def c34_21 : Code := Code.sndC c34_15
noncomputable def a34_21 : Ann := Ann.right a34_15
noncomputable def c34_17 : Code := Code.fstC c34_16
noncomputable def a34_17 : Ann := Ann.left a34_16
noncomputable def c34_18 : Code := Code.sndC c34_16
noncomputable def a34_18 : Ann := Ann.right a34_16
noncomputable def c34_19 : Code := Code.fstC c34_18
noncomputable def a34_19 : Ann := Ann.left a34_18
noncomputable def c34_20 : Code := Code.sndC c34_18
noncomputable def a34_20 : Ann := Ann.right a34_18
noncomputable def c34_22 : Code := Code.fstC c34_21
noncomputable def a34_22 : Ann := Ann.left a34_21
noncomputable def c34_30 : Code := Code.sndC c34_21
noncomputable def a34_30 : Ann := Ann.right a34_21
noncomputable def c34_23 : Code := Code.fstC c34_22
noncomputable def a34_23 : Ann := Ann.left a34_22
noncomputable def c34_24 : Code := Code.fstC c34_23
noncomputable def a34_24 : Ann := Ann.left a34_23
noncomputable def c34_25 : Code := Code.sndC c34_23
noncomputable def a34_25 : Ann := Ann.right a34_23
noncomputable def c34_26 : Code := Code.fstC c34_25
noncomputable def a34_26 : Ann := Ann.left a34_25
noncomputable def c34_29 : Code := Code.sndC c34_25
noncomputable def a34_29 : Ann := Ann.right a34_25
noncomputable def c34_27 : Code := Code.fstC c34_26
noncomputable def a34_27 : Ann := Ann.left a34_26
noncomputable def c34_28 : Code := Code.sndC c34_26
noncomputable def a34_28 : Ann := Ann.right a34_26
noncomputable def c34_32 : Code := Code.fstC c34_31
noncomputable def a34_32 : Ann := Ann.left a34_31
noncomputable def c34_33 : Code := Code.sndC c34_31
noncomputable def a34_33 : Ann := Ann.right a34_31
noncomputable def f34_L0 (G : GuardT) (lo : Nat) (x0 x3 : DV) (σ : Store) : Option (DV × Store) :=
  codeF G PP (pol 34) CC lo (.loop c34_15) a34_14 [x0, ud, ud, x3, ud, ud, ud, ud, ud, ud, ud, ud, ud, ud, ud, ud, ud, ud, ud] σ
   (blockC 0 a34_13 (seqC G PP (pol 34) CC lo c34_31 a34_31 (finR PP Go.Proofs.Try.f34.results.toList)))
noncomputable def F34 (G : GuardT) (lo : Nat) (x0 : DV) (σ : Store) : Option (DV × Store) :=
  codeF G PP (pol 34) CC lo c34_0 a34_0 [x0, ud, ud, ud, ud, ud, ud, ud, ud, ud, ud, ud, ud, ud, ud, ud, ud, ud, ud] σ (finR PP Go.Proofs.Try.f34.results.toList)
theorem f34_L0_eq (G : GuardT) (hG : GuardOk G) (lo : Nat) (x0 x3 : DV) (σ : Store) : f34_L0 G lo x0 x3 σ =
    (len PP 51 x0 σ).bind fun x9 =>
    (binOp PP .lss 3 x3 x9).bind fun x10 =>
    condK x10
     (
      (indexAddr PP 51 x0 x3).bind fun x15 =>
      (load PP 22 x15 σ).bind fun x16 =>
      (len PP 22 x16 σ).bind fun x17 =>
      (binOp PP .gtr 3 x17 (DV.p (PV.int IntKind.i64 (4)))).bind fun x18 =>
      condK x18
       (
        some ((DV.p (PV.bool false)), σ)
       )
       (
        (binOp PP .add 3 x3 (DV.p (PV.int IntKind.i64 (1)))).bind fun x12 =>
        f34_L0 G lo x0 x12 σ
       )
     )
     (
      some ((DV.p (PV.bool true)), σ)
     ) := (loopF_eq G hG).trans (by kernel_rfl)
theorem F34_eq (G : GuardT) (lo : Nat) (x0 : DV) (σ : Store) : F34 G lo x0 σ =
    (len PP 51 x0 σ).bind fun x5 =>
    (binOp PP .gtr 3 x5 (DV.p (PV.int IntKind.i64 (60)))).bind fun x6 =>
    condK x6
     (
      some ((DV.p (PV.bool false)), σ)
     )
     (
      f34_L0 G lo x0 (DV.p (PV.int IntKind.i64 (0))) σ
     ) := by kernel_rfl
theorem F34_call {lo : Nat} {x0 : DV} {σ : Store} {r : DV × Store} (h : F34 guardT lo x0 σ = some r) : CC lo 34 [x0] σ = some r :=
  callL_run Go.Proofs.Try.func34 (by decide +kernel) rfl (by decide +kernel) h
noncomputable def c35_0 : Code := bodyOf Go.Proofs.Try.f35
noncomputable def a35_0 : Ann := (pol 35).ann
noncomputable def c35_1 : Code := Code.fstC c35_0
noncomputable def a35_1 : Ann := Ann.left a35_0
noncomputable def c35_2 : Code := Code.sndC c35_0
noncomputable def a35_2 : Ann := Ann.right a35_0
noncomputable def c35_3 : Code := Code.fstC c35_2
noncomputable def a35_3 : Ann := Ann.left a35_2
noncomputable def c35_12 : Code := Code.sndC c35_2
noncomputable def a35_12 : Ann := Ann.right a35_2
noncomputable def c35_4 : Code := Code.fstC c35_3
noncomputable def a35_4 : Ann := Ann.left a35_3
noncomputable def c35_5 : Code := Code.sndC c35_3
noncomputable def a35_5 : Ann := Ann.right a35_3
noncomputable def c35_6 : Code := Code.fstC c35_5
noncomputable def a35_6 : Ann := Ann.left a35_5
noncomputable def c35_7 : Code := Code.sndC c35_5
noncomputable def a35_7 : Ann := Ann.right a35_5
noncomputable def c35_8 : Code := Code.fstC c35_7
noncomputable def a35_8 : Ann := Ann.left a35_7
noncomputable def c35_11 : Code := Code.sndC c35_7
noncomputable def a35_11 : Ann := Ann.right a35_7
noncomputable def c35_9 : Code := Code.fstC c35_8
noncomputable def a35_9 : Ann := Ann.left a35_8
noncomputable def c35_10 : Code := Code.sndC c35_8
noncomputable def a35_10 : Ann := Ann.right a35_8
noncomputable def c35_13 : Code := Code.fstC c35_12
noncomputable def a35_13 : Ann := Ann.left a35_12
noncomputable def c35_14 : Code := Code.sndC c35_12
noncomputable def a35_14 : Ann := Ann.right a35_12
noncomputable def c35_15 : Code := Code.fstC c35_14
noncomputable def a35_15 : Ann := Ann.left a35_14
noncomputable def c35_49 : Code := Code.sndC c35_14
noncomputable def a35_49 : Ann := Ann.right a35_14
noncomputable def c35_16 : Code := Code.fstC c35_15
noncomputable def a35_16 : Ann := Ann.left a35_15
noncomputable def c35_17 : Code := Code.sndC c35_15
noncomputable def a35_17 : Ann := Ann.right a35_15
noncomputable def c35_18 : Code := Code.fstC c35_17
noncomputable def a35_18 : Ann := Ann.left a35_17
noncomputable def c35_19 : Code := Code.fstC c35_18
noncomputable def a35_19 : Ann := Ann.left a35_18
noncomputable def c35_20 : Code := Code.fstC c35_19
noncomputable def a35_20 : Ann := Ann.left a35_19
noncomputable def c35_21 : Code := Code.sndC c35_19
noncomputable def a35_21 : Ann := Ann.right a35_19
noncomputable def c35_22 : Code := Code.fstC c35_21
noncomputable def a35_22 : Ann := Ann.left a35_21
noncomputable def c35_25 : Code := Code.sndC c35_21
noncomputable def a35_25 : Ann := Ann.right a35_21
noncomputable def c35_23 : Code := Code.fstC c35_22
noncomputable def a35_23 : Ann := Ann.left a35_22
noncomputable def c35_24 : Code := Code.sndC c35_22
noncomputable def a35_24 : Ann := Ann.right a35_22
noncomputable def c35_26 : Code := Code.fstC c35_25
noncomputable def a35_26 : Ann := Ann.left a35_25
noncomputable def c35_48 : Code := Code.sndC c35_25
noncomputable def a35_48 : Ann := Ann.right a35_25
noncomputable def c35_27 : Code := Code.fstC c35_26
noncomputable def a35_27 : Ann := Ann.left a35_26
noncomputable def c35_28 : Code := Code.fstC c35_27
noncomputable def a35_28 : Ann := Ann.left a35_27
noncomputable def c35_29 : Code := Code.sndC c35_27
noncomputable def a35_29 : Ann := Ann.right a35_27
noncomputable def c35_30 : Code := Code.fstC c35_29
noncomputable def a35_30 : Ann := Ann.left a35_29
noncomputable def c35_37 : Code := Code.sndC c35_29
noncomputable def a35_37 : Ann := Ann.right a35_29
noncomputable def c35_31 : Code := Code.fstC c35_30
noncomputable def a35_31 : Ann := Ann.left a35_30
noncomputable def c35_32 : Code := Code.sndC c35_30
noncomputable def a35_32 : Ann := Ann.right a35_30
noncomputable def c35_33 : Code := Code.fstC c35_32
noncomputable def a35_33 : Ann := Ann.left a35_32
noncomputable def c35_36 : Code := Code.sndC c35_32
noncomputable def a35_36 : Ann := Ann.right a35_32
noncomputable def c35_34 : Code := Code.fstC c35_33
noncomputable def a35_34 : Ann := Ann.left a35_33
noncomputable def c35_35 : Code := Code.sndC c35_33
noncomputable def a35_35 : Ann := Ann.right a35_33
noncomputable def c35_38 : Code := Code.fstC c35_37
noncomputable def a35_38 : Ann := Ann.left a35_37
noncomputable def c35_47 : Code := Code.sndC c35_37
noncomputable def a35_47 : Ann := Ann.right a35_37
noncomputable def c35_39 : Code := Code.fstC c35_38
noncomputable def a35_39 : Ann := Ann.left a35_38
noncomputable def c35_40 : Code := Code.sndC c35_38
noncomputable def a35_40 : Ann := Ann.right a35_38
noncomputable def c35_41 : Code := Code.fstC c35_40
noncomputable def a35_41 : Ann := Ann.left a35_40
noncomputable def c35_42 : Code := Code.sndC c35_40
noncomputable def a35_42 : Ann := Ann.right a35_40
noncomputable def c35_43 : Code := Code.fstC c35_42
noncomputable def a35_43 : Ann := Ann.left a35_42
noncomputable def c35_46 : Code := Code.sndC c35_42
noncomputable def a35_46 : Ann := Ann.right a35_42
noncomputable def c35_44 : Code := Code.fstC c35_43
noncomputable def a35_44 : Ann := Ann.left a35_43
noncomputable def c35_45 : Code := Code.sndC c35_43
noncomputable def a35_45 : Ann := Ann.right a35_43
noncomputable def c35_50 : Code := Code.fstC c35_49
noncomputable def a35_50 : Ann := Ann.left a35_49
noncomputable def c35_51 : Code := Code.sndC c35_49
noncomputable def a35_51 : Ann := Ann.right a35_49
noncomputable def c35_52 : Code := Code.fstC c35_51
noncomputable def a35_52 : Ann := Ann.left a35_51
noncomputable def c35_53 : Code := Code.sndC c35_51
noncomputable def a35_53 : Ann := Ann.right a35_51
noncomputable def c35_54 : Code := Code.fstC c35_53
noncomputable def a35_54 : Ann := Ann.left a35_53
noncomputable def c35_95 : Code := Code.sndC c35_53
noncomputable def a35_95 : Ann := Ann.right a35_53
noncomputable def c35_55 : Code := Code.fstC c35_54
noncomputable def a35_55 : Ann := Ann.left a35_54
noncomputable def c35_56 : Code := Code.sndC c35_54
noncomputable def a35_56 : Ann := Ann.right a35_54
noncomputable def c35_57 : Code := Code.fstC c35_56
noncomputable def a35_57 : Ann := Ann.left a35_56
noncomputable def c35_58 : Code := Code.fstC c35_57
noncomputable def a35_58 : Ann := Ann.left a35_57
noncomputable def c35_59 : Code := Code.fstC c35_58
noncomputable def a35_59 : Ann := Ann.left a35_58
noncomputable def c35_60 : Code := Code.sndC c35_58
noncomputable def a35_60 : Ann := Ann.right a35_58
noncomputable def c35_61 : Code := Code.fstC c35_60
noncomputable def a35_61 : Ann := Ann.left a35_60
noncomputable def c35_64 : Code := Code.sndC c35_60
noncomputable def a35_64 : Ann := Ann.right a35_60
noncomputable def c35_62 : Code := Code.fstC c35_61
noncomputable def a35_62 : Ann := Ann.left a35_61
noncomputable def c35_63 : Code := Code.sndC c35_61
noncomputable def a35_63 : Ann := Ann.right a35_61
noncomputable def c35_65 : Code := Code.fstC c35_64
noncomputable def a35_65 : Ann := Ann.left a35_64
noncomputable def c35_94 : Code := Code.sndC c35_64
noncomputable def a35_94 : Ann := Ann.right a35_64
noncomputable def c35_66 : Code := Code.fstC c35_65
noncomputable def a35_66 : Ann := Ann.left a35_65
noncomputable def c35_67 : Code := Code.fstC c35_66
noncomputable def a35_67 : Ann := Ann.left a35_66
noncomputable def c35_68 : Code := Code.sndC c35_66
noncomputable def a35_68 : Ann := Ann.right a35_66
noncomputable def c35_69 : Code := Code.fstC c35_68
noncomputable def a35_69 : Ann := Ann.left a35_68
noncomputable def c35_70 : Code := Code.sndC c35_68
noncomputable def a35_70 : Ann := Ann.right a35_68
noncomputable def c35_71 : Code := Code.fstC c35_70
noncomputable def a35_71 : Ann := Ann.left a35_70
noncomputable def c35_87 : Code := Code.sndC c35_70
noncomputable def a35_87 : Ann := Ann.right a35_70
noncomputable def c35_72 : Code := Code.fstC c35_71
noncomputable def a35_72 : Ann := Ann.left a35_71
noncomputable def c35_73 : Code := Code.sndC c35_71
noncomputable def a35_73 : Ann := Ann.right a35_71
noncomputable def c35_74 : Code := Code.fstC c35_73
noncomputable def a35_74 : Ann := Ann.left a35_73
noncomputable def c35_75 : Code := Code.fstC c35_74
noncomputable def a35_75 : Ann := Ann.left a35_74
noncomputable def c35_76 : Code := Code.fstC c35_75
noncomputable def a35_76 : Ann := Ann.left a35_75
noncomputable def c35_77 : Code := Code.sndC c35_75
noncomputable def a35_77 : Ann := Ann.right a35_75
noncomputable def c35_78 : Code := Code.fstC c35_77
noncomputable def a35_78 : Ann := Ann.left a35_77
noncomputable def c35_81 : Code := Code.sndC c35_77
noncomputable def a35_81 : Ann := Ann.right a35_77
noncomputable def c35_79 : Code := Code.fstC c35_78
noncomputable def a35_79 : Ann := Ann.left a35_78
noncomputable def c35_80 : Code := Code.sndC c35_78
noncomputable def a35_80 : Ann := Ann.right a35_78
noncomputable def c35_82 : Code := Code.fstC c35_81
noncomputable def a35_82 : Ann := Ann.left a35_81
noncomputable def c35_86 : Code := Code.sndC c35_81
noncomputable def a35_86 : Ann := Ann.right a35_81
noncomputable def c35_83 : Code := Code.fstC c35_82
noncomputable def a35_83 : Ann := Ann.left a35_82
noncomputable def c35_84 : Code := Code.fstC c35_83
noncomputable def a35_84 : Ann := Ann.left a35_83
noncomputable def c35_85 : Code := Code.sndC c35_83
noncomputable def a35_85 : Ann := Ann.right a35_83
noncomputable def c35_88 : Code := Code.fstC c35_87
noncomputable def a35_88 : Ann := Ann.left a35_87
noncomputable def c35_89 : Code := Code.sndC c35_87
noncomputable def a35_89 : Ann := Ann.right a35_87
noncomputable def c35_90 : Code := Code.fstC c35_89
noncomputable def a35_90 : Ann := Ann.left a35_89
noncomputable def c35_93 : Code := Code.sndC c35_89
noncomputable def a35_93 : Ann := Ann.right a35_89
noncomputable def c35_91 : Code := Code.fstC c35_90
noncomputable def a35_91 : Ann := Ann.left a35_90
noncomputable def c35_92 : Code := Code.sndC c35_90
noncomputable def a35_92 : Ann := Ann.right a35_90
noncomputable def c35_96 : Code := Code.fstC c35_95
noncomputable def a35_96 : Ann := Ann.left a35_95
noncomputable def c35_97 : Code := Code.sndC c35_95
noncomputable def a35_97 : Ann := Ann.right a35_95
noncomputable def f35_L0 (G : GuardT) (lo : Nat) (x1 x2 x7 x24 x25 x26 : DV) (σ : Store) : Option (DV × Store) :=
  codeF G PP (pol 35) CC lo (.loop c35_19) a35_18 [ud, x1, x2, ud, ud, ud, ud, x7, ud, ud, ud, ud, ud, ud, ud, ud, ud, ud, ud, ud, ud, ud, ud, ud, x24, x25, x26, ud, ud, ud, ud, ud, ud, ud, ud, ud, ud, ud, ud, ud, ud, ud, ud, ud, ud, ud, ud, ud, ud, ud, ud, ud, ud, ud, ud, ud, ud, ud, ud, ud, ud, ud, ud, ud, ud, ud, ud, ud, ud, ud, ud, ud, ud, ud, ud, ud, ud, ud, ud, ud, ud, ud, ud, ud, ud, ud, ud, ud, ud, ud, ud, ud, ud, ud, ud, ud, ud, ud, ud, ud, ud, ud, ud, ud, ud, ud, ud, ud, ud, ud, ud, ud, ud, ud, ud, ud, ud, ud, ud, ud, ud, ud, ud, ud, ud, ud, ud, ud, ud, ud, ud, ud, ud, ud, ud, ud, ud, ud, ud] σ
   (blockC 0 a35_17 (seqC G PP (pol 35) CC lo c35_49 a35_49 (finR PP Go.Proofs.Try.f35.results.toList)))
noncomputable def f35_L1 (G : GuardT) (lo : Nat) (x2 x11 x12 x85 x86 x87 : DV) (σ : Store) : Option (DV × Store) :=
  codeF G PP (pol 35) CC lo (.loop c35_58) a35_57 [ud, ud, x2, ud, ud, ud, ud, ud, ud, ud, ud, x11, x12, ud, ud, ud, ud, ud, ud, ud, ud, ud, ud, ud, ud, ud, ud, ud, ud, ud, ud, ud, ud, ud, ud, ud, ud, ud, ud, ud, ud, ud, ud, ud, ud, ud, ud, ud, ud, ud, ud, ud, ud, ud, ud, ud, ud, ud, ud, ud, ud, ud, ud, ud, ud, ud, ud, ud, ud, ud, ud, ud, ud, ud, ud, ud, ud, ud, ud, ud, ud, ud, ud, ud, ud, x85, x86, x87, ud, ud, ud, ud, ud, ud, ud, ud, ud, ud, ud, ud, ud, ud, ud, ud, ud, ud, ud, ud, ud, ud, ud, ud, ud, ud, ud, ud, ud, ud, ud, ud, ud, ud, ud, ud, ud, ud, ud, ud, ud, ud, ud, ud, ud, ud, ud, ud, ud, ud, ud] σ
   (blockC 2 a35_56 (seqC G PP (pol 35) CC lo c35_95 a35_95 (finR PP Go.Proofs.Try.f35.results.toList)))
noncomputable def f35_L2 (G : GuardT) (lo : Nat) (x2 x11 x12 x13 x14 x15 x85 x86 x87 x109 x110 x111 : DV) (σ : Store) : Option (DV × Store) :=
  codeF G PP (pol 35) CC lo (.loop c35_75) a35_74 [ud, ud, x2, ud, ud, ud, ud, ud, ud, ud, ud, x11, x12, x13, x14, x15, ud, ud, ud, ud, ud, ud, ud, ud, ud, ud, ud, ud, ud, ud, ud, ud, ud, ud, ud, ud, ud, ud, ud, ud, ud, ud, ud, ud, ud, ud, ud, ud, ud, ud, ud, ud, ud, ud, ud, ud, ud, ud, ud, ud, ud, ud, ud, ud, ud, ud, ud, ud, ud, ud, ud, ud, ud, ud, ud, ud, ud, ud, ud, ud, ud, ud, ud, ud, ud, x85, x86, x87, ud, ud, ud, ud, ud, ud, ud, ud, ud, ud, ud, ud, ud, ud, ud, ud, ud, ud, ud, ud, ud, x109, x110, x111, ud, ud, ud, ud, ud, ud, ud, ud, ud, ud, ud, ud, ud, ud, ud, ud, ud, ud, ud, ud, ud, ud, ud, ud, ud, ud, ud] σ
   (blockC 4 a35_73 (seqC G PP (pol 35) CC lo c35_87 a35_87 (blockC 3 a35_65 (seqC G PP (pol 35) CC lo c35_94 a35_94 (loopC G PP (pol 35) CC lo c35_58 a35_57 (blockC 2 a35_56 (seqC G PP (pol 35) CC lo c35_95 a35_95 (finR PP Go.Proofs.Try.f35.results.toList))))))))
noncomputable def F35 (G : GuardT) (lo : Nat) (x0 x1 : DV) (σ : Store) : Option (DV × Store) :=
  codeF G PP (pol 35) CC lo c35_0 a35_0 [x0, x1, ud, ud, ud, ud, ud, ud, ud, ud, ud, ud, ud, ud, ud, ud, ud, ud, ud, ud, ud, ud, ud, ud, ud, ud, ud, ud, ud, ud, ud, ud, ud, ud, ud, ud, ud, ud, ud, ud, ud, ud, ud, ud, ud, ud, ud, ud, ud, ud, ud, ud, ud, ud, ud, ud, ud, ud, ud, ud, ud, ud, ud, ud, ud, ud, ud, ud, ud, ud, ud, ud, ud, ud, ud, ud, ud, ud, ud, ud, ud, ud, ud, ud, ud, ud, ud, ud, ud, ud, ud, ud, ud, ud, ud, ud, ud, ud, ud, ud, ud, ud, ud, ud, ud, ud, ud, ud, ud, ud, ud, ud, ud, ud, ud, ud, ud, ud, ud, ud, ud, ud, ud, ud, ud, ud, ud, ud, ud, ud, ud, ud, ud, ud, ud, ud, ud, ud, ud] σ (finR PP Go.Proofs.Try.f35.results.toList)
theorem f35_L0_eq (G : GuardT) (hG : GuardOk G) (lo : Nat) (x1 x2 x7 x24 x25 x26 : DV) (σ : Store) : f35_L0 G lo x1 x2 x7 x24 x25 x26 σ =
    (binOp PP .lss 3 x26 x25).bind fun x27 =>
    condK x27
     (
      (indexAddr PP 51 x24 x26).bind fun x29 =>
      (load PP 22 x29 σ).bind fun x30 =>
      (len PP 22 x30 σ).bind fun x32 =>
      (binOp PP .neq 3 x32 (DV.p (PV.int IntKind.i64 (2)))).bind fun x33 =>
      condK x33
       (
        some ((DV.tuple [x26, (DV.p (PV.int IntKind.i64 (6)))]), σ)
       )
       (
        (indexAddr PP 22 x30 (DV.p (PV.int IntKind.i64 (0)))).bind fun x36 =>
        (load PP 3 x36 σ).bind fun x37 =>
        (fieldAddr PP 27 x2 0).bind fun x38 =>
        (fieldAddr PP 25 x38 0).bind fun x39 =>
        (load PP 3 x39 σ).bind fun x40 =>
        (binOp PP .sub 3 x40 (DV.p (PV.int IntKind.i64 (1)))).bind fun x41 =>
        (pureFn CC (DV.fn 53 []) [x37, (DV.p (PV.int IntKind.i64 (0))), x41] σ).bind fun x42 =>
        G _ x42 true (some (x30, σ)) σ fun x44 σ2 =>
        G _ x42 true ((indexAddr PP 22 x44 (DV.p (PV.int IntKind.i64 (1)))).bind fun v => some (v, σ2)) σ2 fun x45 σ3 =>
        G _ x42 true ((load PP 3 x45 σ3).bind fun v => some (v, σ3)) σ3 fun x46 σ4 =>
        G _ x42 true ((fieldAddr PP 27 x2 1).bind fun v => some (v, σ4)) σ4 fun x47 σ5 =>
        G _ x42 true ((fieldAddr PP 25 x47 0).bind fun v => some (v, σ5)) σ5 fun x48 σ6 =>
        G _ x42 true ((load PP 3 x48 σ6).bind fun v => some (v, σ6)) σ6 fun x49 σ7 =>
        G _ x42 true ((binOp PP .sub 3 x49 (DV.p (PV.int IntKind.i64 (1)))).bind fun v => some (v, σ7)) σ7 fun x50 σ8 =>
        G _ x42 true ((pureFn CC (DV.fn 53 []) [x46, (DV.p (PV.int IntKind.i64 (0))), x50] σ8).bind fun v => some (v, σ8)) σ8 fun x51 σ9 =>
        (pickV x42 x51 (DV.p (PV.bool false))).bind fun x52 =>
        (pureFn CC (DV.fn 56 []) [x52, (DV.p (PV.int IntKind.i64 (3)))] σ9).bind fun x53 =>
        (binOp PP .eql 3 x26 (DV.p (PV.int IntKind.i64 (0)))).bind fun x55 =>
        G _ x55 false (some (x1, σ9)) σ9 fun x57 σ10 =>
        G _ x55 false (some (x26, σ10)) σ10 fun x58 σ11 =>
        G _ x55 false ((binOp PP .sub 3 x58 (DV.p (PV.int IntKind.i64 (1)))).bind fun v => some (v, σ11)) σ11 fun x59 σ12 =>
        G _ x55 false ((indexAddr PP 51 x57 x59).bind fun v => some (v, σ12)) σ12 fun x60 σ13 =>
        G _ x55 false ((load PP 22 x60 σ13).bind fun v => some (v, σ13)) σ13 fun x61 σ14 =>
        G _ x55 false (some (x30, σ14)) σ14 fun x62 σ15 =>
        G _ x55 false ((pureFn CC (DV.fn 73 []) [x61, x62] σ15).bind fun v => some (v, σ15)) σ15 fun x63 σ16 =>
        G _ x55 false ((binOp PP .lss 3 x63 (DV.p (PV.int IntKind.i64 (0)))).bind fun v => some (v, σ16)) σ16 fun x64 σ17 =>
        (pickV x55 (DV.p (PV.bool true)) x64).bind fun x65 =>
        (pureFn CC (DV.fn 56 []) [x65, (DV.p (PV.int IntKind.i64 (13)))] σ17).bind fun x66 =>
        (buildSlice PP none 122 2 [(0, x53), (1, x66)] σ17).bind fun r67_18 =>
        (pureFn CC (DV.fn 54 []) [r67_18.1] r67_18.2).bind fun x68 =>
        (binOp PP .neq 30 x68 (DV.p (PV.int IntKind.i64 (0)))).bind fun x70 =>
        condK x70
         (
          some ((DV.tuple [x26, x68]), r67_18.2)
         )
         (
          (load PP 115 x7 r67_18.2).bind fun x73 =>
          (indexAddr PP 22 x30 (DV.p (PV.int IntKind.i64 (0)))).bind fun x75 =>
          (load PP 3 x75 r67_18.2).bind fun x76 =>
          (indexAddr PP 22 x30 (DV.p (PV.int IntKind.i64 (1)))).bind fun x78 =>
          (load PP 3 x78 r67_18.2).bind fun x79 =>
          (build PP 111 [(0, x76), (1, x79)]).bind fun x80 =>
          (mapUpdate PP lo 115 x73 x80 (DV.p (PV.bool true)) r67_18.2).bind fun σ19 =>
          (binOp PP .add 3 x26 (DV.p (PV.int IntKind.i64 (1)))).bind fun x81 =>
          f35_L0 G lo x1 x2 x7 x24 x25 x81 σ19
         )
       )
     )
     (
      (load PP 27 x2 σ).bind fun x82 =>
      (pureFn CC (DV.fn 43 []) [x82] σ).bind fun x83 =>
      (len PP 51 x1 σ).bind fun x86 =>
      f35_L1 G lo x2 x83 (DV.fn 74 [x7]) x1 x86 (DV.p (PV.int IntKind.i64 (0))) σ
     ) := (loopF_eq G hG).trans (by kernel_rfl)
theorem f35_L1_eq (G : GuardT) (hG : GuardOk G) (lo : Nat) (x2 x11 x12 x85 x86 x87 : DV) (σ : Store) : f35_L1 G lo x2 x11 x12 x85 x86 x87 σ =
    (binOp PP .lss 3 x87 x86).bind fun x88 =>
    condK x88
     (
      (indexAddr PP 51 x85 x87).bind fun x90 =>
      (load PP 22 x90 σ).bind fun x91 =>
      (fieldAddr PP 27 x2 2).bind fun x92 =>
      (load PP 22 x92 σ).bind fun x93 =>
      (indexAddr PP 22 x91 (DV.p (PV.int IntKind.i64 (0)))).bind fun x95 =>
      (load PP 3 x95 σ).bind fun x96 =>
      (indexAddr PP 22 x93 x96).bind fun x97 =>
      (load PP 3 x97 σ).bind fun x98 =>
      (fieldAddr PP 27 x2 3).bind fun x99 =>
      (load PP 22 x99 σ).bind fun x100 =>
      (indexAddr PP 22 x91 (DV.p (PV.int IntKind.i64 (1)))).bind fun x102 =>
      (load PP 3 x102 σ).bind fun x103 =>
      (indexAddr PP 22 x100 x103).bind fun x104 =>
      (load PP 3 x104 σ).bind fun x105 =>
      (binOp PP .eql 3 x98 x105).bind fun x106 =>
      (fieldAddr PP 27 x2 0).bind fun x107 =>
      (fieldAddr PP 25 x107 2).bind fun x108 =>
      (load PP 23 x108 σ).bind fun x109 =>
      (len PP 23 x109 σ).bind fun x110 =>
      f35_L2 G lo x2 x11 x12 x87 x91 x106 x85 x86 x87 x109 x110 (DV.p (PV.int IntKind.i64 (0))) σ
     )
     (
      some ((DV.tuple [(DV.p (PV.int IntKind.i64 (0))), (DV.p (PV.int IntKind.i64 (0)))]), σ)
     ) := (loopF_eq G hG).trans (by kernel_rfl)
theorem f35_L2_eq (G : GuardT) (hG : GuardOk G) (lo : Nat) (x2 x11 x12 x13 x14 x15 x85 x86 x87 x109 x110 x111 : DV) (σ : Store) : f35_L2 G lo x2 x11 x12 x13 x14 x15 x85 x86 x87 x109 x110 x111 σ =
    (binOp PP .lss 3 x111 x110).bind fun x112 =>
    condK x112
     (
      (indexAddr PP 23 x109 x111).bind fun x113 =>
      (load PP 100 x113 σ).bind fun x114 =>
      (zeroOf PP 100).bind fun z17 =>
      (store PP lo 100 (DV.ptr (List.length σ) 0) x114 (σ ++ [Row.mix z17])).bind fun σ20 =>
      G _ x15 true ((fieldAddr PP 100 (DV.ptr (List.length σ) 0) 0).bind fun v => some (v, σ20)) σ20 fun x117 σ21 =>
      G _ x15 true ((load PP 3 x117 σ21).bind fun v => some (v, σ21)) σ21 fun x118 σ22 =>
      G _ x15 true (some (x14, σ22)) σ22 fun x119 σ23 =>
      G _ x15 true ((indexAddr PP 22 x119 (DV.p (PV.int IntKind.i64 (0)))).bind fun v => some (v, σ23)) σ23 fun x120 σ24 =>
      G _ x15 true ((load PP 3 x120 σ24).bind fun v => some (v, σ24)) σ24 fun x121 σ25 =>
      G _ x15 true ((binOp PP .neq 3 x118 x121).bind fun v => some (v, σ25)) σ25 fun x122 σ26 =>
      G _ x15 true (some (x122, σ26)) σ26 fun x123 σ27 =>
      G _ x123 false (some (x11, σ27)) σ27 fun x124 σ28 =>
      G _ x123 false ((fieldAddr PP 100 (DV.ptr (List.length σ) 0) 1).bind fun v => some (v, σ28)) σ28 fun x125 σ29 =>
      G _ x123 false ((load PP 3 x125 σ29).bind fun v => some (v, σ29)) σ29 fun x126 σ30 =>
      G _ x123 false (some (x14, σ30)) σ30 fun x127 σ31 =>
      G _ x123 false ((indexAddr PP 22 x127 (DV.p (PV.int IntKind.i64 (1)))).bind fun v => some (v, σ31)) σ31 fun x128 σ32 =>
      G _ x123 false ((load PP 3 x128 σ32).bind fun v => some (v, σ32)) σ32 fun x129 σ33 =>
      G _ x123 false (some (x12, σ33)) σ33 fun x130 σ34 =>
      G _ x123 false ((pureFn CC (DV.fn 66 []) [x124, x126, x129, x130] σ34).bind fun v => some (v, σ34)) σ34 fun x131 σ35 =>
      G _ x15 true ((pickV x123 (DV.p (PV.bool true)) x131).bind fun v => some (v, σ35)) σ35 fun x132 σ36 =>
      (pickV x15 x132 (DV.p (PV.bool false))).bind fun x133 =>
      (binOp PP .add 3 x111 (DV.p (PV.int IntKind.i64 (1)))).bind fun x134 =>
      f35_L2 G lo x2 x11 x12 x13 x14 x133 x85 x86 x87 x109 x110 x134 σ36
     )
     (
      (unOp .not x15).bind fun x136 =>
      condK x136
       (
        some ((DV.tuple [x13, (DV.p (PV.int IntKind.i64 (31)))]), σ)
       )
       (
        (binOp PP .add 3 x87 (DV.p (PV.int IntKind.i64 (1)))).bind fun x138 =>
        f35_L1 G lo x2 x11 x12 x85 x86 x138 σ
       )
     ) := (loopF_eq G hG).trans (by kernel_rfl)
theorem F35_eq (G : GuardT) (lo : Nat) (x0 x1 : DV) (σ : Store) : F35 G lo x0 x1 σ =
    (boxV x0).bind fun z2 =>
    (load PP 27 (DV.ptr (List.length σ) 0) (σ ++ [Row.mix z2])).bind fun x18 =>
    (pureFn CC (DV.fn 41 []) [x18] (σ ++ [Row.mix z2])).bind fun x19 =>
    (binOp PP .neq 30 x19 (DV.p (PV.int IntKind.i64 (0)))).bind fun x21 =>
    condK x21
     (
      some ((DV.tuple [(DV.p (PV.int IntKind.i64 (0))), x19]), (σ ++ [Row.mix z2]))
     )
     (
      (zeroOf PP 115).bind fun z7 =>
      (store PP lo 115 (DV.ptr (List.length ((σ ++ [Row.mix z2]) ++ [Row.map []])) 0) (DV.map (List.length (σ ++ [Row.mix z2]))) (((σ ++ [Row.mix z2]) ++ [Row.map []]) ++ [Row.mix z7])).bind fun σ1 =>
      (len PP 51 x1 σ1).bind fun x25 =>
      f35_L0 G lo x1 (DV.ptr (List.length σ) 0) (DV.ptr (List.length ((σ ++ [Row.mix z2]) ++ [Row.map []])) 0) x1 x25 (DV.p (PV.int IntKind.i64 (0))) σ1
     ) := by kernel_rfl
theorem F35_call {lo : Nat} {x0 x1 : DV} {σ : Store} {r : DV × Store} (h : F35 guardT lo x0 x1 σ = some r) : CC lo 35 [x0, x1] σ = some r :=
  callL_run Go.Proofs.Try.func35 (by decide +kernel) rfl (by decide +kernel) h
noncomputable def c37_0 : Code := bodyOf Go.Proofs.Try.f37
noncomputable def a37_0 : Ann := (pol 37).ann
noncomputable def c37_1 : Code := Code.fstC c37_0
noncomputable def a37_1 : Ann := Ann.left a37_0
noncomputable def c37_2 : Code := Code.sndC c37_0
noncomputable def a37_2 : Ann := Ann.right a37_0
noncomputable def c37_3 : Code := Code.fstC c37_2
noncomputable def a37_3 : Ann := Ann.left a37_2
noncomputable def c37_39 : Code := Code.sndC c37_2
noncomputable def a37_39 : Ann := Ann.right a37_2
noncomputable def c37_4 : Code := Code.fstC c37_3
noncomputable def a37_4 : Ann := Ann.left a37_3
noncomputable def c37_5 : Code := Code.sndC c37_3
noncomputable def a37_5 : Ann := Ann.right a37_3
noncomputable def c37_6 : Code := Code.fstC c37_5
noncomputable def a37_6 : Ann := Ann.left a37_5
noncomputable def c37_7 : Code := Code.fstC c37_6
noncomputable def a37_7 : Ann := Ann.left a37_6
noncomputable def c37_8 : Code := Code.fstC c37_7
noncomputable def a37_8 : Ann := Ann.left a37_7
noncomputable def c37_13 : Code := Code.sndC c37_7
noncomputable def a37_13 : Ann := Ann.right a37_7
noncomputable def c37_9 : Code := Code.fstC c37_8
noncomputable def a37_9 : Ann := Ann.left a37_8
noncomputable def c37_10 : Code := Code.sndC c37_8
noncomputable def a37_10 : Ann := Ann.right a37_8
noncomputable def c37_11 : Code := Code.fstC c37_10
noncomputable def a37_11 : Ann := Ann.left a37_10
noncomputable def c37_12 : Code := Code.sndC c37_10
noncomputable def a37_12 : Ann := Ann.right a37_10
noncomputable def c37_14 : Code := Code.fstC c37_13
noncomputable def a37_14 : Ann := Ann.left a37_13
noncomputable def c37_38 : Code := Code.sndC c37_13
noncomputable def a37_38 : Ann := Ann.right a37_13
noncomputable def c37_15 : Code := Code.fstC c37_14
noncomputable def a37_15 : Ann := Ann.left a37_14
noncomputable def c37_16 : Code := Code.fstC c37_15
noncomputable def a37_16 : Ann := Ann.left a37_15
noncomputable def c37_23 : Code := Code.sndC c37_15
noncomputable def a37_23 : Ann := Ann.right a37_15
noncomputable def c37_17 : Code := Code.fstC c37_16
noncomputable def a37_17 : Ann := Ann.left a37_16
noncomputable def c37_18 : Code := Code.sndC c37_16
noncomputable def a37_18 : Ann := Ann.right a37_16
noncomputable def c37_19 : Code := Code.fstC c37_18
noncomputable def a37_19 : Ann := Ann.left a37_18
noncomputable def c37_22 : Code := Code.sndC c37_18
noncomputable def a37_22 : Ann := Ann.right a37_18
noncomputable def c37_20 : Code := Code.fstC c37_19
noncomputable def a37_20 : Ann := Ann.left a37_19
noncomputable def c37_21 : Code := Code.sndC c37_19
noncomputable def a37_21 : Ann := Ann.right a37_19
noncomputable def c37_24 : Code := Code.fstC c37_23
noncomputable def a37_24 : Ann := Ann.left a37_23
noncomputable def c37_31 : Code := Code.sndC c37_23
noncomputable def a37_31 : Ann := Ann.right a37_23
noncomputable def c37_25 : Code := Code.fstC c37_24
noncomputable def a37_25 : Ann := Ann.left a37_24
noncomputable def c37_26 : Code := Code.sndC c37_24
noncomputable def a37_26 : Ann := Ann.right a37_24
noncomputable def c37_27 : Code := Code.fstC c37_26
noncomputable def a37_27 : Ann := Ann.left a37_26
noncomputable def c37_30 : Code := Code.sndC c37_26
noncomputable def a37_30 : Ann := Ann.right a37_26
noncomputable def c37_28 : Code := Code.fstC c37_27
noncomputable def a37_28 : Ann := Ann.left a37_27
noncomputable def c37_29 : Code := Code.sndC c37_27
noncomputable def a37_29 : Ann := Ann.right a37_27
noncomputable def c37_32 : Code := Code.fstC c37_31
noncomputable def a37_32 : Ann := Ann.left a37_31
noncomputable def c37_33 : Code := Code.sndC c37_31
noncomputable def a37_33 : Ann := Ann.right a37_31
noncomputable def c37_34 : Code := Code.fstC c37_33
noncomputable def a37_34 : Ann := Ann.left a37_33
noncomputable def c37_37 : Code := Code.sndC c37_33
noncomputable def a37_37 : Ann := Ann.right a37_33
noncomputable def c37_35 : Code := Code.fstC c37_34
noncomputable def a37_35 : Ann := Ann.left a37_34
noncomputable def c37_36 : Code := Code.sndC c37_34
noncomputable def a37_36 : Ann := Ann.right a37_34
noncomputable def c37_40 : Code := Code.fstC c37_39
noncomputable def a37_40 : Ann := Ann.left a37_39
noncomputable def c37_60 : Code := Code.sndC c37_39
noncomputable def a37_60 : Ann := Ann.right a37_39
noncomputable def c37_41 : Code := Code.fstC c37_40
noncomputable def a37_41 : Ann := Ann.left a37_40
noncomputable def c37_42 : Code := Code.sndC c37_40
noncomputable def a37_42 : Ann := Ann.right a37_40
noncomputable def c37_43 : Code := Code.fstC c37_42
noncomputable def a37_43 : Ann := Ann.left a37_42
noncomputable def c37_44 : Code := Code.fstC c37_43
noncomputable def a37_44 : Ann := Ann.left a37_43
noncomputable def c37_45 : Code := Code.fstC c37_44
noncomputable def a37_45 : Ann := Ann.left a37_44
noncomputable def c37_50 : Code := Code.sndC c37_44
noncomputable def a37_50 : Ann := Ann.right a37_44
noncomputable def c37_46 : Code := Code.fstC c37_45
noncomputable def a37_46 : Ann := Ann.left a37_45
noncomputable def c37_47 : Code := Code.sndC c37_45
noncomputable def a37_47 : Ann := Ann.right a37_45
noncomputable def c37_48 : Code := Code.fstC c37_47
noncomputable def a37_48 : Ann := Ann.left a37_47
noncomputable def c37_49 : Code := Code.sndC c37_47
noncomputable def a37_49 : Ann := Ann.right a37_47
noncomputable def c37_51 : Code := Code.fstC c37_50
noncomputable def a37_51 : Ann := Ann.left a37_50
noncomputable def c37_59 : Code := Code.sndC c37_50
noncomputable def a37_59 : Ann := Ann.right a37_50
noncomputable def c37_52 : Code := Code.fstC c37_51
noncomputable def a37_52 : Ann := Ann.left a37_51
noncomputable def c37_53 : Code := Code.fstC c37_52
noncomputable def a37_53 : Ann := Ann.left a37_52
noncomputable def c37_54 : Code := Code.sndC c37_52
noncomputable def a37_54 : Ann := Ann.right a37_52
noncomputable def c37_55 : Code := Code.fstC c37_54
noncomputable def a37_55 : Ann := Ann.left a37_54
noncomputable def c37_58 : Code := Code.sndC c37_54
noncomputable def a37_58 : Ann := Ann.right a37_54
noncomputable def c37_56 : Code := Code.fstC c37_55
noncomputable def a37_56 : Ann := Ann.left a37_55
noncomputable def c37_57 : Code := Code.sndC c37_55
noncomputable def a37_57 : Ann := Ann.right a37_55
noncomputable def c37_61 : Code := Code.fstC c37_60
noncomputable def a37_61 : Ann := Ann.left a37_60
noncomputable def c37_62 : Code := Code.sndC c37_60
noncomputable def a37_62 : Ann := Ann.right a37_60
noncomputable def f37_L0 (G : GuardT) (lo : Nat) (x1 x2 x6 : DV) (σ : Store) : Option (DV × Store) :=
  codeF G PP (pol 37) CC lo (.loop c37_7) a37_6 [ud, x1, x2, ud, ud, ud, x6, ud, ud, ud, ud, ud, ud, ud, ud, ud, ud, ud, ud, ud, ud, ud, ud, ud, ud, ud, ud, ud, ud, ud, ud, ud, ud, ud, ud, ud, ud, ud, ud, ud, ud, ud, ud, ud, ud, ud, ud, ud, ud, ud, ud, ud, ud, ud, ud, ud, ud, ud, ud, ud, ud, ud, ud, ud, ud, ud, ud, ud, ud, ud, ud, ud, ud, ud, ud, ud, ud, ud, ud, ud, ud, ud, ud, ud, ud, ud, ud] σ
   (blockC 0 a37_5 (seqC G PP (pol 37) CC lo c37_39 a37_39 (finR PP Go.Proofs.Try.f37.results.toList)))
noncomputable def f37_L1 (G : GuardT) (lo : Nat) (x1 x2 x7 : DV) (σ : Store) : Option (DV × Store) :=
  codeF G PP (pol 37) CC lo (.loop c37_44) a37_43 [ud, x1, x2, ud, ud, ud, ud, x7, ud, ud, ud, ud, ud, ud, ud, ud, ud, ud, ud, ud, ud, ud, ud, ud, ud, ud, ud, ud, ud, ud, ud, ud, ud, ud, ud, ud, ud, ud, ud, ud, ud, ud, ud, ud, ud, ud, ud, ud, ud, ud, ud, ud, ud, ud, ud, ud, ud, ud, ud, ud, ud, ud, ud, ud, ud, ud, ud, ud, ud, ud, ud, ud, ud, ud, ud, ud, ud, ud, ud, ud, ud, ud, ud, ud, ud, ud, ud] σ
   (blockC 2 a37_42 (seqC G PP (pol 37) CC lo c37_60 a37_60 (finR PP Go.Proofs.Try.f37.results.toList)))
noncomputable def F37 (G : GuardT) (lo : Nat) (x0 x1 : DV) (σ : Store) : Option (DV × Store) :=
  codeF G PP (pol 37) CC lo c37_0 a37_0 [x0, x1, ud, ud, ud, ud, ud, ud, ud, ud, ud, ud, ud, ud, ud, ud, ud, ud, ud, ud, ud, ud, ud, ud, ud, ud, ud, ud, ud, ud, ud, ud, ud, ud, ud, ud, ud, ud, ud, ud, ud, ud, ud, ud, ud, ud, ud, ud, ud, ud, ud, ud, ud, ud, ud, ud, ud, ud, ud, ud, ud, ud, ud, ud, ud, ud, ud, ud, ud, ud, ud, ud, ud, ud, ud, ud, ud, ud, ud, ud, ud, ud, ud, ud, ud, ud, ud] σ (finR PP Go.Proofs.Try.f37.results.toList)
theorem f37_L0_eq (G : GuardT) (hG : GuardOk G) (lo : Nat) (x1 x2 x6 : DV) (σ : Store) : f37_L0 G lo x1 x2 x6 σ =
    (len PP 51 x1 σ).bind fun x10 =>
    (binOp PP .lss 3 x6 x10).bind fun x11 =>
    condK x11
     (
      (indexAddr PP 51 x1 x6).bind fun x16 =>
      (load PP 22 x16 σ).bind fun x17 =>
      (len PP 22 x17 σ).bind fun x18 =>
      (binOp PP .neq 3 x18 (DV.p (PV.int IntKind.i64 (2)))).bind fun x19 =>
      condK x19
       (
        some ((DV.tuple [x6, (DV.p (PV.int IntKind.i64 (6)))]), σ)
       )
       (
        (indexAddr PP 51 x1 x6).bind fun x23 =>
        (load PP 22 x23 σ).bind fun x24 =>
        (indexAddr PP 22 x24 (DV.p (PV.int IntKind.i64 (0)))).bind fun x25 =>
        (load PP 3 x25 σ).bind fun x26 =>
        (fieldAddr PP 27 x2 0).bind fun x27 =>
        (fieldAddr PP 25 x27 0).bind fun x28 =>
        (load PP 3 x28 σ).bind fun x29 =>
        (binOp PP .sub 3 x29 (DV.p (PV.int IntKind.i64 (1)))).bind fun x30 =>
        (pureFn CC (DV.fn 22 []) [x26, (DV.p (PV.int IntKind.i64 (0))), x30] σ).bind fun x31 =>
        (unOp .not x31).bind fun x32 =>
        G _ x32 false (some (x1, σ)) σ fun x34 σ1 =>
        G _ x32 false (some (x6, σ1)) σ1 fun x35 σ2 =>
        G _ x32 false ((indexAddr PP 51 x34 x35).bind fun v => some (v, σ2)) σ2 fun x36 σ3 =>
        G _ x32 false ((load PP 22 x36 σ3).bind fun v => some (v, σ3)) σ3 fun x37 σ4 =>
        G _ x32 false ((indexAddr PP 22 x37 (DV.p (PV.int IntKind.i64 (1)))).bind fun v => some (v, σ4)) σ4 fun x38 σ5 =>
        G _ x32 false ((load PP 3 x38 σ5).bind fun v => some (v, σ5)) σ5 fun x39 σ6 =>
        G _ x32 false ((fieldAddr PP 27 x2 1).bind fun v => some (v, σ6)) σ6 fun x40 σ7 =>
        G _ x32 false ((fieldAddr PP 25 x40 0).bind fun v => some (v, σ7)) σ7 fun x41 σ8 =>
        G _ x32 false ((load PP 3 x41 σ8).bind fun v => some (v, σ8)) σ8 fun x42 σ9 =>
        G _ x32 false ((binOp PP .sub 3 x42 (DV.p (PV.int IntKind.i64 (1)))).bind fun v => some (v, σ9)) σ9 fun x43 σ10 =>
        G _ x32 false ((pureFn CC (DV.fn 22 []) [x39, (DV.p (PV.int IntKind.i64 (0))), x43] σ10).bind fun v => some (v, σ10)) σ10 fun x44 σ11 =>
        G _ x32 false ((unOp .not x44).bind fun v => some (v, σ11)) σ11 fun x45 σ12 =>
        (pickV x32 (DV.p (PV.bool true)) x45).bind fun x46 =>
        condK x46
         (
          some ((DV.tuple [x6, (DV.p (PV.int IntKind.i64 (3)))]), σ12)
         )
         (
          (binOp PP .gtr 3 x6 (DV.p (PV.int IntKind.i64 (0)))).bind fun x49 =>
          G _ x49 true (some (x1, σ12)) σ12 fun x51 σ13 =>
          G _ x49 true (some (x6, σ13)) σ13 fun x52 σ14 =>
          G _ x49 true ((binOp PP .sub 3 x52 (DV.p (PV.int IntKind.i64 (1)))).bind fun v => some (v, σ14)) σ14 fun x53 σ15 =>
          G _ x49 true ((indexAddr PP 51 x51 x53).bind fun v => some (v, σ15)) σ15 fun x54 σ16 =>
          G _ x49 true ((load PP 22 x54 σ16).bind fun v => some (v, σ16)) σ16 fun x55 σ17 =>
          G _ x49 true (some (x1, σ17)) σ17 fun x56 σ18 =>
          G _ x49 true (some (x6, σ18)) σ18 fun x57 σ19 =>
          G _ x49 true ((indexAddr PP 51 x56 x57).bind fun v => some (v, σ19)) σ19 fun x58 σ20 =>
          G _ x49 true ((load PP 22 x58 σ20).bind fun v => some (v, σ20)) σ20 fun x59 σ21 =>
          G _ x49 true ((pureFn CC (DV.fn 70 []) [x55, x59] σ21).bind fun v => some (v, σ21)) σ21 fun x60 σ22 =>
          G _ x49 true ((binOp PP .geq 3 x60 (DV.p (PV.int IntKind.i64 (0)))).bind fun v => some (v, σ22)) σ22 fun x61 σ23 =>
          (pickV x49 x61 (DV.p (PV.bool false))).bind fun x62 =>
          condK x62
           (
            some ((DV.tuple [x6, (DV.p (PV.int IntKind.i64 (13)))]), σ23)
           )
           (
            (binOp PP .add 3 x6 (DV.p (PV.int IntKind.i64 (1)))).bind fun x13 =>
            f37_L0 G lo x1 x2 x13 σ23
           )
         )
       )
     )
     (
      f37_L1 G lo x1 x2 (DV.p (PV.int IntKind.i64 (0))) σ
     ) := (loopF_eq G hG).trans (by kernel_rfl)
theorem f37_L1_eq (G : GuardT) (hG : GuardOk G) (lo : Nat) (x1 x2 x7 : DV) (σ : Store) : f37_L1 G lo x1 x2 x7 σ =
    (len PP 51 x1 σ).bind fun x66 =>
    (binOp PP .lss 3 x7 x66).bind fun x67 =>
    condK x67
     (
      (load PP 27 x2 σ).bind fun x70 =>
      (indexAddr PP 51 x1 x7).bind fun x74 =>
      (load PP 22 x74 σ).bind fun x75 =>
      (indexAddr PP 22 x75 (DV.p (PV.int IntKind.i64 (0)))).bind fun x76 =>
      (load PP 3 x76 σ).bind fun x77 =>
      (indexAddr PP 51 x1 x7).bind fun x80 =>
      (load PP 22 x80 σ).bind fun x81 =>
      (indexAddr PP 22 x81 (DV.p (PV.int IntKind.i64 (1)))).bind fun x82 =>
      (load PP 3 x82 σ).bind fun x83 =>
      (pureFn CC (DV.fn 62 []) [x70, x1, x77, x83] σ).bind fun x84 =>
      (unOp .not x84).bind fun x85 =>
      condK x85
       (
        some ((DV.tuple [x7, (DV.p (PV.int IntKind.i64 (31)))]), σ)
       )
       (
        (binOp PP .add 3 x7 (DV.p (PV.int IntKind.i64 (1)))).bind fun x69 =>
        f37_L1 G lo x1 x2 x69 σ
       )
     )
     (
      some ((DV.tuple [(DV.p (PV.int IntKind.i64 (0))), (DV.p (PV.int IntKind.i64 (0)))]), σ)
     ) := (loopF_eq G hG).trans (by kernel_rfl)
theorem F37_eq (G : GuardT) (lo : Nat) (x0 x1 : DV) (σ : Store) : F37 G lo x0 x1 σ =
    (boxV x0).bind fun z2 =>
    f37_L0 G lo x1 (DV.ptr (List.length σ) 0) (DV.p (PV.int IntKind.i64 (0))) (σ ++ [Row.mix z2]) := by kernel_rfl
theorem F37_call {lo : Nat} {x0 x1 : DV} {σ : Store} {r : DV × Store} (h : F37 guardT lo x0 x1 σ = some r) : CC lo 37 [x0, x1] σ = some r :=
  callL_run Go.Proofs.Try.func37 (by decide +kernel) rfl (by decide +kernel) h
noncomputable def c8_0 : Code := bodyOf Go.Proofs.Try.f8
noncomputable def a8_0 : Ann := (pol 8).ann
noncomputable def c8_1 : Code := Code.fstC c8_0
noncomputable def a8_1 : Ann := Ann.left a8_0
noncomputable def c8_2 : Code := Code.sndC c8_0
noncomputable def a8_2 : Ann := Ann.right a8_0
noncomputable def c8_3 : Code := Code.fstC c8_2
noncomputable def a8_3 : Ann := Ann.left a8_2
noncomputable def c8_10 : Code := Code.sndC c8_2
noncomputable def a8_10 : Ann := Ann.right a8_2
noncomputable def c8_4 : Code := Code.fstC c8_3
noncomputable def a8_4 : Ann := Ann.left a8_3
noncomputable def c8_5 : Code := Code.sndC c8_3
noncomputable def a8_5 : Ann := Ann.right a8_3
noncomputable def c8_6 : Code := Code.fstC c8_5
noncomputable def a8_6 : Ann := Ann.left a8_5
noncomputable def c8_9 : Code := Code.sndC c8_5
noncomputable def a8_9 : Ann := Ann.right a8_5
noncomputable def c8_7 : Code := Code.fstC c8_6
noncomputable def a8_7 : Ann := Ann.left a8_6
noncomputable def c8_8 : Code := Code.sndC c8_6
noncomputable def a8_8 : Ann := Ann.right a8_6
noncomputable def c8_11 : Code := Code.fstC c8_10
noncomputable def a8_11 : Ann := Ann.left a8_10
noncomputable def c8_18 : Code := Code.sndC c8_10
noncomputable def a8_18 : Ann := Ann.right a8_10
noncomputable def c8_12 : Code := Code.fstC c8_11
noncomputable def a8_12 : Ann := Ann.left a8_11
noncomputable def c8_13 : Code := Code.sndC c8_11
noncomputable def a8_13 : Ann := Ann.right a8_11
noncomputable def c8_14 : Code := Code.fstC c8_13
noncomputable def a8_14 : Ann := Ann.left a8_13
noncomputable def c8_17 : Code := Code.sndC c8_13
noncomputable def a8_17 : Ann := Ann.right a8_13
noncomputable def c8_15 : Code := Code.fstC c8_14
noncomputable def a8_15 : Ann := Ann.left a8_14
noncomputable def c8_16 : Code := Code.sndC c8_14
noncomputable def a8_16 : Ann := Ann.right a8_14
noncomputable def c8_19 : Code := Code.fstC c8_18
noncomputable def a8_19 : Ann := Ann.left a8_18
noncomputable def c8_20 : Code := Code.sndC c8_18
noncomputable def a8_20 : Ann := Ann.right a8_18
noncomputable def c8_21 : Code := Code.fstC c8_20
noncomputable def a8_21 : Ann := Ann.left a8_20
noncomputable def c8_30 : Code := Code.sndC c8_20
noncomputable def a8_30 : Ann := Ann.right a8_20
noncomputable def c8_22 : Code := Code.fstC c8_21
noncomputable def a8_22 : Ann := Ann.left a8_21
noncomputable def c8_23 : Code := Code.sndC c8_21
noncomputable def a8_23 : Ann := Ann.right a8_21
noncomputable def c8_24 : Code := Code.fstC c8_23
noncomputable def a8_24 : Ann := Ann.left a8_23
noncomputable def c8_25 : Code := Code.sndC c8_23
noncomputable def a8_25 : Ann := Ann.right a8_23
noncomputable def c8_26 : Code := Code.fstC c8_25
noncomputable def a8_26 : Ann := Ann.left a8_25
noncomputable def c8_29 : Code := Code.sndC c8_25
noncomputable def a8_29 : Ann := Ann.right a8_25
noncomputable def c8_27 : Code := Code.fstC c8_26
noncomputable def a8_27 : Ann := Ann.left a8_26
noncomputable def c8_28 : Code := Code.sndC c8_26
noncomputable def a8_28 : Ann := Ann.right a8_26
noncomputable def c8_31 : Code := Code.fstC c8_30
noncomputable def a8_31 : Ann := Ann.left a8_30
noncomputable def c8_32 : Code := Code.sndC c8_30
noncomputable def a8_32 : Ann := Ann.right a8_30
noncomputable def c8_33 : Code := Code.fstC c8_32
noncomputable def a8_33 : Ann := Ann.left a8_32
noncomputable def c8_34 : Code := Code.sndC c8_32
noncomputable def a8_34 : Ann := Ann.right a8_32
noncomputable def F8 (G : GuardT) (lo : Nat) (x0 x1 : DV) (σ : Store) : Option (DV × Store) :=
  codeF G PP (pol 8) CC lo c8_0 a8_0 [x0, x1, ud, ud, ud, ud, ud, ud, ud, ud, ud, ud, ud, ud, ud, ud, ud, ud, ud, ud, ud, ud, ud, ud, ud, ud, ud, ud, ud, ud, ud, ud, ud, ud, ud, ud, ud, ud, ud, ud, ud, ud, ud, ud, ud, ud, ud, ud, ud, ud, ud, ud, ud] σ (finR PP Go.Proofs.Try.f8.results.toList)
theorem F8_eq (G : GuardT) (lo : Nat) (x0 x1 : DV) (σ : Store) : F8 G lo x0 x1 σ =
    (boxV x0).bind fun z2 =>
    (pureFn CC (DV.fn 10 []) [] (σ ++ [Row.mix z2])).bind fun x10 =>
    (unOp .not x10).bind fun x11 =>
    condK x11
     (
      some ((DV.p (PV.bool false)), (σ ++ [Row.mix z2]))
     )
     (
      (load PP 27 (DV.ptr (List.length σ) 0) (σ ++ [Row.mix z2])).bind fun x12 =>
      (pureFn CC (DV.fn 11 []) [x12] (σ ++ [Row.mix z2])).bind fun x13 =>
      (unOp .not x13).bind fun x14 =>
      G _ x14 false (some (x1, (σ ++ [Row.mix z2]))) (σ ++ [Row.mix z2]) fun x16 σ1 =>
      G _ x14 false ((pureFn CC (DV.fn 34 []) [x16] σ1).bind fun v => some (v, σ1)) σ1 fun x17 σ2 =>
      G _ x14 false ((unOp .not x17).bind fun v => some (v, σ2)) σ2 fun x18 σ3 =>
      (pickV x14 (DV.p (PV.bool true)) x18).bind fun x19 =>
      condK x19
       (
        some ((DV.p (PV.bool true)), σ3)
       )
       (
        (load PP 27 (DV.ptr (List.length σ) 0) σ3).bind fun x21 =>
        (pureFn CC (DV.fn 13 []) [x21] σ3).bind fun x22 =>
        (pureFn CC (DV.fn 36 []) [x1] σ3).bind fun x24 =>
        (pureFn CC (DV.fn 35 []) [x22, x24] σ3).bind fun x25 =>
        (extractV x25 0).bind fun x26 =>
        (extractV x25 1).bind fun x27 =>
        (load PP 27 (DV.ptr (List.length σ) 0) σ3).bind fun x28 =>
        (pureFn CC (DV.fn 15 []) [x28] σ3).bind fun x29 =>
        (binOp PP .neq 3 x29 (DV.p (PV.int IntKind.i64 (0)))).bind fun x31 =>
        condK x31
         (
          (binOp PP .eql 3 x27 x29).bind fun x34 =>
          G _ x34 true (some (x26, σ3)) σ3 fun x36 σ4 =>
          G _ x34 true ((binOp PP .eql 3 x36 (DV.p (PV.int IntKind.i64 (0)))).bind fun v => some (v, σ4)) σ4 fun x37 σ5 =>
          (pickV x34 x37 (DV.p (PV.bool false))).bind fun x38 =>
          some (x38, σ5)
         )
         (
          (load PP 27 (DV.ptr (List.length σ) 0) σ3).bind fun x40 =>
          (pureFn CC (DV.fn 37 []) [x40, x1] σ3).bind fun x42 =>
          (extractV x42 0).bind fun x43 =>
          (extractV x42 1).bind fun x44 =>
          (binOp PP .eql 3 x27 x44).bind fun x47 =>
          G _ x47 true (some (x26, σ3)) σ3 fun x49 σ6 =>
          G _ x47 true (some (x43, σ6)) σ6 fun x50 σ7 =>
          G _ x47 true ((binOp PP .eql 3 x49 x50).bind fun v => some (v, σ7)) σ7 fun x51 σ8 =>
          (pickV x47 x51 (DV.p (PV.bool false))).bind fun x52 =>
          some (x52, σ8)
         )
       )
     ) := by kernel_rfl
theorem F8_call {lo : Nat} {x0 x1 : DV} {σ : Store} {r : DV × Store} (h : F8 guardT lo x0 x1 σ = some r) : CC lo 8 [x0, x1] σ = some r :=
  callL_run Go.Proofs.Try.func8 (by decide +kernel) rfl (by decide +kernel) h
end Go.D
end
/- Lists of lists: bounds, copies, pairs of a relation. -/
section
set_option linter.unusedVariables false
set_option linter.unusedSimpArgs false
namespace Go.D

abbrev OI := Option (List Int)
def eLs : Option (List OI) → PV
  | none => .nilsl
  | some l => .sl false l.length (l.map eSl)
theorem u51 : PP.underlying 51 = some (.slice 22) := Eq.trans (by kernel_rfl) rfl
theorem s22 : size? PP 22 = some 1 := Eq.trans (by kernel_rfl) rfl
theorem len51 (o : Option (List OI)) (σ : Store) : len PP 51 (.p (eLs o)) σ = some (.p (.int .i64 ((L o).length : Nat))) := by cases o <;> simp [len, u51, eLs]
theorem idx51 {o : Option (List OI)} {i : Nat} (h : i < (L o).length) : indexAddr PP 51 (.p (eLs o)) (.p (.int .i64 (i : Nat))) = some (.pptr ((L o).map eSl) i) := by
  cases o with
  | none => simp at h
  | some l =>
    have h2 : (0 : Int) ≤ (i : Int) ∧ (i : Int) < (l.length : Nat) := by simp at h; omega
    simp [indexAddr, u51, s22, eLs, h2]
theorem load1_ls {l : List OI} {i : Nat} (h : i < l.length) (σ : Store) : load1 (.pptr (l.map eSl) i) σ = some (.p (eSl (l.getD i none))) :=
  load1_pptr (by simp [h, List.getD_eq_getElem?_getD]) σ
theorem loosens_ls (l : List OI) : loosens (l.map eSl) = l.map eSl := by
  induction l with
  | nil => rfl
  | cons a l ih => simp only [List.map_cons, loosens, loosen_sl, ih]
theorem loosen_ls (o : Option (List OI)) : loosen (eLs o) = eLs o := by
  cases o <;> simp [eLs, loosen, loosens_ls]
theorem ls_view (o : Option (List OI)) : view (.p (eLs o)) = .p (eLs o) := by simp [view, viewCell, loosen_ls]
theorem getD_at {α : Type} {l : List α} {i : Nat} (d : α) (h : i < l.length) : l.getD i d = l[i] := by rw [List.getD_eq_getElem?_getD, List.getElem?_eq_getElem h]; rfl

/-! ### Few short lists -/
def shortL (x : OI) : Bool := decide ((L x).length ≤ 4)
theorem L34 {o : Option (List OI)} (hl : (L o).length ≤ 60) {lo : Nat} {σ : Store} :
    ∀ (k i : Nat), (L o).length - i = k → i ≤ (L o).length → f34_L0 guardT lo (.p (eLs o)) (.p (pI (i : Nat))) σ = some (.p (.bool (((L o).drop i).all shortL)), σ)
  | 0, i, hk, hi => by
    have : i = (L o).length := by omega
    rw [f34_L0_eq guardT rfl]
    subst this
    simp [len51, b_lss, condK_false]
  | k + 1, i, hk, hi => by
    have h : i < (L o).length := by omega
    have h' : (i : Int) < ((L o).length : Nat) := by omega
    rw [f34_L0_eq guardT rfl]
    simp only [len51, b_lss, obind, h', decide_true, condK_true, idx51 h, load22, load1_ls h, len22, b_gtr, getD_at none h]
    rw [drop_cons h]
    by_cases hs : (L (L o)[i]).length ≤ 4
    · have : ¬ ((L (L o)[i]).length : Int) > 4 := by omega
      simp only [this, decide_false, condK_false, b_add, obind, wrap_succ (show i ≤ 1000000 by omega), List.all_cons, shortL, hs, decide_true, Bool.true_and]
      exact L34 hl k (i + 1) (by omega) (by omega)
    · have : ((L (L o)[i]).length : Int) > 4 := by omega
      simp only [this, decide_true, condK_true, List.all_cons, shortL, hs, decide_false, Bool.false_and]

def briefL (l : List OI) : Bool := decide (l.length ≤ 60) && l.all shortL
theorem S34 {o : Option (List OI)} {σ : Store} : pureV CC 34 [.p (eLs o)] σ = some (.p (.bool (briefL (L o)))) := by
  refine pureV_free (by simp [ls_view]) rfl (F34_call (r := (.p (.bool (briefL (L o))), [])) ?_) rfl
  rw [F34_eq]
  simp only [len51, obind, b_gtr, briefL]
  by_cases h : (L o).length ≤ 60
  · have h' : ¬ ((L o).length : Int) > 60 := by omega
    have := L34 (lo := 0) (σ := []) h _ 0 rfl (Nat.zero_le _)
    simp only [List.drop_zero] at this
    simp only [h', decide_false, condK_false, h, decide_true, Bool.true_and]
    exact this
  · have h' : ((L o).length : Int) > 60 := by omega
    simp only [h', decide_true, condK_true, h, decide_false, Bool.false_and]

/-! ### Lists that are appended to -/
/-- n elements of sz cells each, as they stand in a list that is appended to. -/
def Out (σ : Store) (lo sz n : Nat) (cs : List PV) (x : DV) : Prop :=
  cs.length = n * sz ∧ ((n = 0 ∧ x = .p .nilsl) ∨ (n ≠ 0 ∧ ∃ r ver, x = .osl r ver sz n cs ∧ σ[r]? = some (.tok ver) ∧ lo ≤ r))
/-- All rows but that of a list stay. -/
def Others (σ σ' : Store) (x : DV) : Prop := ∀ i row, σ[i]? = some row → (∀ r ver sz n cs, x = .osl r ver sz n cs → i ≠ r) → σ'[i]? = some row

theorem Out.zero {σ : Store} {lo sz : Nat} : Out σ lo sz 0 [] (.p .nilsl) := ⟨by simp, .inl ⟨rfl, rfl⟩⟩
theorem Others.mix {σ σ' : Store} {lo sz n : Nat} {cs : List PV} {x : DV} (h : Others σ σ' x) (ho : Out σ lo sz n cs x) {i : Nat} {row : Row} (hi : σ[i]? = some row) (hr : ∀ v, row ≠ .tok v) : σ'[i]? = some row := by
  refine h i row hi ?_
  rintro r ver sz' n' cs' rfl rfl
  rcases ho.2 with ⟨_, h2⟩ | ⟨_, r2, ver2, h2, h3, _⟩
  · cases h2
  · injection h2 with e1
    subst e1
    rw [hi] at h3
    injection h3 with h3
    exact hr _ h3

theorem Out.push {σ : Store} {t e lo sz b n : Nat} {z : List DV} {cs vs : List PV} {x : DV} (hs : srcType PP t = true) (hu : PP.underlying t = some (.slice e)) (h1 : size? PP e = some sz) (h2 : bytes? PP e = some b) (h3 : zeroOf PP e = some z)
    (h4 : z.length = sz) (hz : 0 < sz) (hb : 0 < b) (hb2 : b ≤ 1000) (hv : vs.length = sz) (ho : Out σ lo sz n cs x) (hn : n ≤ 1000000) (hlo : lo ≤ σ.length) :
    ∃ x' σ', append PP lo false t t x (.p (.sl true 1 vs)) σ = some (x', σ') ∧ Out σ' lo sz (n + 1) (cs ++ vs) x' ∧ Others σ σ' x ∧ σ.length ≤ σ'.length := by
  have hsrc : source σ sz (.p (.sl true 1 vs)) = some (1, vs.map DV.p) := by simp [source, hv]
  have hz0 : ¬ (z.length ≠ sz ∨ sz = 0) := by omega
  obtain ⟨hc, ho⟩ := ho
  rcases ho with ⟨rfl, rfl⟩ | ⟨hn0, r, ver, rfl, hr, hl⟩
  · refine ⟨.osl σ.length 0 sz 1 vs, σ ++ [.tok 0], ?_, ⟨by simp [hc, hv], .inr ⟨by simp, σ.length, 0, ?_, get_snoc, hlo⟩⟩, ?_, by simp⟩
    · have : b ≤ 140737488355328 := by omega
      simp only [append, hs, hu, h1, h2, h3, hz0, hsrc, appNil]
      simp [this, hb, pures_map, h4, hz, Nat.ne_of_gt hz]
    · have : cs = [] := List.length_eq_zero_iff.1 (by simpa using hc)
      rw [this]; simp
    · intro i row hi _
      exact get_old hi
  · refine ⟨.osl r (ver + 1) sz (n + 1) (cs ++ vs), σ.set r (.tok (ver + 1)), ?_, ⟨by simp [hc, hv, Nat.add_mul], .inr ⟨by simp, r, ver + 1, rfl, ?_, hl⟩⟩, ?_, by simp⟩
    · have e1 : (n + 1) * b ≤ 140737488355328 := Nat.le_trans (Nat.mul_le_mul (show n + 1 ≤ 1000001 by omega) hb2) (by decide)
      have e2 : n + 1 ≤ 140737488355328 := by omega
      simp only [append, hs, hu, h1, h2, h3, hz0, hsrc, appTok]
      simp [e1, e2, hb, hc, hl, hr, pures_map, h4, Nat.ne_of_gt hz]
    · rw [List.getElem?_set_self (get_lt hr)]
    · intro i row hi hne
      rw [List.getElem?_set_ne (fun e => hne _ _ _ _ _ rfl e.symm)]
      exact hi

theorem Out.tw {σ : Store} {lo sz n : Nat} {cs : List PV} {x : DV} (ho : Out σ lo sz n cs x) (m : Nat) : thaw m σ x = some (.p (if n = 0 then .nilsl else .sl false n (loosens cs))) := by
  rcases ho.2 with ⟨rfl, rfl⟩ | ⟨hn, r, ver, rfl, _, _⟩
  · rfl
  · simp [thaw, thaw1, thawP, hn]
theorem Out.twAll {σ : Store} {lo sz n : Nat} {cs : List PV} {x : DV} (ho : Out σ lo sz n cs x) (m : Nat) : thawAll m σ x = some (.p (if n = 0 then .nilsl else .sl false n (loosens cs))) := by
  rcases ho.2 with ⟨rfl, rfl⟩ | ⟨hn, r, ver, rfl, _, _⟩
  · rfl
  · simp [thawAll, thawPart, thaw, thaw1, thawP, hn]
theorem Out.vw {σ : Store} {lo sz n : Nat} {cs : List PV} {x : DV} (ho : Out σ lo sz n cs x) : view x = .p (if n = 0 then .nilsl else .sl false n (loosens cs)) := by
  rcases ho.2 with ⟨rfl, rfl⟩ | ⟨hn, r, ver, rfl, _, _⟩
  · rfl
  · simp [view, viewCell, hn]

/-! ### Copies of lists of lists -/
theorem bytes22 : bytes? PP 22 = some 24 := Eq.trans (by kernel_rfl) rfl
theorem zero22 : zeroOf PP 22 = some [.p .nilsl] := Eq.trans (by kernel_rfl) rfl
theorem src51 : srcType PP 51 = true := Eq.trans (by kernel_rfl) rfl
theorem bs51_1 (v : PV) (σ : Store) : buildSlice PP none 51 1 [(0, .p v)] σ = some (.p (.sl true 1 [v]), σ) := Eq.trans (by kernel_rfl) rfl
theorem Out.push51 {σ : Store} {lo n : Nat} {cs : List PV} {v : PV} {x : DV} (ho : Out σ lo 1 n cs x) (hn : n ≤ 1000000) (hlo : lo ≤ σ.length) :
    ∃ x' σ', append PP lo false 51 51 x (.p (.sl true 1 [v])) σ = some (x', σ') ∧ Out σ' lo 1 (n + 1) (cs ++ [v]) x' ∧ Others σ σ' x ∧ σ.length ≤ σ'.length :=
  Out.push src51 u51 s22 bytes22 zero22 rfl (by decide) (by decide) (by decide) rfl ho hn hlo
theorem Out.push22 {σ : Store} {lo n : Nat} {cs : List PV} {v : PV} {x : DV} (ho : Out σ lo 1 n cs x) (hn : n ≤ 1000000) (hlo : lo ≤ σ.length) :
    ∃ x' σ', append PP lo false 22 22 x (.p (.sl true 1 [v])) σ = some (x', σ') ∧ Out σ' lo 1 (n + 1) (cs ++ [v]) x' ∧ Others σ σ' x ∧ σ.length ≤ σ'.length :=
  Out.push src22 u22 s3 bytes3 zero3 rfl (by decide) (by decide) (by decide) rfl ho hn hlo

def ownX (x : OI) : OI := some (L x)
def ownLs (o : Option (List OI)) : Option (List OI) := if L o = [] then none else some ((L o).map ownX)
theorem L36 {o : Option (List OI)} {lo : Nat} (hl : (L o).length ≤ 1000) (hx : ∀ x ∈ L o, (L x).length ≤ 1000) :
    ∀ (k i : Nat) (x : DV) (σ : Store), (L o).length - i = k → i ≤ (L o).length → lo ≤ σ.length → Out σ lo 1 i (((L o).take i).map fun x => eSl (ownX x)) x →
      ∃ x' σ', f36_L0 guardT lo (.p (eLs o)) x (.p (pI (i : Nat))) σ = some (x', σ') ∧ Out σ' lo 1 (L o).length ((L o).map fun x => eSl (ownX x)) x'
  | 0, i, x, σ, hk, hi, hlo, ho => by
    have : i = (L o).length := by omega
    subst this
    rw [List.take_length] at ho
    refine ⟨x, σ, ?_, ho⟩
    rw [f36_L0_eq guardT rfl]
    simp [len51, b_lss, condK_false]
  | k + 1, i, x, σ, hk, hi, hlo, ho => by
    have h : i < (L o).length := by omega
    have h' : (i : Int) < ((L o).length : Nat) := by omega
    obtain ⟨x', σ', h1, h2, h3, h4⟩ := ho.push51 (v := eSl (ownX (L o)[i])) (by omega) hlo
    rw [f36_L0_eq guardT rfl]
    simp only [len51, b_lss, obind, h', decide_true, condK_true, idx51 h, load22, load1_ls h, getD_at none h, pureFn_fn, List.append_nil, S14 (hx _ (List.getElem_mem h)), bs51_1]
    rw [show (eSl (some (L (L o)[i]))) = eSl (ownX (L o)[i]) from rfl, h1]
    simp only [obind, b_add, wrap_succ (show i ≤ 1000000 by omega)]
    refine L36 hl hx k (i + 1) x' σ' (by omega) (by omega) (by omega) ?_
    have e : ((L o).take (i + 1)).map (fun x => eSl (ownX x)) = ((L o).take i).map (fun x => eSl (ownX x)) ++ [eSl (ownX (L o)[i])] := by
      rw [List.take_succ_eq_append_getElem h, List.map_append]; rfl
    rw [e]
    exact h2
theorem S36 {o : Option (List OI)} {σ : Store} (hl : (L o).length ≤ 1000) (hx : ∀ x ∈ L o, (L x).length ≤ 1000) : pureV CC 36 [.p (eLs o)] σ = some (.p (eLs (ownLs o))) := by
  refine pureV_any (by simp [ls_view]) fun lo σ0 hs => ?_
  have hlo : lo ≤ σ0.length := by rcases hs with ⟨rfl, rfl, _⟩ | ⟨_, rfl, _⟩ <;> simp_all
  obtain ⟨x', σ', h1, h2⟩ := L36 (lo := lo) hl hx _ 0 (.p .nilsl) σ0 rfl (Nat.zero_le _) hlo (by simpa using Out.zero)
  refine ⟨x', σ', F36_call ?_, ?_⟩
  · rw [F36_eq]; exact h1
  · rw [h2.twAll]
    unfold ownLs
    by_cases e : L o = []
    · simp [e, eLs]
    · have e2 : ¬ (L o).length = 0 := fun h => e (List.length_eq_zero_iff.1 h)
      have e3 : (L o).map (fun x => eSl (ownX x)) = ((L o).map ownX).map eSl := by simp
      simp only [e, e2, if_false, eLs, e3, loosens_ls, List.length_map]

/-! ### Pairs of a relation -/
abbrev PR := Int × Int
def prO (q : PR) : OI := some [q.1, q.2]
def hasP (ps : List PR) (s u : Int) : Bool := ps.any fun q => decide (q.1 = s) && decide (q.2 = u)
theorem hasP_cons (q : PR) (ps : List PR) (s u : Int) : hasP (q :: ps) s u = (decide (q.1 = s) && decide (q.2 = u) || hasP ps s u) := rfl
theorem idx22_1 {o : Option (List Int)} (h : 1 < (L o).length) : indexAddr PP 22 (.p (eSl o)) (.p (.int .i64 1)) = some (.pptr (eInts (L o)) 1) := idx22 (i := 1) h
theorem pr_idx0 (q : PR) : indexAddr PP 22 (.p (eSl (prO q))) (.p (.int .i64 0)) = some (.pptr (eInts [q.1, q.2]) 0) := idx22_0 (o := prO q) (by simp [prO])
theorem pr_idx1 (q : PR) : indexAddr PP 22 (.p (eSl (prO q))) (.p (.int .i64 1)) = some (.pptr (eInts [q.1, q.2]) 1) := idx22_1 (o := prO q) (by simp [prO])
theorem pr_ld0 (q : PR) (σ : Store) : load1 (.pptr (eInts [q.1, q.2]) 0) σ = some (.p (pI q.1)) := load1_ints (l := [q.1, q.2]) (i := 0) (by simp) σ
theorem pr_ld1 (q : PR) (σ : Store) : load1 (.pptr (eInts [q.1, q.2]) 1) σ = some (.p (pI q.2)) := load1_ints (l := [q.1, q.2]) (i := 1) (by simp) σ
theorem ii_ld0 (a b : Int) (σ : Store) : load1 (.pptr (eInts [a, b]) 0) σ = some (.p (pI a)) := load1_ints (l := [a, b]) (i := 0) (by simp) σ
theorem ii_ld1 (a b : Int) (σ : Store) : load1 (.pptr (eInts [a, b]) 1) σ = some (.p (pI b)) := load1_ints (l := [a, b]) (i := 1) (by simp) σ
theorem prs_len {o : Option (List OI)} {ps : List PR} (h : L o = ps.map prO) : (L o).length = ps.length := by rw [h, List.length_map]
theorem prs_get {o : Option (List OI)} {ps : List PR} (h : L o = ps.map prO) {i : Nat} (hi : i < ps.length) : (L o).getD i none = prO ps[i] := by
  rw [h, getD_at _ (by simpa using hi), List.getElem_map]

theorem L60 {o : Option (List OI)} {ps : List PR} {s u : Int} {lo : Nat} {σ : Store} (ho : L o = ps.map prO) (hl : ps.length ≤ 100000) :
    ∀ (k i : Nat), ps.length - i = k → i ≤ ps.length → f60_L0 guardT lo (.p (eLs o)) (.p (pI s)) (.p (pI u)) (.p (pI (i : Nat))) σ = some (.p (.bool (hasP (ps.drop i) s u)), σ)
  | 0, i, hk, hi => by
    have : i = ps.length := by omega
    rw [f60_L0_eq guardT rfl]
    subst this
    simp [len51, prs_len ho, b_lss, condK_false, hasP]
  | k + 1, i, hk, hi => by
    have h : i < ps.length := by omega
    have h0 : i < (L o).length := by rw [prs_len ho]; exact h
    have h' : (i : Int) < (ps.length : Nat) := by omega
    rw [f60_L0_eq guardT rfl]
    simp only [len51, prs_len ho, b_lss, obind, h', decide_true, condK_true, idx51 h0, load22, load1_ls h0, prs_get ho h, pr_idx0, load3, pr_ld0, b_eql]
    rw [drop_cons h]
    have ih := L60 (s := s) (u := u) (lo := lo) (σ := σ) ho hl k (i + 1) (by omega) (by omega)
    cases e1 : decide (ps[i].1 = s) with
    | true =>
      simp only [guard_tt, obind, idx51 h0, load1_ls h0, prs_get ho h, pr_idx1, load3, pr_ld1, b_eql, pickV_true, hasP_cons, e1, Bool.true_and]
      cases e2 : decide (ps[i].2 = u) with
      | true => simp only [condK_true, Bool.true_or]
      | false =>
        simp only [condK_false, b_add, obind, wrap_succ (show i ≤ 1000000 by omega), Bool.false_or]
        exact ih
    | false =>
      simp only [guard_ft, guard_sk, obind, pickV_false, condK_false, b_add, wrap_succ (show i ≤ 1000000 by omega), hasP_cons, e1, Bool.false_and, Bool.false_or]
      exact ih
theorem S60 {o : Option (List OI)} {ps : List PR} {s u : Int} {σ : Store} (ho : L o = ps.map prO) (hl : ps.length ≤ 100000) : pureV CC 60 [.p (eLs o), .p (pI s), .p (pI u)] σ = some (.p (.bool (hasP ps s u))) := by
  refine pureV_free (by simp [ls_view]; exact ⟨rfl, rfl⟩) rfl (F60_call (r := (.p (.bool (hasP ps s u)), [])) ?_) rfl
  rw [F60_eq]
  exact L60 (lo := 0) (σ := []) ho hl _ 0 rfl (Nat.zero_le _)

/-! ### The reference: a step that is matched, a pair that is kept -/
def matchP (p : Pair) (ps : List PR) (n : Nat) (t u : Int) : Bool := anyFrom (fun v => follows p.up u (v : Nat) && hasP ps t (v : Nat)) 0 n
theorem L72 {p : Pair} {o : Option (List OI)} {ps : List PR} {t u : Int} {n lo : Nat} {σ : Store} {r : Nat} (h0 : σ[r]? = some (.mix (ePair p))) (hn : p.up.n = (n : Nat)) (hn2 : n ≤ 1000) (he : (L p.up.edges).length ≤ 10000) (ho : L o = ps.map prO) (hl : ps.length ≤ 100000) :
    ∀ (k i : Nat), n - i = k → i ≤ n → f72_L0 guardT lo (.p (eLs o)) (.p (pI t)) (.p (pI u)) (.ptr r 0) (.p (pI (i : Nat))) σ = some (.p (.bool (anyFrom (fun v => follows p.up u (v : Nat) && hasP ps t (v : Nat)) i k)), σ)
  | 0, i, hk, hi => by
    have : ¬ (i : Int) < (n : Nat) := by omega
    rw [f72_L0_eq guardT rfl]
    simp only [fa27_1, fa25_0, shift_ptr, Nat.zero_add, Nat.add_zero, load3, pr_3 h0, obind, hn, b_lss, this, decide_false, condK_false, anyFrom]
  | k + 1, i, hk, hi => by
    have h' : (i : Int) < (n : Nat) := by omega
    rw [f72_L0_eq guardT rfl]
    have ih := L72 (t := t) (u := u) (lo := lo) h0 hn hn2 he ho hl k (i + 1) (by omega) (by omega)
    simp only [fa27_1, fa25_0, shift_ptr, Nat.zero_add, Nat.add_zero, load3, pr_3 h0, obind, hn, b_lss, h', decide_true, condK_true, load25, pr_up h0, omap, pureFn_fn, List.append_nil, S50 he]
    cases hf : follows p.up u (i : Nat) with
    | false =>
      simp only [guard_ft, guard_sk, obind, pickV_false, condK_false, b_add, wrap_succ (show i ≤ 1000000 by omega), anyFrom, hf, Bool.false_and, Bool.false_or]
      exact ih
    | true =>
      simp only [guard_tt, obind, pureFn_fn, List.append_nil, S60 ho hl, pickV_true]
      cases hh : hasP ps t (i : Nat) with
      | false =>
        simp only [condK_false, b_add, obind, wrap_succ (show i ≤ 1000000 by omega), anyFrom, hf, hh, Bool.true_and, Bool.false_or]
        exact ih
      | true => simp only [condK_true, anyFrom, hf, hh, Bool.true_and, Bool.true_or]
theorem S72 {p : Pair} {o : Option (List OI)} {ps : List PR} {t u : Int} {n : Nat} {σ : Store} (hn : p.up.n = (n : Nat)) (hn2 : n ≤ 1000) (he : (L p.up.edges).length ≤ 10000) (ho : L o = ps.map prO) (hl : ps.length ≤ 100000) :
    pureV CC 72 [.agg (ePair p), .p (eLs o), .p (pI t), .p (pI u)] σ = some (.p (.bool (matchP p ps n t u))) := by
  refine pureV_any (by simp [pair_view, ls_view]; exact ⟨rfl, rfl⟩) fun lo σ0 hs => ⟨_, σ0 ++ [.mix (ePair p)], F72_call (r := (.p (.bool (matchP p ps n t u)), σ0 ++ [.mix (ePair p)])) ?_, rfl⟩
  rw [F72_eq]
  simp only [box_pair, obind]
  exact L72 get_snoc hn hn2 he ho hl _ 0 rfl (Nat.zero_le _)

end Go.D
end
/- Relations in the reference: pairs that are kept, the error of a relation. -/
section
set_option linter.unusedVariables false
set_option linter.unusedSimpArgs false
namespace Go.D

theorem idx22z {o : Option (List Int)} {z : Int} (h0 : 0 ≤ z) (h1 : z < ((L o).length : Nat)) : indexAddr PP 22 (.p (eSl o)) (.p (pI z)) = some (.pptr (eInts (L o)) z.toNat) := by
  have h2 : z.toNat < (L o).length := by omega
  have h3 : (z.toNat : Int) = z := by omega
  have := idx22 h2
  rw [h3] at this
  exact this

def keepE (p : Pair) (ps : List PR) (n : Nat) (s u : Int) (e : Edg) : Bool := !decide (e.f = s) || matchP p ps n e.t u
def labOk (p : Pair) (s u : Int) : Bool := decide ((L p.ll).getD s.toNat 0 = (L p.ul).getD u.toNat 0)
def keepP (p : Pair) (ps : List PR) (n : Nat) (s u : Int) : Bool := labOk p s u && (L p.lo.edges).all (keepE p ps n s u)

/-- What is needed of a pair: its sizes. -/
structure Nice (p : Pair) (n m : Nat) : Prop where
  sm : Small p
  un : p.up.n = (n : Nat)
  n2 : n ≤ 1000
  ln : p.lo.n = (m : Nat)
  m2 : m ≤ 1000
  ll : (L p.ll).length = m
  ul : (L p.ul).length = n
  us : ∀ e ∈ L p.up.edges, 0 ≤ e.f ∧ e.f < n ∧ 0 ≤ e.t ∧ e.t < n
  ls : ∀ e ∈ L p.lo.edges, 0 ≤ e.f ∧ e.f < m ∧ 0 ≤ e.t ∧ e.t < m

theorem L62 {p : Pair} {o : Option (List OI)} {ps : List PR} {s u : Int} {n m r : Nat} (hp : Nice p n m) (ho : L o = ps.map prO) (hl : ps.length ≤ 100000) :
    ∀ (k i : Nat) (σ : Store), σ[r]? = some (.mix (ePair p)) → (L p.lo.edges).length - i = k → i ≤ (L p.lo.edges).length →
      ∃ σ', f62_L0 guardT 0 (.p (eLs o)) (.p (pI s)) (.p (pI u)) (.ptr r 0) (.p (pI (i : Nat))) σ = some (.p (.bool (((L p.lo.edges).drop i).all (keepE p ps n s u))), σ')
  | 0, i, σ, h0, hk, hi => by
    have : ¬ (i : Int) < ((L p.lo.edges).length : Nat) := by omega
    have hd : (L p.lo.edges).drop i = [] := List.drop_eq_nil_of_le (by omega)
    refine ⟨σ, ?_⟩
    rw [f62_L0_eq guardT rfl, hd]
    simp only [fa27_0, fa25_2, shift_ptr, Nat.zero_add, Nat.add_zero, load23, pr_2 h0, obind, len23, b_lss, this, decide_false, condK_false, List.all_nil]
  | k + 1, i, σ, h0, hk, hi => by
    have h : i < (L p.lo.edges).length := by omega
    have h' : (i : Int) < ((L p.lo.edges).length : Nat) := by omega
    have hle := hp.sm.le
    have h0' : (σ ++ [Row.mix (edgD (L p.lo.edges)[i])])[r]? = some (.mix (ePair p)) := get_old h0
    have hx : (σ ++ [Row.mix (edgD (L p.lo.edges)[i])])[σ.length]? = some (.mix (edgD (L p.lo.edges)[i])) := get_snoc
    obtain ⟨σ', ih⟩ := L62 (s := s) (u := u) hp ho hl k (i + 1) _ h0' (by omega) (by omega)
    rw [f62_L0_eq guardT rfl, drop_cons h]
    have w : IntKind.wrap .i64 ((i : Int) + 1) = ((i + 1 : Nat) : Int) := wrap_succ (by omega)
    simp only [fa27_0, fa25_2, shift_ptr, Nat.zero_add, Nat.add_zero, load23, pr_2 h0, obind, len23, b_lss, h', decide_true, condK_true, idx23 h, load100, load100_D h, getD_at _ h, zero100, store_new100 σ (L p.lo.edges)[i] [.p (pI 0), .p (pI 0), .p (pI 0)] rfl]
    generalize hρ : σ ++ [Row.mix (edgD (L p.lo.edges)[i])] = ρ at *
    simp only [fa100_0, fa100_1, shift_ptr, Nat.zero_add, load3, load1_ptr (off := 0) hx rfl, load1_ptr (off := 1) hx rfl, obind, b_eql, List.all_cons, keepE]
    cases e1 : decide ((L p.lo.edges)[i].f = s) with
    | false =>
      refine ⟨σ', ?_⟩
      simp only [guard_ft, guard_sk, obind, pickV_false, condK_false, b_add, w, Bool.not_false, Bool.true_or, Bool.true_and]
      exact ih
    | true =>
      simp only [guard_tt, load27, pr_all h0', omap, obind, load1_ptr (off := 1) hx rfl, pureFn_fn, List.append_nil, S72 hp.un hp.n2 hp.sm.ue ho hl, not_bool, pickV_true, Bool.not_true, Bool.false_or]
      cases e2 : matchP p ps n (L p.lo.edges)[i].t u with
      | false => exact ⟨ρ, by simp only [Bool.not_false, condK_true, Bool.false_and]⟩
      | true =>
        refine ⟨σ', ?_⟩
        simp only [Bool.not_true, condK_false, b_add, obind, w, Bool.true_and]
        exact ih

theorem S62 {p : Pair} {o : Option (List OI)} {ps : List PR} {s u : Int} {n m : Nat} {σ : Store} (hp : Nice p n m) (ho : L o = ps.map prO) (hl : ps.length ≤ 100000) (hs : 0 ≤ s ∧ s < m) (hu : 0 ≤ u ∧ u < n) :
    pureV CC 62 [.agg (ePair p), .p (eLs o), .p (pI s), .p (pI u)] σ = some (.p (.bool (keepP p ps n s u))) := by
  refine pureV_any (by simp [pair_view, ls_view]; exact ⟨rfl, rfl⟩) fun lo σ0 hs => ?_
  rcases hs with ⟨rfl, rfl, _⟩ | ⟨_, _, h⟩
  case inr => exact absurd h (by simp [rowFree, rowFree1, ePair])
  have g0 : ([Row.mix (ePair p)] : Store)[0]? = some (.mix (ePair p)) := rfl
  have i1 : indexAddr PP 22 (.p (eSl p.ll)) (.p (pI s)) = some (.pptr (eInts (L p.ll)) s.toNat) := idx22z hs.1 (by rw [hp.ll]; exact hs.2)
  have i2 : indexAddr PP 22 (.p (eSl p.ul)) (.p (pI u)) = some (.pptr (eInts (L p.ul)) u.toNat) := idx22z hu.1 (by rw [hp.ul]; exact hu.2)
  have b1 : s.toNat < (L p.ll).length := by rw [hp.ll]; omega
  have b2 : u.toNat < (L p.ul).length := by rw [hp.ul]; omega
  have hF : ∃ σ', F62 guardT 0 (.agg (ePair p)) (.p (eLs o)) (.p (pI s)) (.p (pI u)) [] = some (.p (.bool (keepP p ps n s u)), σ') := by
    rw [F62_eq]
    simp only [box_pair, obind, List.length_nil, List.nil_append, fa27_2, fa27_3, shift_ptr, Nat.zero_add, load22, pr_6 g0, pr_7 g0, i1, i2, load3, load1_getD b1, load1_getD b2, b_neq, keepP, labOk]
    cases e1 : decide ((L p.ll).getD s.toNat 0 = (L p.ul).getD u.toNat 0) with
    | false => exact ⟨[Row.mix (ePair p)], by simp only [Bool.not_false, condK_true, Bool.false_and]⟩
    | true =>
      simp only [Bool.not_true, condK_false, Bool.true_and]
      obtain ⟨σ', h⟩ := L62 (s := s) (u := u) hp ho hl _ 0 _ g0 rfl (Nat.zero_le _)
      exact ⟨σ', h⟩
  obtain ⟨σ', h⟩ := hF
  exact ⟨_, _, F62_call h, rfl⟩

/-! ### The error of a relation -/
def cmpL : List Int → List Int → Int
  | a :: xs, b :: ys => if cmpI a b = 0 then cmpL xs ys else cmpI a b
  | [], [] => 0
  | [], _ :: _ => -1
  | _ :: _, [] => 1
theorem cmpL_first : ∀ (a b : List Int), decide (firstI a b ≥ 0) = !decide (cmpL a b < 0)
  | [], [] => by simp [firstI, cmpL]
  | [], b :: ys => by simp [firstI, cmpL]
  | a :: xs, [] => by simp [firstI, cmpL]
  | a :: xs, b :: ys => by
    have ih := cmpL_first xs ys
    by_cases h : a = b
    · simp [firstI, cmpL, cmpI, h] at ih ⊢; exact ih
    · by_cases h2 : a < b
      · simp [firstI, cmpL, cmpI, h, h2]
      · have h3 : a > b := by omega
        simp [firstI, cmpL, cmpI, h, h2, h3]

/-- The first index at which something is wrong. -/
def firstBad (f : Nat → Int) : Nat → Nat → Option (Nat × Int)
  | _, 0 => none
  | i, k + 1 => if f i = 0 then firstBad f (i + 1) k else some (i, f i)
theorem firstBad_zero {f : Nat → Int} {i k : Nat} (h : f i = 0) : firstBad f i (k + 1) = firstBad f (i + 1) k := by simp [firstBad, h]
theorem firstBad_pos {f : Nat → Int} {i k : Nat} {e : Int} (h : f i = e) (he : e ≠ 0) : firstBad f i (k + 1) = some (i, e) := by simp [firstBad, h, he]
theorem firstBad_none {f : Nat → Int} : ∀ {k i : Nat}, firstBad f i k = none → ∀ j, i ≤ j → j < i + k → f j = 0
  | 0, i, _, j, h1, h2 => by omega
  | k + 1, i, h, j, h1, h2 => by
    unfold firstBad at h
    split at h
    · rename_i h0
      rcases Nat.eq_or_lt_of_le h1 with e | e
      · rw [← e]; exact h0
      · exact firstBad_none h j e (by omega)
    · exact absurd h (by simp)

def x0 (l : List (List Int)) (i : Nat) : Int := (l.getD i []).getD 0 0
def x1 (l : List (List Int)) (i : Nat) : Int := (l.getD i []).getD 1 0
def inBoth (p : Pair) (l : List (List Int)) (i : Nat) : Bool := inR (x0 l i) 0 (pred p.lo.n) && inR (x1 l i) 0 (pred p.up.n)
def upAt (l : List (List Int)) (i : Nat) : Bool := decide (i = 0) || decide (cmpL (l.getD (i - 1) []) (l.getD i []) < 0)
def shapeAt (p : Pair) (l : List (List Int)) (i : Nat) : Int :=
  if (l.getD i []).length = 2 then orL [bif inBoth p l i then 0 else 3, bif upAt l i then 0 else 13] else 6
def psOf (l : List (List Int)) : List PR := l.map fun x => (x.getD 0 0, x.getD 1 0)
def brokenAt (p : Pair) (l : List (List Int)) (n i : Nat) : Int := bif keepP p (psOf l) n (x0 l i) (x1 l i) then 0 else 31
def pairR (o : Option (Nat × Int)) (d : Int × Int) : Int × Int := match o with
  | some r => (r.1, r.2)
  | none => d
def relRes (p : Pair) (n : Nat) (l : List (List Int)) : Int × Int := pairR (firstBad (shapeAt p l) 0 l.length) (pairR (firstBad (brokenAt p l n) 0 l.length) (0, 0))
def tup (q : Int × Int) : DV := .tuple [.p (pI q.1), .p (pI q.2)]
def listsOf (o : Option (List OI)) : List (List Int) := (L o).map L
theorem listsOf_get {o : Option (List OI)} {i : Nat} (h : i < (L o).length) : (listsOf o).getD i [] = L ((L o).getD i none) := by
  rw [getD_at _ (by simpa [listsOf] using h), getD_at _ h]; simp [listsOf]

theorem L37_1 {p : Pair} {o : Option (List OI)} {n m r : Nat} {lo : Nat} {σ : Store} (hp : Nice p n m) (h0 : σ[r]? = some (.mix (ePair p))) (ho : L o = (psOf (listsOf o)).map prO) (hl : (L o).length ≤ 1000) (hin : ∀ i, i < (L o).length → (0 ≤ x0 (listsOf o) i ∧ x0 (listsOf o) i < m) ∧ 0 ≤ x1 (listsOf o) i ∧ x1 (listsOf o) i < n) :
    ∀ (k i : Nat), (L o).length - i = k → i ≤ (L o).length → f37_L1 guardT lo (.p (eLs o)) (.ptr r 0) (.p (pI (i : Nat))) σ = some (tup (pairR (firstBad (brokenAt p (listsOf o) n) i k) (0, 0)), σ)
  | 0, i, hk, hi => by
    have : ¬ (i : Int) < ((L o).length : Nat) := by omega
    rw [f37_L1_eq guardT rfl]
    simp only [len51, b_lss, obind, this, decide_false, condK_false, firstBad, pairR, tup]
  | k + 1, i, hk, hi => by
    have h : i < (L o).length := by omega
    have h' : (i : Int) < ((L o).length : Nat) := by omega
    have hlen : (psOf (listsOf o)).length = (L o).length := by simp [psOf, listsOf]
    have h2 : i < (psOf (listsOf o)).length := by omega
    have eq : (psOf (listsOf o))[i] = (x0 (listsOf o) i, x1 (listsOf o) i) := by simp [psOf, x0, x1, listsOf, List.getD_eq_getElem?_getD, h]
    have hg : (L o).getD i none = prO (x0 (listsOf o) i, x1 (listsOf o) i) := by rw [prs_get ho h2, eq]
    rw [f37_L1_eq guardT rfl]
    have hS := fun σ => S62 (σ := σ) hp ho (by omega) (hin i h).1 (hin i h).2
    have hbr : brokenAt p (listsOf o) n i = bif keepP p (psOf (listsOf o)) n (x0 (listsOf o) i) (x1 (listsOf o) i) then 0 else 31 := rfl
    simp only [len51, b_lss, obind, h', decide_true, condK_true, load27, pr_all h0, omap, idx51 h, load22, load1_ls h, hg, pr_idx0, pr_idx1, load3, ii_ld0, ii_ld1, pureFn_fn, List.append_nil, hS, not_bool]
    cases e : keepP p (psOf (listsOf o)) n (x0 (listsOf o) i) (x1 (listsOf o) i) with
    | false =>
      rw [e] at hbr
      rw [firstBad_pos hbr (by decide)]
      simp only [Bool.not_false, condK_true]; rfl
    | true =>
      rw [e] at hbr
      rw [firstBad_zero hbr]
      simp only [Bool.not_true, condK_false, b_add, obind, wrap_succ (show i ≤ 1000000 by omega)]
      exact L37_1 hp h0 ho hl hin k (i + 1) (by omega) (by omega)

theorem L37_0 {p : Pair} {o : Option (List OI)} {n m r : Nat} {lo : Nat} {σ : Store} (hp : Nice p n m) (h0 : σ[r]? = some (.mix (ePair p))) (hl : (L o).length ≤ 1000) (hx : ∀ x ∈ L o, (L x).length ≤ 1000) :
    ∀ (k i : Nat), (L o).length - i = k → i ≤ (L o).length → f37_L0 guardT lo (.p (eLs o)) (.ptr r 0) (.p (pI (i : Nat))) σ = match firstBad (shapeAt p (listsOf o)) i k with
      | some q => some (tup (q.1, q.2), σ)
      | none => f37_L1 guardT lo (.p (eLs o)) (.ptr r 0) (.p (pI (0 : Nat))) σ
  | 0, i, hk, hi => by
    have : ¬ (i : Int) < ((L o).length : Nat) := by omega
    rw [f37_L0_eq guardT rfl]
    simp only [len51, b_lss, obind, this, decide_false, condK_false, firstBad]
    rfl
  | k + 1, i, hk, hi => by
    have h : i < (L o).length := by omega
    have h' : (i : Int) < ((L o).length : Nat) := by omega
    have ih := L37_0 (lo := lo) hp h0 hl hx k (i + 1) (by omega) (by omega)
    have hxi : (L ((L o).getD i none)).length ≤ 1000 := by rw [getD_at _ h]; exact hx _ (List.getElem_mem h)
    rw [f37_L0_eq guardT rfl]
    simp only [len51, b_lss, obind, h', decide_true, condK_true, idx51 h, load22, load1_ls h, len22, b_neq]
    by_cases e1 : (L ((L o).getD i none)).length = 2
    · have e1' : ((L ((L o).getD i none)).length : Int) = 2 := by omega
      have b0 : 0 < (L ((L o).getD i none)).length := by omega
      have b1 : 1 < (L ((L o).getD i none)).length := by omega
      have hsh : shapeAt p (listsOf o) i = orL [bif inBoth p (listsOf o) i then 0 else 3, bif upAt (listsOf o) i then 0 else 13] := by rw [shapeAt, listsOf_get h, if_pos e1]
      have ex0 : x0 (listsOf o) i = (L ((L o).getD i none)).getD 0 0 := by rw [x0, listsOf_get h]
      have ex1 : x1 (listsOf o) i = (L ((L o).getD i none)).getD 1 0 := by rw [x1, listsOf_get h]
      simp only [e1', decide_true, Bool.not_true, condK_false, idx22_0 b0, idx22_1 b1, load3, load1_getD b0, load1_getD b1, obind, fa27_0, fa27_1, fa25_0, shift_ptr, Nat.zero_add, Nat.add_zero, pr_0 h0, pr_3 h0, b_sub, pureFn_fn, List.append_nil, S22, not_bool, ← ex0, ← ex1]
      have hfin : condK (.p (.bool (!inBoth p (listsOf o) i))) (some (DV.tuple [.p (pI (i : Nat)), .p (pI 3)], σ))
          (condK (.p (.bool (!upAt (listsOf o) i))) (some (DV.tuple [.p (pI (i : Nat)), .p (pI 13)], σ)) (f37_L0 guardT lo (.p (eLs o)) (.ptr r 0) (.p (pI (i + 1 : Nat))) σ)) =
          match firstBad (shapeAt p (listsOf o)) i (k + 1) with
          | some q => some (tup (q.1, q.2), σ)
          | none => f37_L1 guardT lo (.p (eLs o)) (.ptr r 0) (.p (pI (0 : Nat))) σ := by
        cases e2 : inBoth p (listsOf o) i <;> cases e3 : upAt (listsOf o) i <;> rw [e2, e3] at hsh
        · rw [firstBad_pos hsh (by decide)]; rfl
        · rw [firstBad_pos hsh (by decide)]; rfl
        · rw [firstBad_pos hsh (by decide)]; rfl
        · rw [firstBad_zero hsh, ← ih]; rfl
      rw [← hfin]
      have hup : decide ((i : Int) > 0) = !decide (i = 0) := by by_cases e : i = 0 <;> simp [e]; omega
      have hlast : ∀ (y : DV), ((binOp PP .gtr 3 (.p (pI (i : Nat))) (.p (pI 0))).bind fun x49 =>
          guardT _ x49 true (some (.p (eLs o), σ)) σ fun x51 σ13 =>
          guardT _ x49 true (some (.p (pI (i : Nat)), σ13)) σ13 fun x52 σ14 =>
          guardT _ x49 true ((binOp PP .sub 3 x52 (DV.p (PV.int IntKind.i64 (1)))).bind fun v => some (v, σ14)) σ14 fun x53 σ15 =>
          guardT _ x49 true ((indexAddr PP 51 x51 x53).bind fun v => some (v, σ15)) σ15 fun x54 σ16 =>
          guardT _ x49 true ((load1 x54 σ16).bind fun v => some (v, σ16)) σ16 fun x55 σ17 =>
          guardT _ x49 true (some (.p (eLs o), σ17)) σ17 fun x56 σ18 =>
          guardT _ x49 true (some (.p (pI (i : Nat)), σ18)) σ18 fun x57 σ19 =>
          guardT _ x49 true ((indexAddr PP 51 x56 x57).bind fun v => some (v, σ19)) σ19 fun x58 σ20 =>
          guardT _ x49 true ((load1 x58 σ20).bind fun v => some (v, σ20)) σ20 fun x59 σ21 =>
          guardT _ x49 true ((pureV CC 70 [x55, x59] σ21).bind fun v => some (v, σ21)) σ21 fun x60 σ22 =>
          guardT _ x49 true ((binOp PP .geq 3 x60 (DV.p (PV.int IntKind.i64 (0)))).bind fun v => some (v, σ22)) σ22 fun x61 σ23 =>
          (pickV x49 x61 (DV.p (PV.bool false))).bind fun x62 =>
          condK x62 (some ((DV.tuple [.p (pI (i : Nat)), (DV.p (PV.int IntKind.i64 (13)))]), σ23))
           ((binOp PP .add 3 (.p (pI (i : Nat))) (DV.p (PV.int IntKind.i64 (1)))).bind fun x13 => f37_L0 guardT lo (.p (eLs o)) (.ptr r 0) x13 σ23)) =
          condK (.p (.bool (!upAt (listsOf o) i))) (some (DV.tuple [.p (pI (i : Nat)), .p (pI 13)], σ)) (f37_L0 guardT lo (.p (eLs o)) (.ptr r 0) (.p (pI (i + 1 : Nat))) σ) := by
        intro y
        simp only [b_gtr, obind, hup, b_add, wrap_succ (show i ≤ 1000000 by omega), upAt]
        by_cases e0 : i = 0
        · simp only [e0, decide_true, Bool.not_true, guard_ft, guard_sk, obind, pickV_false, Bool.true_or]
        · have h1 : i - 1 < (L o).length := by omega
          have hx1 : (L ((L o).getD (i - 1) none)).length ≤ 1000 := by rw [getD_at _ h1]; exact hx _ (List.getElem_mem h1)
          simp only [e0, decide_false, Bool.not_false, guard_tt, obind, b_sub, wrap_pred (show 0 < i by omega) (show i ≤ 1000000 by omega), idx51 h1, idx51 h, load1_ls h1, load1_ls h, S70 hx1 hxi, b_geq, pickV_true, Bool.false_or, cmpL_first]
          rw [listsOf_get h1, listsOf_get h]
      cases e2 : inR (x0 (listsOf o) i) 0 (pred p.lo.n) with
      | false =>
        simp only [Bool.not_false, guard_tf, guard_sk, obind, pickV_true, condK_true, inBoth, e2, Bool.false_and]
      | true =>
        simp only [Bool.not_true, guard_ff, obind, idx51 h, load1_ls h, idx22_1 b1, load3, load1_getD b1, fa27_1, fa25_0, shift_ptr, Nat.zero_add, Nat.add_zero, pr_3 h0, b_sub, S22, not_bool, pickV_false, inBoth, e2, Bool.true_and, ← ex1]
        cases e3 : inR (x1 (listsOf o) i) 0 (pred p.up.n) with
        | false => simp only [Bool.not_false, condK_true]
        | true =>
          simp only [Bool.not_true, condK_false]
          exact hlast .undef
    · have e1' : ¬ ((L ((L o).getD i none)).length : Int) = 2 := by omega
      have hsh : shapeAt p (listsOf o) i = 6 := by rw [shapeAt, listsOf_get h, if_neg e1]
      rw [firstBad_pos hsh (by decide)]
      simp only [e1', decide_false, Bool.not_false, condK_true]
      rfl

end Go.D
end
/- The error of a relation as a whole; comparisons; sets of pairs in a map. -/
section
set_option linter.unusedVariables false
set_option linter.unusedSimpArgs false
namespace Go.D

theorem shape_zero {p : Pair} {l : List (List Int)} {i : Nat} (h : shapeAt p l i = 0) : (l.getD i []).length = 2 ∧ inBoth p l i = true ∧ upAt l i = true := by
  unfold shapeAt at h
  split at h
  · rename_i h1
    refine ⟨h1, ?_⟩
    cases e1 : inBoth p l i <;> cases e2 : upAt l i <;> simp [e1, e2, orL] at h ⊢
  · exact absurd h (by decide)

theorem two_pr : ∀ {x : OI}, (L x).length = 2 → x = prO ((L x).getD 0 0, (L x).getD 1 0)
  | none, h => by simp at h
  | some [], h => by simp at h
  | some [a], h => by simp at h
  | some [a, b], h => rfl
  | some (a :: b :: c :: l), h => by simp at h

theorem prs_of {o : Option (List OI)} (h : ∀ i, i < (L o).length → ((listsOf o).getD i []).length = 2) : L o = (psOf (listsOf o)).map prO := by
  have : ∀ x ∈ L o, (L x).length = 2 := by
    intro x hx
    obtain ⟨i, hi, rfl⟩ := List.getElem_of_mem hx
    have := h i hi
    rw [listsOf_get hi, getD_at _ hi] at this
    exact this
  unfold psOf listsOf
  rw [List.map_map, List.map_map]
  refine (List.map_id _).symm.trans (List.map_congr_left fun x hx => ?_)
  exact two_pr (this x hx)

theorem in_of {p : Pair} {l : List (List Int)} {n m i : Nat} (hp : Nice p n m) (h : inBoth p l i = true) : (0 ≤ x0 l i ∧ x0 l i < m) ∧ 0 ≤ x1 l i ∧ x1 l i < n := by
  have pu : pred (n : Nat) = (n : Nat) - 1 := wrap_ok (by omega) (by have := hp.n2; omega)
  have pl : pred (m : Nat) = (m : Nat) - 1 := wrap_ok (by omega) (by have := hp.m2; omega)
  simp only [inBoth, inR, hp.un, hp.ln, pu, pl, Bool.and_eq_true, decide_eq_true_eq] at h
  omega

theorem S37 {p : Pair} {o : Option (List OI)} {n m : Nat} {σ : Store} (hp : Nice p n m) (hl : (L o).length ≤ 1000) (hx : ∀ x ∈ L o, (L x).length ≤ 1000) :
    pureV CC 37 [.agg (ePair p), .p (eLs o)] σ = some (tup (relRes p n (listsOf o))) := by
  refine pureV_any (by simp [pair_view, ls_view]) fun lo σ0 hs => ⟨tup (relRes p n (listsOf o)), σ0 ++ [.mix (ePair p)], F37_call ?_, rfl⟩
  rw [F37_eq]
  simp only [box_pair, obind]
  have h0 := L37_0 (r := σ0.length) (lo := lo) (σ := σ0 ++ [.mix (ePair p)]) hp get_snoc hl hx _ 0 rfl (Nat.zero_le _)
  have e0 : f37_L0 guardT lo (.p (eLs o)) (.ptr σ0.length 0) (.p (pI 0)) (σ0 ++ [.mix (ePair p)]) = _ := h0
  rw [e0]
  have hlen : (listsOf o).length = (L o).length := by simp [listsOf]
  unfold relRes
  rw [hlen, Nat.sub_zero]
  cases e : firstBad (shapeAt p (listsOf o)) 0 (L o).length with
  | some q => rfl
  | none =>
    have hz := fun (i : Nat) (hi : i < (L o).length) => shape_zero (firstBad_none e i (Nat.zero_le _) (by omega))
    have h1 := L37_1 (r := σ0.length) (lo := lo) (σ := σ0 ++ [.mix (ePair p)]) hp get_snoc (prs_of fun i hi => (hz i hi).1) hl (fun i hi => in_of hp (hz i hi).2.1) _ 0 rfl (Nat.zero_le _)
    rw [Nat.sub_zero] at h1
    exact h1

/-! ### Lists in order -/
theorem L73 {a b : OI} (ha : (L a).length ≤ 1000) (hb : (L b).length ≤ 1000) {lo : Nat} {σ : Store} :
    ∀ (k i : Nat), (L a).length - i = k → i ≤ (L a).length → i ≤ (L b).length →
      f73_L0 guardT lo (.p (eSl a)) (.p (eSl b)) (.p (eSl a)) (.p (pI ((L a).length : Nat))) (.p (pI (i : Nat))) σ = some (.p (pI (cmpL ((L a).drop i) ((L b).drop i))), σ)
  | 0, i, hk, hi, hj => by
    have e : i = (L a).length := by omega
    have hd : (L a).drop i = [] := List.drop_eq_nil_of_le (by omega)
    have h' : ¬ (i : Int) < ((L a).length : Nat) := by omega
    rw [f73_L0_eq guardT rfl, hd]
    simp only [b_lss, obind, h', decide_false, condK_false, len22]
    by_cases h : (L a).length < (L b).length
    · have h2 : ((L a).length : Int) < ((L b).length : Nat) := by omega
      have h3 : i < (L b).length := by omega
      simp only [h2, decide_true, condK_true, drop_cons h3, cmpL]
    · have h2 : ¬ ((L a).length : Int) < ((L b).length : Nat) := by omega
      have hd2 : (L b).drop i = [] := List.drop_eq_nil_of_le (by omega)
      simp only [h2, decide_false, condK_false, hd2, cmpL]
  | k + 1, i, hk, hi, hj => by
    have h : i < (L a).length := by omega
    have h' : (i : Int) < ((L a).length : Nat) := by omega
    rw [f73_L0_eq guardT rfl, drop_cons h]
    simp only [b_lss, obind, h', decide_true, condK_true, idx22 h, load3, load1_ints h, len22, b_geq]
    by_cases h2 : i < (L b).length
    · have h3 : ¬ (i : Int) ≥ ((L b).length : Nat) := by omega
      simp only [h3, decide_false, condK_false, idx22 h2, load1_ints h2, obind, pureFn_fn, List.append_nil, S68, b_neq, drop_cons h2, cmpL]
      by_cases e : cmpI (L a)[i] (L b)[i] = 0
      · simp only [e, decide_true, Bool.not_true, condK_false, if_true, b_add, obind, wrap_succ (show i ≤ 1000000 by omega)]
        exact L73 ha hb k (i + 1) (by omega) (by omega) (by omega)
      · simp only [e, decide_false, Bool.not_false, condK_true, if_false]
    · have h3 : (i : Int) ≥ ((L b).length : Nat) := by omega
      have hd2 : (L b).drop i = [] := List.drop_eq_nil_of_le (by omega)
      simp only [h3, decide_true, condK_true, hd2, cmpL]

theorem S73 {a b : OI} {σ : Store} (ha : (L a).length ≤ 1000) (hb : (L b).length ≤ 1000) : pureV CC 73 [.p (eSl a), .p (eSl b)] σ = some (.p (pI (cmpL (L a) (L b)))) := by
  refine pureV_any (by simp [sl_view]) fun lo σ0 hs => ⟨_, σ0, F73_call (r := (.p (pI (cmpL (L a) (L b))), σ0)) ?_, rfl⟩
  rw [F73_eq]
  simp only [len22, obind]
  have := L73 (lo := lo) (σ := σ0) ha hb _ 0 rfl (Nat.zero_le _) (Nat.zero_le _)
  simpa using this

/-! ### Sets of pairs -/
def key2 (q : PR) : DV := .agg [.p (pI q.1), .p (pI q.2)]
def ents (ks : List PR) : List (DV × DV) := ks.map fun q => (key2 q, .p (.bool true))
def addP (ks : List PR) (q : PR) : List PR := if hasP ks q.1 q.2 then ks else ks ++ [q]
theorem u115 : PP.underlying 115 = some (.map 111 4) := Eq.trans (by kernel_rfl) rfl
theorem zero115 : zeroOf PP 115 = some [.p .nilmap] := Eq.trans (by kernel_rfl) rfl
theorem zv4 : zeroVal PP 4 = some (.p (.bool false)) := Eq.trans (by kernel_rfl) rfl
theorem load115 (x : DV) (σ : Store) : load PP 115 x σ = load1 x σ := Eq.trans (by kernel_rfl) rfl
theorem build111 (a b : Int) : build PP 111 [(0, .p (pI a)), (1, .p (pI b))] = some (key2 (a, b)) := Eq.trans (by kernel_rfl) rfl
theorem keyOk_2 (q : PR) : keyOk PP 40 111 (key2 q) = true := Eq.trans (by kernel_rfl) rfl
theorem eqAt_2 (q q' : PR) : eqAt PP 40 111 (key2 q) (key2 q') = some (decide (q'.1 = q.1) && decide (q'.2 = q.2)) := by
  have h : eqAt PP 40 111 (key2 q) (key2 q') = (match some (q.1 == q'.1) with
      | some true => (match some (q.2 == q'.2) with | some true => some true | r => r)
      | r => r) := by kernel_rfl
  have a1 : ∀ x y : Int, (x == y) = decide (y = x) := by
    intro x y
    by_cases e : y = x
    · subst e; simp
    · have e' : ¬ x = y := fun h => e h.symm
      simp [e, e']
  rw [h, a1, a1]
  cases decide (q'.1 = q.1) <;> cases decide (q'.2 = q.2) <;> rfl
theorem findKey_2 (q : PR) : ∀ ks : List PR, findKey PP 111 (key2 q) (ents ks) = some (if hasP ks q.1 q.2 then some (.p (.bool true)) else none)
  | [] => rfl
  | k :: ks => by
    have ih := findKey_2 q ks
    have e : ents (k :: ks) = (key2 k, .p (.bool true)) :: ents ks := rfl
    rw [e, findKey, eqAt_2, hasP_cons]
    cases h : decide (k.1 = q.1) && decide (k.2 = q.2) with
    | true => rfl
    | false => simp only [Bool.false_or]; exact ih
theorem updKey_2 (q : PR) : ∀ ks : List PR, updKey PP 111 (key2 q) (.p (.bool true)) (ents ks) = some (ents (addP ks q))
  | [] => rfl
  | k :: ks => by
    have ih := updKey_2 q ks
    have e : ents (k :: ks) = (key2 k, .p (.bool true)) :: ents ks := rfl
    rw [e, updKey, eqAt_2]
    unfold addP
    rw [hasP_cons]
    cases h : decide (k.1 = q.1) && decide (k.2 = q.2) with
    | true =>
      have : k = q := by
        simp only [Bool.and_eq_true, decide_eq_true_eq] at h
        exact Prod.ext h.1 h.2
      subst this
      have e : sameKey (key2 k) (key2 k) = true := by simp [sameKey, key2, sameCells, sameScalar]
      simp only [e, if_true, Bool.true_or]
      rfl
    | false =>
      rw [ih]
      simp only [Bool.false_or, addP]
      by_cases e : hasP ks q.1 q.2 = true
      · simp only [e, if_true, omap]; rfl
      · simp only [e, if_false, omap, Bool.false_eq_true]; rfl
theorem hasP_app (ks : List PR) (q : PR) (s u : Int) : hasP (ks ++ [q]) s u = (hasP ks s u || (decide (q.1 = s) && decide (q.2 = u))) := by simp [hasP]
theorem hasP_add (ks : List PR) (q : PR) (s u : Int) : hasP (addP ks q) s u = hasP (ks ++ [q]) s u := by
  unfold addP
  split
  · rename_i h
    rw [hasP_app]
    by_cases e : q.1 = s ∧ q.2 = u
    · rw [e.1, e.2] at h; simp [h]
    · have : (decide (q.1 = s) && decide (q.2 = u)) = false := by
        cases h1 : decide (q.1 = s) && decide (q.2 = u) with
        | false => rfl
        | true => exact absurd (by simpa using h1) e
      rw [this, Bool.or_false]
  · rfl
theorem mapUpd_2 {σ : Store} {r : Nat} {ks : List PR} (h : σ[r]? = some (.map (ents ks))) (q : PR) : mapUpdate PP 0 115 (.map r) (key2 q) (.p (.bool true)) σ = some (σ.set r (.map (ents (addP ks q)))) := by
  simp [mapUpdate, u115, keyOk_2, h, updKey_2, DV.isUndef]
theorem lookup_2 {σ : Store} {r : Nat} {ks : List PR} (h : σ[r]? = some (.map (ents ks))) (q : PR) : lookup PP 115 (.map r) (key2 q) false σ = some (.p (.bool (hasP ks q.1 q.2))) := by
  simp only [lookup, u115, keyOk_2, if_true, h, findKey_2, zv4]
  cases hasP ks q.1 q.2 <;> rfl

/-! ### The closure that looks into the set -/
theorem S74 {σ : Store} {b r : Nat} {ks : List PR} {t v : Int} (h1 : σ[b]? = some (.mix [.map r])) (h2 : σ[r]? = some (.map (ents ks))) : pureV CC 74 [.p (pI t), .p (pI v), .ptr b 0] σ = some (.p (.bool (hasP ks t v))) := by
  refine pureV_rows rfl rfl (F74_call (r := (.p (.bool (hasP ks t v)), σ)) ?_) rfl
  rw [F74_eq]
  simp only [load115, load1_ptr (off := 0) h1 rfl, obind, build111, lookup_2 h2]

/-! ### answered, for any relation -/
theorem L66 {p : Pair} {n u : Nat} {t : Int} {f : FuncId} {caps : List DV} {lo : Nat} {σ : Store} {q : Nat → Bool} (hu : u < n) (hn : n ≤ 1000)
    (hq : ∀ v : Nat, pureV CC f (.p (pI t) :: .p (pI (v : Nat)) :: caps) σ = some (.p (.bool (q v)))) :
    ∀ (k i : Nat), n - i = k → i ≤ n → f66_L0 guardT lo (.pptr (graphsV p n) 0) (.p (pI t)) (.p (pI (u : Nat))) (.fn f caps) (.p (pI (n : Nat))) (.p (pI (i : Nat))) σ = some (.p (.bool (anyFrom (fun v => follows p.up (u : Nat) (v : Nat) && q v) i k)), σ)
  | 0, i, hk, hi => by
    have : ¬ (i : Int) < (n : Nat) := by omega
    rw [f66_L0_eq guardT rfl]
    simp only [b_lss, obind, this, decide_false, condK_false, anyFrom]
  | k + 1, i, hk, hi => by
    have h' : (i : Int) < (n : Nat) := by omega
    have h : i < n := by omega
    have ih := L66 (p := p) (lo := lo) hu hn hq k (i + 1) (by omega) (by omega)
    rw [f66_L0_eq guardT rfl]
    simp only [b_lss, obind, h', decide_true, condK_true, pureFn_fn, List.append_nil, S45 hu h, anyFrom]
    cases e1 : follows p.up (u : Nat) (i : Nat) with
    | false =>
      simp only [guard_ft, guard_sk, obind, pickV_false, condK_false, b_add, wrap_succ (show i ≤ 1000000 by omega), Bool.false_and, Bool.false_or]
      exact ih
    | true =>
      simp only [guard_tt, obind, pureFn_fn, List.cons_append, List.nil_append, hq, pickV_true, Bool.true_and]
      cases e2 : q i with
      | true => simp only [condK_true, Bool.true_or]
      | false =>
        simp only [condK_false, b_add, obind, wrap_succ (show i ≤ 1000000 by omega), Bool.false_or]
        exact ih

theorem S66 {p : Pair} {n u : Nat} {t : Int} {f : FuncId} {caps : List DV} {σ : Store} {q : Nat → Bool} (hpn : p.up.n = (n : Nat)) (hu : u < n) (hn : n ≤ 1000)
    (hv : caps.map view = caps) (hq : ∀ σ0, AtSt caps σ σ0 → ∀ v : Nat, pureV CC f (.p (pI t) :: .p (pI (v : Nat)) :: caps) σ0 = some (.p (.bool (q v)))) :
    pureV CC 66 [.pptr (graphsV p n) 0, .p (pI t), .p (pI (u : Nat)), .fn f caps] σ = some (.p (.bool (anyFrom (fun v => follows p.up (u : Nat) (v : Nat) && q v) 0 n))) := by
  refine pureV_any rfl fun lo σ0 hs => ⟨_, σ0, F66_call (r := (.p (.bool (anyFrom (fun v => follows p.up (u : Nat) (v : Nat) && q v) 0 n)), σ0)) ?_, rfl⟩
  have hat : AtSt caps σ σ0 := by
    rcases hs with ⟨h1, _, h3⟩ | ⟨h1, _, _⟩
    · exact .inl ⟨h1, by simpa [rowFree, rowFree1] using h3⟩
    · exact .inr h1
  have h3 : (graphsV p n)[3]? = some (pI (n : Nat)) := by simp [graphsV, ePairP, hpn]
  rw [F66_eq]
  simp only [nil_pptr, obind, fa118_0, fa27_1, fa25_0, shift_pptr, Nat.zero_add, Nat.add_zero, load3, load1_pptr h3]
  exact L66 hu hn (hq σ0 hat) _ 0 rfl (Nat.zero_le _)

end Go.D
end
/- CheckSimulation. -/
section
set_option linter.unusedVariables false
set_option linter.unusedSimpArgs false
namespace Go.D

def st35 (p : Pair) (ks : List PR) : Store := [.mix (ePair p), .map (ents ks), .mix [.map 1]]
structure RS (p : Pair) (ks : List PR) (σ : Store) : Prop where
  h0 : σ[0]? = some (.mix (ePair p))
  h1 : σ[1]? = some (.map (ents ks))
  h2 : σ[2]? = some (.mix [.map 1])
theorem RS.snoc {p : Pair} {ks : List PR} {σ : Store} (h : RS p ks σ) (r : Row) : RS p ks (σ ++ [r]) := ⟨get_old h.h0, get_old h.h1, get_old h.h2⟩
theorem rs_st (p : Pair) (ks : List PR) : RS p ks (st35 p ks) := ⟨rfl, rfl, rfl⟩

section
variable {p : Pair} {o : Option (List OI)} {n m : Nat} {ks : List PR}

theorem L35_2 (hp : Nice p n m) {i : Nat} {s : Int} {u : Nat} (hu : u < n) (hi : i ≤ 1000) :
    ∀ (k j : Nat) (b : Bool) (σ : Store), (L p.lo.edges).length - j = k → j ≤ (L p.lo.edges).length → RS p ks σ →
      ∃ σ', RS p ks σ' ∧ f35_L2 guardT 0 (.ptr 0 0) (.pptr (graphsV p n) 0) (.fn 74 [.ptr 2 0]) (.p (pI (i : Nat))) (.p (eSl (prO (s, (u : Nat))))) (.p (.bool b)) (.p (eLs o)) (.p (pI ((L o).length : Nat))) (.p (pI (i : Nat))) (.p (eEs p.lo.edges)) (.p (pI ((L p.lo.edges).length : Nat))) (.p (pI (j : Nat))) σ =
        condK (.p (.bool (!(b && ((L p.lo.edges).drop j).all (keepE p ks n s (u : Nat)))))) (some (tup ((i : Nat), 31), σ')) (f35_L1 guardT 0 (.ptr 0 0) (.pptr (graphsV p n) 0) (.fn 74 [.ptr 2 0]) (.p (eLs o)) (.p (pI ((L o).length : Nat))) (.p (pI (i + 1 : Nat))) σ')
  | 0, j, b, σ, hk, hj, h => by
    have h' : ¬ (j : Int) < ((L p.lo.edges).length : Nat) := by omega
    have hd : (L p.lo.edges).drop j = [] := List.drop_eq_nil_of_le (by omega)
    refine ⟨σ, h, ?_⟩
    rw [f35_L2_eq guardT rfl, hd]
    simp only [b_lss, obind, h', decide_false, condK_false, not_bool, List.all_nil, Bool.and_true, b_add, wrap_succ (show i ≤ 1000000 by omega)]
    rfl
  | k + 1, j, b, σ, hk, hj, h => by
    have hlt : j < (L p.lo.edges).length := by omega
    have h' : (j : Int) < ((L p.lo.edges).length : Nat) := by omega
    have hle := hp.sm.le
    have hx : (σ ++ [Row.mix (edgD (L p.lo.edges)[j])])[σ.length]? = some (.mix (edgD (L p.lo.edges)[j])) := get_snoc
    have hρ' := h.snoc (Row.mix (edgD (L p.lo.edges)[j]))
    have w : IntKind.wrap .i64 ((j : Int) + 1) = ((j + 1 : Nat) : Int) := wrap_succ (by omega)
    rw [drop_cons hlt]
    have ih := fun b' => L35_2 hp (s := s) hu hi k (j + 1) b' _ (by omega) (by omega) hρ'
    suffices hs : f35_L2 guardT 0 (.ptr 0 0) (.pptr (graphsV p n) 0) (.fn 74 [.ptr 2 0]) (.p (pI (i : Nat))) (.p (eSl (prO (s, (u : Nat))))) (.p (.bool b)) (.p (eLs o)) (.p (pI ((L o).length : Nat))) (.p (pI (i : Nat))) (.p (eEs p.lo.edges)) (.p (pI ((L p.lo.edges).length : Nat))) (.p (pI (j : Nat))) σ =
        f35_L2 guardT 0 (.ptr 0 0) (.pptr (graphsV p n) 0) (.fn 74 [.ptr 2 0]) (.p (pI (i : Nat))) (.p (eSl (prO (s, (u : Nat))))) (.p (.bool (b && keepE p ks n s (u : Nat) (L p.lo.edges)[j]))) (.p (eLs o)) (.p (pI ((L o).length : Nat))) (.p (pI (i : Nat))) (.p (eEs p.lo.edges)) (.p (pI ((L p.lo.edges).length : Nat))) (.p (pI (j + 1 : Nat))) (σ ++ [Row.mix (edgD (L p.lo.edges)[j])]) by
      obtain ⟨σ', h1, h2⟩ := ih (b && keepE p ks n s (u : Nat) (L p.lo.edges)[j])
      refine ⟨σ', h1, ?_⟩
      rw [hs, h2, List.all_cons, Bool.and_assoc]
    rw [f35_L2_eq guardT rfl]
    simp only [b_lss, obind, h', decide_true, condK_true, idx23 hlt, load100, load100_D hlt, getD_at _ hlt, zero100, store_new100 σ (L p.lo.edges)[j] [.p (pI 0), .p (pI 0), .p (pI 0)] rfl]
    generalize hρ : σ ++ [Row.mix (edgD (L p.lo.edges)[j])] = ρ at *
    cases b with
    | false => simp only [guard_ft, guard_sk, obind, pickV_false, b_add, w, Bool.false_and]
    | true =>
      simp only [guard_tt, fa100_0, fa100_1, shift_ptr, Nat.zero_add, load3, load1_ptr (off := 0) hx rfl, load1_ptr (off := 1) hx rfl, obind, pr_idx0, pr_idx1, ii_ld0, ii_ld1, b_neq, keepE, Bool.true_and]
      cases e1 : decide ((L p.lo.edges)[j].f = s) with
      | false => simp only [Bool.not_false, guard_tf, guard_sk, obind, pickV_true, b_add, w, Bool.true_or]
      | true =>
        have hS : pureV CC 66 [.pptr (graphsV p n) 0, .p (pI (L p.lo.edges)[j].t), .p (pI (u : Nat)), .fn 74 [.ptr 2 0]] ρ = some (.p (.bool (matchP p ks n (L p.lo.edges)[j].t (u : Nat)))) := by
          refine S66 hp.un hu hp.n2 rfl fun σ0 hat v => ?_
          rcases hat with ⟨_, hf⟩ | rfl
          · exact absurd hf (by decide)
          · exact S74 hρ'.h2 hρ'.h1
        simp only [Bool.not_true, guard_ff, load1_ptr (off := 1) hx rfl, pr_idx1, ii_ld1, obind, pureFn_fn, List.append_nil, hS, pickV_false, pickV_true, b_add, w, Bool.false_or]

theorem keepP_congr {ks' : List PR} (h : ∀ s u, hasP ks s u = hasP ks' s u) (s u : Int) : keepP p ks n s u = keepP p ks' n s u := by
  have e : ∀ t u, matchP p ks n t u = matchP p ks' n t u := by
    intro t u; unfold matchP; simp only [h]
  have e2 : ∀ e, keepE p ks n s u e = keepE p ks' n s u e := by
    intro e'; unfold keepE; rw [e]
  unfold keepP
  rw [show keepE p ks n s u = keepE p ks' n s u from funext e2]

theorem L35_1 (hp : Nice p n m) (hks : ∀ s u, hasP ks s u = hasP (psOf (listsOf o)) s u) (ho : L o = (psOf (listsOf o)).map prO) (hl : (L o).length ≤ 1000) (hin : ∀ i, i < (L o).length → (0 ≤ x0 (listsOf o) i ∧ x0 (listsOf o) i < m) ∧ 0 ≤ x1 (listsOf o) i ∧ x1 (listsOf o) i < n) :
    ∀ (k i : Nat) (σ : Store), (L o).length - i = k → i ≤ (L o).length → RS p ks σ →
      ∃ σ', f35_L1 guardT 0 (.ptr 0 0) (.pptr (graphsV p n) 0) (.fn 74 [.ptr 2 0]) (.p (eLs o)) (.p (pI ((L o).length : Nat))) (.p (pI (i : Nat))) σ = some (tup (pairR (firstBad (brokenAt p (listsOf o) n) i k) (0, 0)), σ')
  | 0, i, σ, hk, hi, h => by
    have : ¬ (i : Int) < ((L o).length : Nat) := by omega
    refine ⟨σ, ?_⟩
    rw [f35_L1_eq guardT rfl]
    simp only [b_lss, obind, this, decide_false, condK_false, firstBad, pairR, tup]
  | k + 1, i, σ, hk, hi, h => by
    have hlt : i < (L o).length := by omega
    have h' : (i : Int) < ((L o).length : Nat) := by omega
    have h2 : i < (psOf (listsOf o)).length := by simpa [psOf, listsOf] using hlt
    have eq : (psOf (listsOf o))[i] = (x0 (listsOf o) i, x1 (listsOf o) i) := by simp [psOf, x0, x1, listsOf, List.getD_eq_getElem?_getD, hlt]
    have hg : (L o).getD i none = prO (x0 (listsOf o) i, x1 (listsOf o) i) := by rw [prs_get ho h2, eq]
    obtain ⟨hs, hu⟩ := hin i hlt
    have hbr : brokenAt p (listsOf o) n i = bif keepP p (psOf (listsOf o)) n (x0 (listsOf o) i) (x1 (listsOf o) i) then 0 else 31 := rfl
    generalize es : x0 (listsOf o) i = s at *
    generalize eu : x1 (listsOf o) i = u at *
    have i1 : indexAddr PP 22 (.p (eSl p.ll)) (.p (pI s)) = some (.pptr (eInts (L p.ll)) s.toNat) := idx22z hs.1 (by rw [hp.ll]; exact hs.2)
    have i2 : indexAddr PP 22 (.p (eSl p.ul)) (.p (pI u)) = some (.pptr (eInts (L p.ul)) u.toNat) := idx22z hu.1 (by rw [hp.ul]; exact hu.2)
    have b1 : s.toNat < (L p.ll).length := by rw [hp.ll]; omega
    have b2 : u.toNat < (L p.ul).length := by rw [hp.ul]; omega
    have eu2 : u = (u.toNat : Nat) := by omega
    obtain ⟨σ', h3, h4⟩ := L35_2 (o := o) (i := i) (s := s) hp (show u.toNat < n by omega) (by omega) _ 0 (labOk p s u) σ rfl (Nat.zero_le _) h
    rw [← eu2, List.drop_zero] at h4
    have h4' : f35_L2 guardT 0 (.ptr 0 0) (.pptr (graphsV p n) 0) (.fn 74 [.ptr 2 0]) (.p (pI (i : Nat))) (.p (eSl (prO (s, u)))) (.p (.bool (labOk p s u))) (.p (eLs o)) (.p (pI ((L o).length : Nat))) (.p (pI (i : Nat))) (.p (eEs p.lo.edges)) (.p (pI ((L p.lo.edges).length : Nat))) (.p (pI 0)) σ = _ := h4
    have hbody : f35_L1 guardT 0 (.ptr 0 0) (.pptr (graphsV p n) 0) (.fn 74 [.ptr 2 0]) (.p (eLs o)) (.p (pI ((L o).length : Nat))) (.p (pI (i : Nat))) σ = condK (.p (.bool (!(labOk p s u && (L p.lo.edges).all (keepE p ks n s u))))) (some (tup ((i : Nat), 31), σ')) (f35_L1 guardT 0 (.ptr 0 0) (.pptr (graphsV p n) 0) (.fn 74 [.ptr 2 0]) (.p (eLs o)) (.p (pI ((L o).length : Nat))) (.p (pI (i + 1 : Nat))) σ') := by
      rw [f35_L1_eq guardT rfl]
      simp only [b_lss, obind, h', decide_true, condK_true, idx51 hlt, load22, load1_ls hlt, hg, fa27_0, fa27_2, fa27_3, fa25_2, shift_ptr, Nat.zero_add, Nat.add_zero, pr_6 h.h0, pr_7 h.h0, pr_idx0, pr_idx1, load3, ii_ld0, ii_ld1, i1, i2, load1_getD b1, load1_getD b2, b_eql, load23, pr_2 h.h0, len23]
      rw [← h4']
      rfl
    rw [hbody]
    have ek : (labOk p s u && (L p.lo.edges).all (keepE p ks n s u)) = keepP p (psOf (listsOf o)) n s u := keepP_congr hks s u
    rw [ek]
    cases e : keepP p (psOf (listsOf o)) n s u with
    | false =>
      rw [e] at hbr
      rw [firstBad_pos hbr (by decide)]
      exact ⟨σ', rfl⟩
    | true =>
      rw [e] at hbr
      rw [firstBad_zero hbr]
      simp only [Bool.not_true, condK_false]
      exact L35_1 hp hks ho hl hin k (i + 1) σ' (by omega) (by omega) h3

theorem bs122_2 (x y : Int) (σ : Store) : buildSlice PP none 122 2 [(0, .p (pI x)), (1, .p (pI y))] σ = some (.p (.sl true 2 (eInts [x, y])), σ) := Eq.trans (by kernel_rfl) rfl

/-- The loop over the shapes; what it goes on with. -/
noncomputable def next35 (p : Pair) (o : Option (List OI)) (n : Nat) (ks : List PR) : Option (DV × Store) :=
  f35_L1 guardT 0 (.ptr 0 0) (.pptr (graphsV p n) 0) (.fn 74 [.ptr 2 0]) (.p (eLs o)) (.p (pI ((L o).length : Nat))) (.p (pI (0 : Nat))) (st35 p ks)

theorem L35_0 (hp : Nice p n m) (hl : (L o).length ≤ 1000) (hx : ∀ x ∈ L o, (L x).length ≤ 1000) :
    ∀ (k i : Nat) (ks : List PR), (L o).length - i = k → i ≤ (L o).length → (∀ s u, hasP ks s u = hasP (psOf ((listsOf o).take i)) s u) →
      ∃ ks', ((firstBad (shapeAt p (listsOf o)) i k = none → ∀ s u, hasP ks' s u = hasP (psOf (listsOf o)) s u) ∧
        f35_L0 guardT 0 (.p (eLs o)) (.ptr 0 0) (.ptr 2 0) (.p (eLs o)) (.p (pI ((L o).length : Nat))) (.p (pI (i : Nat))) (st35 p ks) = match firstBad (shapeAt p (listsOf o)) i k with
          | some q => some (tup (q.1, q.2), st35 p ks')
          | none => next35 p o n ks')
  | 0, i, ks, hk, hi, hks => by
    have hlen : (listsOf o).length = (L o).length := by simp [listsOf]
    have : ¬ (i : Int) < ((L o).length : Nat) := by omega
    have h0 : (st35 p ks)[0]? = some (.mix (ePair p)) := rfl
    refine ⟨ks, fun _ => ?_, ?_⟩
    · intro s u
      rw [hks, List.take_of_length_le (by omega)]
    · rw [f35_L0_eq guardT rfl]
      simp only [b_lss, obind, this, decide_false, condK_false, firstBad, load27, pr_all h0, omap, pureFn_fn, List.append_nil, S43 hp.sm hp.un hp.n2 hp.us, len51]
      rfl
  | k + 1, i, ks, hk, hi, hks => by
    have h : i < (L o).length := by omega
    have h' : (i : Int) < ((L o).length : Nat) := by omega
    have hxi : (L ((L o).getD i none)).length ≤ 1000 := by rw [getD_at _ h]; exact hx _ (List.getElem_mem h)
    have h0 : (st35 p ks)[0]? = some (.mix (ePair p)) := rfl
    have h1 : (st35 p ks)[1]? = some (.map (ents ks)) := rfl
    have h2 : (st35 p ks)[2]? = some (.mix [.map 1]) := rfl
    rw [f35_L0_eq guardT rfl]
    simp only [b_lss, obind, h', decide_true, condK_true, idx51 h, load22, load1_ls h, len22, b_neq]
    by_cases e1 : (L ((L o).getD i none)).length = 2
    · have e1' : ((L ((L o).getD i none)).length : Int) = 2 := by omega
      have b0 : 0 < (L ((L o).getD i none)).length := by omega
      have b1 : 1 < (L ((L o).getD i none)).length := by omega
      have hsh : shapeAt p (listsOf o) i = orL [bif inBoth p (listsOf o) i then 0 else 3, bif upAt (listsOf o) i then 0 else 13] := by rw [shapeAt, listsOf_get h, if_pos e1]
      have ex0 : x0 (listsOf o) i = (L ((L o).getD i none)).getD 0 0 := by rw [x0, listsOf_get h]
      have ex1 : x1 (listsOf o) i = (L ((L o).getD i none)).getD 1 0 := by rw [x1, listsOf_get h]
      have hup0 : decide ((i : Int) = 0) = decide (i = 0) := by simp only [decide_eq_decide]; omega
      have hupd := mapUpd_2 h1 (x0 (listsOf o) i, x1 (listsOf o) i)
      have hset : (st35 p ks).set 1 (.map (ents (addP ks (x0 (listsOf o) i, x1 (listsOf o) i)))) = st35 p (addP ks (x0 (listsOf o) i, x1 (listsOf o) i)) := rfl
      have hks' : ∀ s u, hasP (addP ks (x0 (listsOf o) i, x1 (listsOf o) i)) s u = hasP (psOf ((listsOf o).take (i + 1))) s u := by
        intro s u
        have hlt : i < (listsOf o).length := by simpa [listsOf] using h
        rw [hasP_add, List.take_succ_eq_append_getElem hlt]
        unfold psOf at hks ⊢
        rw [List.map_append, List.map_singleton, hasP_app, hasP_app, hks]
        have : (listsOf o)[i] = (listsOf o).getD i [] := by rw [getD_at _ hlt]
        rw [this]; rfl
      obtain ⟨ks', g1, g2⟩ := L35_0 hp hl hx k (i + 1) _ (by omega) (by omega) hks'
      simp only [e1', decide_true, Bool.not_true, condK_false, idx22_0 b0, idx22_1 b1, load3, load1_getD b0, load1_getD b1, obind, fa27_0, fa27_1, fa25_0, shift_ptr, Nat.zero_add, Nat.add_zero, pr_0 h0, pr_3 h0, b_sub, b_eql, pureFn_fn, List.append_nil, S53, S56, ← ex0, ← ex1, hup0]
      have htail : ∀ bi bu : Bool, bi = inBoth p (listsOf o) i → bu = upAt (listsOf o) i →
          ∃ ks', ((firstBad (shapeAt p (listsOf o)) i (k + 1) = none → ∀ s u, hasP ks' s u = hasP (psOf (listsOf o)) s u) ∧
          ((buildSlice PP none 122 2 [(0, .p (pI (if bi then 0 else 3))), (1, .p (pI (if bu then 0 else 13)))] (st35 p ks)).bind fun r67_18 =>
            (pureV CC 54 [r67_18.1] r67_18.2).bind fun x68 =>
            (binOp PP .neq 30 x68 (DV.p (PV.int IntKind.i64 (0)))).bind fun x70 =>
            condK x70 (some ((DV.tuple [.p (pI (i : Nat)), x68]), r67_18.2))
             ((load PP 115 (.ptr 2 0) r67_18.2).bind fun x73 =>
              (build PP 111 [(0, .p (pI (x0 (listsOf o) i))), (1, .p (pI (x1 (listsOf o) i)))]).bind fun x80 =>
              (mapUpdate PP 0 115 x73 x80 (DV.p (PV.bool true)) r67_18.2).bind fun σ19 =>
              (binOp PP .add 3 (.p (pI (i : Nat))) (DV.p (PV.int IntKind.i64 (1)))).bind fun x81 =>
              f35_L0 guardT 0 (.p (eLs o)) (.ptr 0 0) (.ptr 2 0) (.p (eLs o)) (.p (pI ((L o).length : Nat))) x81 σ19)) =
          match firstBad (shapeAt p (listsOf o)) i (k + 1) with
          | some q => some (tup (q.1, q.2), st35 p ks')
          | none => next35 p o n ks') := by
        intro bi bu h3 h4
        rw [← h3, ← h4] at hsh
        have hS : ∀ (x y : Int) (σ : Store), pureV CC 54 [.p (eSl (some [x, y]))] σ = some (.p (pI (orL [x, y]))) := fun x y σ => S54 (o := some [x, y]) (by simp)
        have e54 : ∀ (x y : Int) (σ : Store), pureV CC 54 [.p (.sl true 2 (eInts [x, y]))] σ = some (.p (pI (orL [x, y]))) := by
          intro x y σ
          rw [← hS x y σ]
          exact pureV_view (by simp [view, viewCell, loosen, loosens_ints, eSl]) (by simp [sl_view])
        simp only [bs122_2, obind, e54, b_neq]
        cases bi with
        | false =>
          refine ⟨ks, ?_, ?_⟩
          · rw [firstBad_pos hsh (by cases bu <;> decide)]; intro hh; exact absurd hh (by simp)
          · rw [firstBad_pos hsh (by cases bu <;> decide)]; cases bu <;> rfl
        | true =>
          cases bu with
          | false =>
            refine ⟨ks, ?_, ?_⟩
            · rw [firstBad_pos hsh (by decide)]; intro hh; exact absurd hh (by simp)
            · rw [firstBad_pos hsh (by decide)]; rfl
          | true =>
            refine ⟨ks', ?_, ?_⟩
            · rw [firstBad_zero hsh]; exact g1
            · rw [firstBad_zero hsh, ← g2]
              have ez : orL [if True then (0 : Int) else 3, if True then (0 : Int) else 13] = 0 := by decide
              simp only [ez, decide_true, Bool.not_true, condK_false, load115, load1_ptr (off := 0) h2 rfl, obind, build111, hupd, hset, b_add, wrap_succ (show i ≤ 1000000 by omega)]
      have hlast : ∀ bi : Bool, bi = inBoth p (listsOf o) i →
          ∃ ks', ((firstBad (shapeAt p (listsOf o)) i (k + 1) = none → ∀ s u, hasP ks' s u = hasP (psOf (listsOf o)) s u) ∧
          (guardT _ (.p (.bool (decide (i = 0)))) false (some (.p (eLs o), st35 p ks)) (st35 p ks) fun x57 σ10 =>
            guardT _ (.p (.bool (decide (i = 0)))) false (some (.p (pI (i : Nat)), σ10)) σ10 fun x58 σ11 =>
            guardT _ (.p (.bool (decide (i = 0)))) false ((binOp PP .sub 3 x58 (DV.p (PV.int IntKind.i64 (1)))).bind fun v => some (v, σ11)) σ11 fun x59 σ12 =>
            guardT _ (.p (.bool (decide (i = 0)))) false ((indexAddr PP 51 x57 x59).bind fun v => some (v, σ12)) σ12 fun x60 σ13 =>
            guardT _ (.p (.bool (decide (i = 0)))) false ((load1 x60 σ13).bind fun v => some (v, σ13)) σ13 fun x61 σ14 =>
            guardT _ (.p (.bool (decide (i = 0)))) false (some (.p (eSl ((L o).getD i none)), σ14)) σ14 fun x62 σ15 =>
            guardT _ (.p (.bool (decide (i = 0)))) false ((pureV CC 73 [x61, x62] σ15).bind fun v => some (v, σ15)) σ15 fun x63 σ16 =>
            guardT _ (.p (.bool (decide (i = 0)))) false ((binOp PP .lss 3 x63 (DV.p (PV.int IntKind.i64 (0)))).bind fun v => some (v, σ16)) σ16 fun x64 σ17 =>
            (pickV (.p (.bool (decide (i = 0)))) (DV.p (PV.bool true)) x64).bind fun x65 =>
            (pureV CC 56 [x65, (DV.p (PV.int IntKind.i64 (13)))] σ17).bind fun x66 =>
            (buildSlice PP none 122 2 [(0, .p (pI (if bi then 0 else 3))), (1, x66)] σ17).bind fun r67_18 =>
            (pureV CC 54 [r67_18.1] r67_18.2).bind fun x68 =>
            (binOp PP .neq 30 x68 (DV.p (PV.int IntKind.i64 (0)))).bind fun x70 =>
            condK x70 (some ((DV.tuple [.p (pI (i : Nat)), x68]), r67_18.2))
             ((load PP 115 (.ptr 2 0) r67_18.2).bind fun x73 =>
              (build PP 111 [(0, .p (pI (x0 (listsOf o) i))), (1, .p (pI (x1 (listsOf o) i)))]).bind fun x80 =>
              (mapUpdate PP 0 115 x73 x80 (DV.p (PV.bool true)) r67_18.2).bind fun σ19 =>
              (binOp PP .add 3 (.p (pI (i : Nat))) (DV.p (PV.int IntKind.i64 (1)))).bind fun x81 =>
              f35_L0 guardT 0 (.p (eLs o)) (.ptr 0 0) (.ptr 2 0) (.p (eLs o)) (.p (pI ((L o).length : Nat))) x81 σ19)) =
          match firstBad (shapeAt p (listsOf o)) i (k + 1) with
          | some q => some (tup (q.1, q.2), st35 p ks')
          | none => next35 p o n ks') := by
        intro bi h3
        by_cases e0 : i = 0
        · have := htail bi true h3 (by simp [upAt, e0])
          refine this.imp fun ks' hh => ⟨hh.1, Eq.trans ?_ hh.2⟩
          simp only [e0, decide_true, guard_tf, guard_sk, obind, pickV_true, S56]
        · have h4 : i - 1 < (L o).length := by omega
          have hx1 : (L ((L o).getD (i - 1) none)).length ≤ 1000 := by rw [getD_at _ h4]; exact hx _ (List.getElem_mem h4)
          have := htail bi (decide (cmpL (L ((L o).getD (i - 1) none)) (L ((L o).getD i none)) < 0)) h3 (by rw [upAt, listsOf_get h4, listsOf_get h]; simp [e0])
          refine this.imp fun ks' hh => ⟨hh.1, Eq.trans ?_ hh.2⟩
          simp only [e0, decide_false, guard_ff, obind, b_sub, wrap_pred (show 0 < i by omega) (show i ≤ 1000000 by omega), idx51 h4, load1_ls h4, S73 hx1 hxi, b_lss, pickV_false, S56]
      cases e2 : inR (x0 (listsOf o) i) 0 (pred p.lo.n) with
      | false =>
        have := hlast false (by simp [inBoth, e2])
        refine this.imp fun ks' hh => ⟨hh.1, Eq.trans ?_ hh.2⟩
        simp only [guard_ft, guard_sk, obind, pickV_false, S56]
      | true =>
        have := hlast (inR (x1 (listsOf o) i) 0 (pred p.up.n)) (by simp [inBoth, e2])
        refine this.imp fun ks' hh => ⟨hh.1, Eq.trans ?_ hh.2⟩
        simp only [guard_tt, obind, idx22_1 b1, load3, load1_getD b1, fa27_1, fa25_0, shift_ptr, Nat.zero_add, Nat.add_zero, pr_3 h0, b_sub, S53, pickV_true, S56, ← ex1]
    · have e1' : ¬ ((L ((L o).getD i none)).length : Int) = 2 := by omega
      have hsh : shapeAt p (listsOf o) i = 6 := by rw [shapeAt, listsOf_get h, if_neg e1]
      refine ⟨ks, ?_, ?_⟩
      · rw [firstBad_pos hsh (by decide)]; intro hh; exact absurd hh (by simp)
      · rw [firstBad_pos hsh (by decide)]
        simp only [e1', decide_false, Bool.not_false, condK_true]
        rfl

theorem S35_ok {σ : Store} (hp : Nice p n m) (he : errP p = 0) (hl : (L o).length ≤ 1000) (hx : ∀ x ∈ L o, (L x).length ≤ 1000) :
    pureV CC 35 [.agg (ePair p), .p (eLs o)] σ = some (tup (relRes p n (listsOf o))) := by
  have hlen : (listsOf o).length = (L o).length := by simp [listsOf]
  obtain ⟨ks, h1, h2⟩ := L35_0 hp hl hx _ 0 [] rfl (Nat.zero_le _) (fun s u => rfl)
  have hF : ∃ σ', F35 guardT 0 (.agg (ePair p)) (.p (eLs o)) [] = some (tup (relRes p n (listsOf o)), σ') := by
    have g0 : ([Row.mix (ePair p)] : Store)[0]? = some (.mix (ePair p)) := rfl
    have hst : store PP 0 115 (.ptr 2 0) (.map 1) [Row.mix (ePair p), Row.map [], Row.mix [.p .nilmap]] = some (st35 p []) := by kernel_rfl
    rw [F35_eq]
    simp only [box_pair, obind, List.length_nil, List.nil_append, List.length_cons, List.cons_append, Nat.zero_add, Nat.reduceAdd, load27, pr_all g0, omap, pureFn_fn, List.append_nil, S41 hp.sm, he, b_neq, decide_true, Bool.not_true, condK_false, zero115, hst, len51]
    have h2' : f35_L0 guardT 0 (.p (eLs o)) (.ptr 0 0) (.ptr 2 0) (.p (eLs o)) (.p (pI ((L o).length : Nat))) (.p (pI 0)) (st35 p []) = _ := h2
    rw [h2']
    unfold relRes
    rw [hlen, Nat.sub_zero] at *
    cases e : firstBad (shapeAt p (listsOf o)) 0 (L o).length with
    | some q => exact ⟨_, rfl⟩
    | none =>
      have hz := fun (i : Nat) (hi : i < (L o).length) => shape_zero (firstBad_none e i (Nat.zero_le _) (by omega))
      obtain ⟨σ', h3⟩ := L35_1 hp (h1 e) (prs_of fun i hi => (hz i hi).1) hl (fun i hi => in_of hp (hz i hi).2.1) _ 0 (st35 p ks) rfl (Nat.zero_le _) (rs_st p ks)
      exact ⟨σ', by rw [Nat.sub_zero] at h3; exact h3⟩
  refine pureV_any (by simp [pair_view, ls_view]) fun lo σ0 hs => ?_
  rcases hs with ⟨rfl, rfl, _⟩ | ⟨_, _, h⟩
  case inr => exact absurd h (by simp [rowFree, rowFree1, ePair])
  obtain ⟨σ', h⟩ := hF
  exact ⟨_, _, F35_call h, rfl⟩

theorem S35_bad {σ : Store} (hp : Small p) (he : errP p ≠ 0) : pureV CC 35 [.agg (ePair p), .p (eLs o)] σ = some (tup (0, errP p)) := by
  refine pureV_any (by simp [pair_view, ls_view]) fun lo σ0 hs => ⟨tup (0, errP p), σ0 ++ [.mix (ePair p)], F35_call ?_, rfl⟩
  rw [F35_eq]
  have g0 : (σ0 ++ [Row.mix (ePair p)])[σ0.length]? = some (.mix (ePair p)) := get_snoc
  simp only [box_pair, obind, load27, pr_all g0, omap, pureFn_fn, List.append_nil, S41 hp, b_neq, he, decide_false, Bool.not_false, condK_true]
  rfl

end
end Go.D
end
/- RefineRelations: what the law answers, if awake answers true. -/
section
set_option linter.unusedVariables false
set_option linter.unusedSimpArgs false
namespace Go.D

theorem nice_of {p : Pair} (hp : Small p) (he : errP p = 0) : Nice p p.up.n.toNat p.lo.n.toNat := by
  have h1 : e1P p = 0 := orL_zero he _ (by simp)
  have h3 : e3P p = 0 := orL_zero he _ (by simp)
  have g1 : isG p.lo = true ∧ isG p.up = true := by
    unfold e1P at h1
    split at h1
    · rename_i h; simpa using h
    · omega
  have g3 : ((L p.ll).length : Int) = p.lo.n ∧ ((L p.ul).length : Int) = p.up.n := by
    unfold e3P at h3
    split at h3
    · rename_i h; simpa using h
    · omega
  have hup := g1.2
  have hlo := g1.1
  simp only [isG, Bool.and_eq_true, decide_eq_true_eq] at hup hlo
  have nu : 0 ≤ p.up.n ∧ p.up.n ≤ 400 := by simpa [inR] using hup.1.1.1
  have nl : 0 ≤ p.lo.n ∧ p.lo.n ≤ 400 := by simpa [inR] using hlo.1.1.1
  have pu : pred p.up.n = p.up.n - 1 := wrap_ok (by omega) (by omega)
  have pl : pred p.lo.n = p.lo.n - 1 := wrap_ok (by omega) (by omega)
  refine ⟨hp, by omega, by omega, by omega, by omega, by omega, by omega, ?_, ?_⟩
  · intro e hm
    obtain ⟨i, hi, rfl⟩ := List.getElem_of_mem hm
    have := (allFrom_iff _ _).1 hup.2 i (Nat.zero_le _) (by omega)
    have eg : (L p.up.edges).getD i default = (L p.up.edges)[i] := by rw [List.getD_eq_getElem?_getD, List.getElem?_eq_getElem hi]; rfl
    simp only [okE, eg, pu, inR, Bool.and_eq_true, decide_eq_true_eq] at this
    omega
  · intro e hm
    obtain ⟨i, hi, rfl⟩ := List.getElem_of_mem hm
    have := (allFrom_iff _ _).1 hlo.2 i (Nat.zero_le _) (by omega)
    have eg : (L p.lo.edges).getD i default = (L p.lo.edges)[i] := by rw [List.getD_eq_getElem?_getD, List.getElem?_eq_getElem hi]; rfl
    simp only [okE, eg, pl, inR, Bool.and_eq_true, decide_eq_true_eq] at this
    omega

theorem L_own (o : Option (List OI)) : L (ownLs o) = (L o).map ownX := by
  unfold ownLs
  split
  · rename_i h; rw [h]; rfl
  · rfl
theorem lists_own (o : Option (List OI)) : listsOf (ownLs o) = listsOf o := by
  unfold listsOf
  rw [L_own, List.map_map]
  exact List.map_congr_left fun x _ => rfl

theorem brief_len {o : Option (List OI)} (h : briefL (L o) = true) : (L o).length ≤ 1000 ∧ ∀ x ∈ L o, (L x).length ≤ 1000 := by
  simp only [briefL, Bool.and_eq_true, decide_eq_true_eq, List.all_eq_true, shortL] at h
  exact ⟨by omega, fun x hx => by have := h.2 x hx; omega⟩

/-- What CheckSimulation answers of the copies. -/
def resS (p : Pair) (o : Option (List OI)) : Int × Int := if errP p = 0 then relRes p p.up.n.toNat (listsOf o) else (0, errP p)
theorem S35 {p : Pair} {o : Option (List OI)} {σ : Store} (hp : Small p) (hl : (L o).length ≤ 1000) (hx : ∀ x ∈ L o, (L x).length ≤ 1000) :
    pureV CC 35 [.agg (ePair p), .p (eLs o)] σ = some (tup (resS p o)) := by
  unfold resS
  split
  · rename_i he; exact S35_ok (nice_of hp he) he hl hx
  · rename_i he; exact S35_bad hp he
theorem resS_own (p : Pair) (o : Option (List OI)) : resS (ownP p) (ownLs o) = resS p o := by
  unfold resS
  rw [lists_own]
  rfl

theorem ex_t0 (q : Int × Int) : extractV (tup q) 0 = some (.p (pI q.1)) := Eq.trans rfl rfl
theorem ex_t1 (q : Int × Int) : extractV (tup q) 1 = some (.p (pI q.2)) := Eq.trans rfl rfl

theorem law8 (hawake : ∀ σ, pureV CC 10 [] σ = some (.p (.bool true))) (p : Pair) (o : Option (List OI)) : ∃ σ', F8 guardT 0 (.agg (ePair p)) (.p (eLs o)) [] = some (.p (.bool true), σ') := by
  have g0 : ([Row.mix (ePair p)] : Store)[0]? = some (.mix (ePair p)) := rfl
  refine ⟨[Row.mix (ePair p)], ?_⟩
  rw [F8_eq]
  simp only [box_pair, obind, List.length_nil, List.nil_append, pureFn_fn, List.append_nil, hawake, not_bool, Bool.not_true, condK_false, load27, pr_all g0, omap, S11]
  cases hfew : fewP p with
  | false => simp only [Bool.not_false, guard_tf, guard_sk, obind, pickV_true, condK_true]
  | true =>
    have hp := small_of hfew
    simp only [Bool.not_true, guard_ff, obind, S34, not_bool, pickV_false]
    cases hb : briefL (L o) with
    | false => simp only [Bool.not_false, condK_true]
    | true =>
      obtain ⟨hl, hx⟩ := brief_len hb
      have hl2 : (L (ownLs o)).length ≤ 1000 := by rw [L_own, List.length_map]; exact hl
      have hx2 : ∀ x ∈ L (ownLs o), (L x).length ≤ 1000 := by
        intro x h
        rw [L_own] at h
        obtain ⟨y, hy, rfl⟩ := List.mem_map.1 h
        exact hx y hy
      simp only [Bool.not_true, condK_false, load27, pr_all g0, omap, obind, S13 hp, S36 hl hx, S35 (small_own hp) hl2 hx2, resS_own, ex_t0, ex_t1, S15 hp, b_neq]
      by_cases he : errP p = 0
      · simp only [resS, he, if_true, decide_true, Bool.not_true, condK_false, S37 (nice_of hp he) hl hx, obind, ex_t0, ex_t1, b_eql, guard_tt, pickV_true]
      · simp only [resS, he, if_false, decide_false, Bool.not_false, condK_true, b_eql, obind, decide_true, guard_tt, pickV_true]

theorem call8 (hawake : ∀ σ, pureV CC 10 [] σ = some (.p (.bool true))) (p : Pair) (o : Option (List OI)) : ∃ σ', CC 0 8 [.agg (ePair p), .p (eLs o)] [] = some (.p (.bool true), σ') := by
  obtain ⟨σ', h⟩ := law8 hawake p o
  exact ⟨σ', F8_call h⟩

end Go.D
end
/- Lists of lists as arguments. -/
section
set_option linter.unusedVariables false
set_option linter.unusedSimpArgs false
set_option maxRecDepth 100000
namespace Go.D
open Go.ChangeShapes Go.WideShapes Go.ChangeAt Go.RowKit

variable {H : Type} {enc : TypeId × Value → H} {W : World} {base : Nat}

theorem spot_of_cell {a : Addr} {v : Value} (h : W.cell? a = some v) : a.spot = none := by
  unfold World.cell? at h
  split at h
  · split at h
    · exact absurd h (by simp)
    · rename_i hs
      cases e : a.spot with
      | none => rfl
      | some s => rw [e] at hs; exact absurd rfl hs
  · exact absurd h (by simp)
theorem add_zero_addr (a : Addr) : a.add 0 = a := rfl

theorem read_slAny {hd : Bool} {fuel : Nat} {c : Value} {x : DataW H × List MemPlace} (h : DataW.trod enc PP W 0 (fun _ => true) hd fuel 22 [c] = some x) : ∃ o, PRel (memOf W) (eSl o) c := by
  rcases open_ints u22 ul3 cells3 h with ⟨hc, _⟩ | ⟨a, len, cap, zs, hc, _, hl, hm, hz, _, hcell, _⟩
  · injection hc with hc; subst hc
    exact ⟨none, .nilsl⟩
  · injection hc with hc; subst hc
    simp only [if_true] at hz
    have hs : cap ≠ 0 → a.spot = none := fun h0 => spot_of_cell (hcell 0 (by omega))
    have hlen : (zs.take len).length = len := by rw [List.length_take]; omega
    refine ⟨some (zs.take len), ?_⟩
    have e : eSl (some (zs.take len)) = .sl false len (eInts (zs.take len)) := by simp only [eSl, hlen]
    rw [e]
    refine .sl (fun j => .int .i64 (zs.getD j 0)) hs hl (by simp) (fun j hj => ?_) (fun j hj => ?_)
    · rw [ints_length, hlen] at hj
      have := hcell j (by omega)
      rwa [addr_add (hs (by omega))] at this
    · rw [ints_length, hlen] at hj
      have : (eInts (zs.take len))[j] = pI (zs.getD j 0) := by
        simp only [eInts, List.getElem_map, List.getElem_take]
        rw [List.getD_eq_getElem?_getD, List.getElem?_eq_getElem (by omega)]
        rfl
      rw [this]
      exact .int _ _

theorem read_ls {r : Reach} {b0 : Nat} {hd : Bool} {fuel : Nat} {c : Value} {x : DataW H × List MemPlace} (hok : Cell.okWide PP W r b0 51 c) (h : DataW.trod enc PP W 0 (fun _ => true) hd fuel 51 [c] = some x) : ∃ o, PRel (memOf W) (eLs o) c := by
  rcases DataW.trod_slice u51 h with ⟨hc, _⟩ | ⟨a, len, cap, elems, rest, n, _, hc, _, _, hl, hm, hlen, hel, _, _⟩
  · injection hc with hc; subst hc
    exact ⟨none, .nilsl⟩
  · injection hc with hc; subst hc
    have hs := spot_of u51 hok
    rw [cells22] at hel
    have each : ∀ i, ∃ q : OI × Value, i < len → W.cell? ⟨a.block, a.off + i, none⟩ = some q.2 ∧ PRel (memOf W) (eSl q.1) q.2 := by
      intro i
      by_cases hi : i < len
      · have h1 := hel i hi
        rw [List.getElem?_eq_getElem (by omega)] at h1
        obtain ⟨cs, h2, h3⟩ := Option.bind_eq_some_iff.1 h1
        obtain ⟨_, h5, h4⟩ := World.cells?_some h2
        match cs, h5 with
        | [v], _ =>
          obtain ⟨o, ho⟩ := read_slAny h3
          refine ⟨⟨o, v⟩, fun _ => ⟨?_, ho⟩⟩
          have := h4 0 (by omega)
          rw [addr_add hs, addr_add rfl, Nat.mul_one] at this
          exact this
      · exact ⟨default, fun h => absurd h hi⟩
    obtain ⟨f, hf⟩ := Classical.axiomOfChoice each
    have hll : ((List.range len).map fun i => (f i).1).length = len := by simp
    refine ⟨some ((List.range len).map fun i => (f i).1), ?_⟩
    have e : eLs (some ((List.range len).map fun i => (f i).1)) = .sl false len (((List.range len).map fun i => (f i).1).map eSl) := by simp only [eLs, hll]
    rw [e]
    refine .sl (fun j => (f j).2) (fun _ => hs) hl (by simp) (fun j hj => ?_) (fun j hj => ?_)
    · rw [List.length_map, hll] at hj
      exact (hf j hj).1
    · have hj' := hj
      rw [List.length_map, hll] at hj
      have : (((List.range len).map fun i => (f i).1).map eSl)[j] = eSl (f j).1 := by simp
      rw [this]
      exact (hf j hj).2

theorem read_lists {hd : Bool} {r : Reach} {b0 : Nat} {v : Value} {d : DataW H} {ps : List MemPlace} (hok : Value.okWide PP W r b0 51 v) (h : DataW.Trod enc PP W 0 (fun _ => true) hd 51 v d ps) :
    ∃ o, VRel (fun _ _ => none) (memOf W) (.p (eLs o)) v := by
  obtain ⟨a0, len, cap, rfl⟩ := okWide_slice u51 hok
  have hk : Cell.okWide PP W r b0 51 (.slice a0 len cap) := by simpa only [Value.okWide, u51] using hok
  obtain ⟨fuel, h⟩ := h
  obtain ⟨o, ho⟩ := read_ls hk (by simpa [Value.cells] using h)
  exact ⟨o, .p ho⟩

end Go.D
end
/- RefineRelations: for every pair and every list of lists the law answers true and leaves its arguments as they were: the given statement, without conditions. -/
section
set_option linter.unusedVariables false
set_option linter.unusedSimpArgs false
set_option maxRecDepth 100000
namespace Go.D
open Go.ChangeShapes Go.WideShapes Go.ChangeAt Go.RowKit

theorem refineRelations_calls (hawake : Awake) {H : Type} {enc : TypeId × Value → H} {W : World} {base : Nat} {args : Array Value} {ds : List (DataW H)} {ps : List MemPlace}
    (hval : ∀ (j : Nat) t v, ([27, 51] : List TypeId).toArray[j]? = some t → args[j]? = some v → Value.okWide PP W .any base t v)
    (hA : DataW.TrodAll enc PP W 0 (fun _ => true) true [27, 51] args.toList ds ps) :
    Calls PP 8 args W fun e W' => e = .returned (.bool true) ∧ Below W.heap.size W W' := by
  obtain ⟨v0, v1, d0, d1, p0, p1, rfl, rfl, rfl, h0, h1⟩ := trodAll_two hA
  obtain ⟨p, hp⟩ := read_pair (hval 0 27 v0 rfl rfl) h0
  obtain ⟨o, ho⟩ := read_lists (hval 1 51 v1 rfl rfl) h1
  obtain ⟨σ', hc⟩ := call8 hawake p o
  refine calls_of hc ⟨rfl, fun j h1 h2 => ?_⟩
  match j, h1 with
  | 0, _ => exact hp
  | 1, _ => exact ho

end Go.D
namespace Go.Proofs.Ythmgennimcjlpaa
open Go.D Go.ChangeShapes Go.WideShapes Go.ChangeAt Go.RowKit

set_option maxRecDepth 100000 in
theorem refineRelations_lifted (hawake : Awake) (os : Os) (started : os.Started) (H : Type) (enc : TypeId × Value → H) :
    ReturnsInHanded {} Try.checked os 8 .any (Rows.refineRelationsSpec.pre6 enc Try.prog Try.f8 Rows.refineRelationsRow.domain false) (Rows.refineRelationsSpec.post enc Try.prog Try.f8 false true false false) := by
  refine returnsInHanded_of_change_sized (C := Try.checked) own_ok started (by kernel_rfl) Try.func8
    (ChangeSpec.witness6 (enc := enc) (C := Try.checked) false ⟨#[], #[.agg #[.int .i64 0, .slice none 0 0, .slice none 0 0, .int .i64 0, .slice none 0 0, .slice none 0 0, .slice none 0 0, .slice none 0 0], .slice none 0 0], []⟩ 8 (by kernel_rfl) (by kernel_rfl) (by kernel_rfl) (by kernel_rfl)) ?_
  intro W base args ds gs before hval0 hW _ hsz0 _
  have hval : ∀ (j : Nat) t v, Try.f8.params[j]? = some t → args[j]? = some v → Value.okWide Try.prog W .any base t v := hval0
  have hW' := hW
  obtain ⟨p, q, hA0, hV, rfl, _, _⟩ := hW
  have hA : DataW.TrodAll enc Try.prog W 0 (fun _ => true) true Try.f8.params.toList args.toList ds p := hA0
  rw [Try.params8] at hA hval
  have hA2 := hA
  obtain ⟨v0, v1, d0, d1, p0, p1, rfl, rfl, rfl, h0, h1⟩ := trodAll_two hA
  obtain ⟨rfl, rfl⟩ := trodVars_none hV
  have hlt : ∀ x ∈ p0 ++ p1, x.block < W.heap.size := fun x hx => by
    have := hW'.lt x (by simpa using hx)
    exact this
  refine (refineRelations_calls hawake (base := base) hval hA2).mono ?_
  rintro e W2 ⟨rfl, hnx⟩
  refine ⟨_, rfl, _, _, _, [], p0 ++ p1, [], hW', ?_, ?_, rfl, hnx.frame _, fun h => by cases h⟩
  · exact trodAll_mk1 (shut_bool ul4 true)
  · exact trodAll_mk2 (Below.trod laidOut_ok (by kernel_rfl) (of_decide_eq_true (by kernel_rfl)) h0 hnx fun x hx => hlt x (List.mem_append_left _ hx)) (Below.trod laidOut_ok (by kernel_rfl) (of_decide_eq_true (by kernel_rfl)) h1 hnx fun x hx => hlt x (List.mem_append_right _ hx))

theorem refineRelations_holds : Rows.RefineRelationsSaid :=
  OpenClaim.holds_of_wide 8 Try.f8 rfl rfl rfl rfl rfl rfl rfl ⟨rfl, rfl, rfl, rfl, rfl⟩ rfl rfl rfl rfl rfl (by kernel_rfl) Try.func8 (by kernel_rfl)
    (of_decide_eq_true (by kernel_rfl)) (by unfold Func.isWrapper; first | (rw [if_pos (by decide +kernel)]; kernel_rfl) | (rw [if_neg (by decide +kernel)]; exact ⟨rfl, rfl⟩))
    (fun os started H enc _ => refineRelations_lifted awake_true os started H enc)

end Go.Proofs.Ythmgennimcjlpaa
end
