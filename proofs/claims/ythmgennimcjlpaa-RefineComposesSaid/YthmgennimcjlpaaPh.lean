/- awake answers true. -/
import Derived.Test.YthmgennimcjlpaaPg
import Derived.Test.YthmgennimcjlpaaPd
import Derived.Test.YthmgennimcjlpaaPe
import Derived.Test.YthmgennimcjlpaaPc
import Derived.Test.YthmgennimcjlpaaRows
import Derived.ProofKit
import Derived.SizedLaws
section
set_option linter.unusedVariables false
set_option linter.unusedSimpArgs false
set_option maxRecDepth 100000
namespace Go.D

theorem neq_self (t : TypeId) (a : Int) : binOp PP .neq t (.p (.int .i64 a)) (.p (.int .i64 a)) = some (.p (.bool false)) := by rw [b_neq]; simp
theorem eql_self (t : TypeId) (a : Int) : binOp PP .eql t (.p (.int .i64 a)) (.p (.int .i64 a)) = some (.p (.bool true)) := by rw [b_eql]; simp
theorem bs22_2 (x y : Int) (σ : Store) : buildSlice PP none 22 2 [(0, .p (pI x)), (1, .p (pI y))] σ = some (.p (.sl true 2 (eInts [x, y])), σ) := Eq.trans (by kernel_rfl) rfl
theorem bs51_3 (a b c : PV) (σ : Store) : buildSlice PP none 51 3 [(0, .p a), (1, .p b), (2, .p c)] σ = some (.p (.sl true 3 [a, b, c]), σ) := Eq.trans (by kernel_rfl) rfl
theorem bld47 (a b c : PV) : build PP 47 [(0, .p a), (1, .p b), (2, .p c)] = some (.agg [.p a, .p b, .p c]) := Eq.trans (by kernel_rfl) rfl
theorem zero47 : zeroOf PP 47 = some [.p (pI 0), .p (pI 0), .p .nilsl] := Eq.trans (by kernel_rfl) rfl
theorem st47_0 (a b c : PV) (x y z : DV) : store PP 0 47 (.ptr 0 0) (.agg [.p a, .p b, .p c]) [.mix [x, y, z]] = some [.mix [.p a, .p b, .p c]] := Eq.trans (by kernel_rfl) rfl
theorem st47_1 (a b c : PV) (x y z : DV) (m : Row) : store PP 0 47 (.ptr 1 0) (.agg [.p a, .p b, .p c]) [m, .mix [x, y, z]] = some [m, .mix [.p a, .p b, .p c]] := Eq.trans (by kernel_rfl) rfl
theorem ld47_1 (a b c : DV) (m : Row) : load PP 47 (.ptr 1 0) [m, .mix [a, b, c]] = some (.agg [a, b, c]) := Eq.trans (by kernel_rfl) rfl
def rcs : List PV := eInts [0, 0, 3, 0, 0, 1, 0, -1, 1, 0, 2, 1, 1, 1, 0, -1, 2, 0, 0, -1, 2, 1, 1, 2]
theorem len61 (σ : Store) : len PP 61 (.p (.sl false 6 rcs)) σ = some (.p (.int .i64 6)) := Eq.trans (by kernel_rfl) rfl
theorem ix61_0 : indexAddr PP 61 (.p (.sl false 6 rcs)) (.p (.int .i64 0)) = some (.pptr rcs 0) := Eq.trans (by kernel_rfl) rfl
theorem ix61_2 : indexAddr PP 61 (.p (.sl false 6 rcs)) (.p (.int .i64 2)) = some (.pptr rcs 8) := Eq.trans (by kernel_rfl) rfl
theorem ix61_5 : indexAddr PP 61 (.p (.sl false 6 rcs)) (.p (.int .i64 5)) = some (.pptr rcs 20) := Eq.trans (by kernel_rfl) rfl
theorem fa77_2 (x : DV) : fieldAddr PP 77 x 2 = shiftPtr x 2 := Eq.trans (by kernel_rfl) rfl
theorem lr0 (σ : Store) : load1 (.pptr rcs (0 + 2)) σ = some (.p (.int .i64 3)) := load1_pptr rfl σ
theorem lr2 (σ : Store) : load1 (.pptr rcs (8 + 2)) σ = some (.p (.int .i64 2)) := load1_pptr rfl σ
theorem lr5 (σ : Store) : load1 (.pptr rcs (20 + 2)) σ = some (.p (.int .i64 1)) := load1_pptr rfl σ
theorem xt0 (a b : DV) : extractV (.tuple [a, b]) 0 = some a := Eq.trans rfl rfl
theorem xt1 (a b : DV) : extractV (.tuple [a, b]) 1 = some b := Eq.trans rfl rfl

theorem E38 (σ : Store) : pureV CC 38 [] σ = some (.agg (ePair exP)) := pureV_run run38 rfl rfl
theorem E39 (σ : Store) : pureV CC 39 [] σ = some (.agg (ePair exB)) := pureV_run run39 rfl rfl
theorem E23a (σ : Store) : pureV CC 23 [.agg (ePair exP), .p (.sl true 3 (eInts [0, 0, 1]))] σ = some (.tuple [.agg [.p (pI 0), .p (pI 0), .p .nilsl], .p (.int .i64 0)]) := by
  rw [pureV_view (args' := [.agg (ePair exP), slI [0, 0, 1]]) rfl rfl]
  exact pureV_run run23a rfl rfl
theorem E23b (σ : Store) : pureV CC 23 [.agg (ePair exP), .p (.sl true 3 (eInts [0, 1, 1]))] σ = some (.tuple [.agg [.p (pI 0), .p (pI 1), .p (.sl false 2 [pI 0, pI 1])], .p (.int .i64 31)]) := by
  rw [pureV_view (args' := [.agg (ePair exP), slI [0, 1, 1]]) rfl rfl]
  exact pureV_run run23b rfl rfl
theorem E24 (σ : Store) : pureV CC 24 [.agg (ePair exP)] σ = some (.tuple [.p sim0, .p (.int .i64 0)]) := pureV_run run24 rfl rfl
theorem E29 (σ : Store) : pureV CC 29 [.agg (ePair exB)] σ = some (.tuple [.p (.sl false 6 rcs), .p (.int .i64 0)]) := pureV_run run29 rfl rfl
theorem E12 (σ : Store) : pureV CC 12 [.agg (ePair exP), .p (.sl true 3 (eInts [0, 1, 2]))] σ = some (.tuple [.p (eSl (some [0, 0, 1])), .p (.int .i64 0)]) := by
  rw [pureV_view (args' := [.agg (ePair exP), slI [0, 1, 2]]) rfl rfl]
  exact pureV_run run12 rfl rfl
theorem E40 (σ : Store) : pureV CC 40 [.agg [.p (pI 0), .p (pI 1), .p (.sl false 2 [pI 0, pI 1])], .agg [.p (.int .i64 0), .p (.int .i64 1), .p (.sl true 2 (eInts [0, 1]))]] σ = some (.p (.bool true)) := by
  rw [pureV_view (args' := [flt2, flt2]) rfl rfl]
  exact pureV_run run40 rfl rfl
theorem E27 (σ : Store) : pureV CC 27 [.p sim0, .p (.sl true 3 [.sl true 2 (eInts [0, 0]), .sl true 2 (eInts [1, 0]), .sl true 2 (eInts [2, 1])])] σ = some (.p (.bool true)) := by
  rw [pureV_view (args' := [.p sim0, .p sim0]) rfl rfl]
  exact pureV_run run27 rfl rfl
theorem E18 (σ : Store) : pureV CC 18 [.p (eSl (some [0, 0, 1])), .p (.sl true 3 (eInts [0, 0, 1]))] σ = some (.p (.bool true)) := by
  rw [pureV_view (args' := [.p (eSl (some [0, 0, 1])), .p (eSl (some [0, 0, 1]))]) rfl rfl]
  exact S18 rfl (by decide)

theorem F10_true : ∃ σ', F10 guardT 0 [] = some (.p (.bool true), σ') := by
  refine ⟨[.mix [.p (pI 0), .p (pI 0), .p .nilsl], .mix [.p (pI 0), .p (pI 1), .p (.sl false 2 [pI 0, pI 1])]], ?_⟩
  rw [F10_eq]
  simp only [pureFn_fn, List.append_nil, E38, E39, obind, bs22_3, E23a, xt0, xt1, zero47, List.length_nil, List.nil_append, st47_0, List.length_cons, List.cons_append, Nat.zero_add, E23b, st47_1, E24, E29, E12, neq_self, guard_ff, pickV_false, len61, condK_false, ld47_1, bs22_2, bld47, E40, guard_tt, bs51_3, E27, pickV_true, ix61_0, ix61_2, ix61_5, fa77_2, shift_pptr, load3, lr0, lr2, lr5, eql_self, E18]

theorem awake_true (σ : Store) : pureV CC 10 [] σ = some (.p (.bool true)) := by
  obtain ⟨σ', h⟩ := F10_true
  exact pureV_free rfl rfl (F10_call h) rfl

end Go.D
end
/- What a call's arguments are, as values of D: whatever reads as a pair and a path. -/
section
set_option linter.unusedVariables false
set_option linter.unusedSimpArgs false
set_option maxRecDepth 100000
namespace Go.D
open Go.ChangeShapes Go.WideShapes Go.ChangeAt Go.RowKit

/-- All cells that can be read. -/
def memOf (W : World) : Mem := fun b o => W.cell? ⟨b, o, none⟩

variable {H : Type} {enc : TypeId × Value → H} {W : World} {base : Nat}

theorem ul3 : PP.underlying 3 = some (.int .i64) := by kernel_rfl
theorem cells3 : PP.cellsOf 3 = 1 := by kernel_rfl
theorem cells22 : PP.cellsOf 22 = 1 := by kernel_rfl
theorem cells23 : PP.cellsOf 23 = 1 := by kernel_rfl
theorem cells25 : PP.cellsOf 25 = 3 := by kernel_rfl
theorem cells27 : PP.cellsOf 27 = 8 := by kernel_rfl
theorem cells100 : PP.cellsOf 100 = 3 := by kernel_rfl

theorem read_int {sp : Nat → Bool} {hd : Bool} {fuel : Nat} {c : Value} {x : DataW H × List MemPlace} (h : DataW.trod enc PP W 0 sp hd fuel 3 [c] = some x) : ∃ n, c = .int .i64 n := by
  cases fuel with
  | zero => simp [DataW.trod] at h
  | succ n =>
    unfold DataW.trod at h
    rw [ul3] at h
    cases c <;> simp at h
    exact ⟨_, by rw [h.1.1]⟩

theorem spot_of {r : Reach} {b0 : Nat} {t e : TypeId} {a : Addr} {len cap : Nat} (ht : PP.underlying t = some (.slice e)) (h : Cell.okWide PP W r b0 t (.slice (some a) len cap)) : a.spot = none := by
  simp only [Cell.okWide, ht, Cell.ok] at h
  exact h.2.2.2.1

theorem read_sl {r : Reach} {b0 : Nat} {hd : Bool} {fuel : Nat} {c : Value} {x : DataW H × List MemPlace} (hok : Cell.okWide PP W r b0 22 c) (h : DataW.trod enc PP W 0 (fun _ => true) hd fuel 22 [c] = some x) : ∃ o, PRel (memOf W) (eSl o) c := by
  rcases open_ints u22 ul3 cells3 h with ⟨hc, _⟩ | ⟨a, len, cap, zs, hc, _, hl, hm, hz, _, hcell, _⟩
  · injection hc with hc; subst hc
    exact ⟨none, .nilsl⟩
  · injection hc with hc; subst hc
    have hs := spot_of u22 hok
    simp only [if_true] at hz
    have hlen : (zs.take len).length = len := by rw [List.length_take]; omega
    refine ⟨some (zs.take len), ?_⟩
    have e : eSl (some (zs.take len)) = .sl false len (eInts (zs.take len)) := by simp only [eSl, hlen]
    rw [e]
    refine .sl (fun j => .int .i64 (zs.getD j 0)) (fun _ => hs) hl (by simp) (fun j hj => ?_) (fun j hj => ?_)
    · rw [ints_length, hlen] at hj
      have := hcell j (by omega)
      rwa [addr_add hs] at this
    · rw [ints_length, hlen] at hj
      have : (eInts (zs.take len))[j] = pI (zs.getD j 0) := by
        simp only [eInts, List.getElem_map, List.getElem_take]
        rw [List.getD_eq_getElem?_getD, List.getElem?_eq_getElem (by omega)]
        rfl
      rw [this]
      exact .int _ _

theorem read_edg {sp : Nat → Bool} {hd : Bool} {fuel : Nat} {cs : List Value} {x : DataW H × List MemPlace} (h : DataW.trod enc PP W 0 sp hd fuel 100 cs = some x) : ∃ e : Edg, cs = [.int .i64 e.f, .int .i64 e.t, .int .i64 e.a] := by
  obtain ⟨xs, n, _, _, hl, hlen, hf⟩ := DataW.trod_struct Go.Proofs.Try.underlying100 h
  rw [cells100] at hl
  match cs, hl with
  | [a, b, c], _ =>
    match xs, hlen with
    | [y0, y1, y2], _ =>
      have h0 : DataW.trod enc PP W 0 sp hd n 3 (List.take (PP.cellsOf 3) (List.drop 0 [a, b, c])) = some y0 := hf 0 _ rfl
      have h1 : DataW.trod enc PP W 0 sp hd n 3 (List.take (PP.cellsOf 3) (List.drop 1 [a, b, c])) = some y1 := hf 1 _ rfl
      have h2 : DataW.trod enc PP W 0 sp hd n 3 (List.take (PP.cellsOf 3) (List.drop 2 [a, b, c])) = some y2 := hf 2 _ rfl
      rw [cells3] at h0 h1 h2
      obtain ⟨p, rfl⟩ := read_int h0
      obtain ⟨q, rfl⟩ := read_int h1
      obtain ⟨r, rfl⟩ := read_int h2
      exact ⟨⟨p, q, r⟩, rfl⟩

theorem read_es {r : Reach} {b0 : Nat} {hd : Bool} {fuel : Nat} {c : Value} {x : DataW H × List MemPlace} (hok : Cell.okWide PP W r b0 23 c) (h : DataW.trod enc PP W 0 (fun _ => true) hd fuel 23 [c] = some x) : ∃ o, PRel (memOf W) (eEs o) c := by
  rcases DataW.trod_slice u23 h with ⟨hc, _⟩ | ⟨a, len, cap, elems, rest, n, _, hc, _, _, hl, hm, hlen, hel, _, _⟩
  · injection hc with hc; subst hc
    exact ⟨none, .nilsl⟩
  · injection hc with hc; subst hc
    have hs := spot_of u23 hok
    rw [cells100] at hel
    have each : ∀ i, ∃ e : Edg, i < len → W.cell? ⟨a.block, a.off + i * 3, none⟩ = some (.int .i64 e.f) ∧ W.cell? ⟨a.block, a.off + i * 3 + 1, none⟩ = some (.int .i64 e.t) ∧ W.cell? ⟨a.block, a.off + i * 3 + 2, none⟩ = some (.int .i64 e.a) := by
      intro i
      by_cases hi : i < len
      · have h1 := hel i hi
        rw [List.getElem?_eq_getElem (by omega)] at h1
        obtain ⟨cs, h2, h3⟩ := Option.bind_eq_some_iff.1 h1
        obtain ⟨e, rfl⟩ := read_edg h3
        obtain ⟨_, _, h4⟩ := World.cells?_some h2
        refine ⟨e, fun _ => ⟨?_, ?_, ?_⟩⟩
        · have := h4 0 (by omega); rw [addr_add hs, addr_add rfl] at this; exact this
        · have := h4 1 (by omega); rw [addr_add hs, addr_add rfl] at this; exact this
        · have := h4 2 (by omega); rw [addr_add hs, addr_add rfl] at this; exact this
      · exact ⟨default, fun h => absurd h hi⟩
    obtain ⟨f, hf⟩ := Classical.axiomOfChoice each
    have hll : ((List.range len).map f).length = len := by simp
    refine ⟨some ((List.range len).map f), ?_⟩
    have e : eEs (some ((List.range len).map f)) = .sl false len (eEdgs ((List.range len).map f)) := by simp only [eEs, hll]
    rw [e]
    have hget : ∀ i, i < len → (eEdgs ((List.range len).map f))[i * 3]? = some (pI (f i).f) ∧ (eEdgs ((List.range len).map f))[i * 3 + 1]? = some (pI (f i).t) ∧ (eEdgs ((List.range len).map f))[i * 3 + 2]? = some (pI (f i).a) := by
      intro i hi
      have := edgs_get ((List.range len).map f) i (by rw [hll]; exact hi)
      simpa using this
    refine .sl (fun j => .int .i64 (if j % 3 = 0 then (f (j / 3)).f else if j % 3 = 1 then (f (j / 3)).t else (f (j / 3)).a)) (fun _ => hs) hl (by simp) (fun j hj => ?_) (fun j hj => ?_)
    · rw [edgs_length, hll] at hj
      obtain ⟨h0, h1, h2⟩ := hf (j / 3) (by omega)
      have hj3 : j = j / 3 * 3 + j % 3 := by omega
      show W.cell? _ = _
      by_cases c0 : j % 3 = 0
      · have : a.off + j = a.off + j / 3 * 3 := by omega
        rw [this]; simpa [c0] using h0
      · by_cases c1 : j % 3 = 1
        · have : a.off + j = a.off + j / 3 * 3 + 1 := by omega
          rw [this]; simpa [c1] using h1
        · have : a.off + j = a.off + j / 3 * 3 + 2 := by omega
          rw [this]; simpa [c0, c1] using h2
    · have hj' := hj
      rw [edgs_length, hll] at hj
      obtain ⟨h0, h1, h2⟩ := hget (j / 3) (by omega)
      have hx := List.getElem?_eq_getElem hj'
      by_cases c0 : j % 3 = 0
      · have : j / 3 * 3 = j := by omega
        rw [this, hx] at h0
        injection h0 with h0
        rw [h0]; simp only [c0, if_true]; exact .int _ _
      · by_cases c1 : j % 3 = 1
        · have : j / 3 * 3 + 1 = j := by omega
          rw [this, hx] at h1
          injection h1 with h1
          rw [h1]; simp only [c1, if_true, if_neg (show ¬ (1 = 0) by decide)]; exact .int _ _
        · have : j / 3 * 3 + 2 = j := by omega
          rw [this, hx] at h2
          injection h2 with h2
          rw [h2]; simp only [c0, c1, if_false]; exact .int _ _

theorem read_gr {hd : Bool} {fuel : Nat} {c0 c1 c2 : Value} {x : DataW H × List MemPlace} {r : Reach} {b0 : Nat} (h1 : Cell.okWide PP W r b0 22 c1) (h2 : Cell.okWide PP W r b0 23 c2)
    (h : DataW.trod enc PP W 0 (fun _ => true) hd fuel 25 [c0, c1, c2] = some x) : ∃ g : Gr, PRel (memOf W) (pI g.n) c0 ∧ PRel (memOf W) (eSl g.init) c1 ∧ PRel (memOf W) (eEs g.edges) c2 := by
  obtain ⟨xs, n, _, _, hl, hlen, hf⟩ := DataW.trod_struct Go.Proofs.Try.underlying25 h
  match xs, hlen with
  | [y0, y1, y2], _ =>
    have e0 : DataW.trod enc PP W 0 (fun _ => true) hd n 3 (List.take (PP.cellsOf 3) (List.drop 0 [c0, c1, c2])) = some y0 := hf 0 _ rfl
    have e1 : DataW.trod enc PP W 0 (fun _ => true) hd n 22 (List.take (PP.cellsOf 22) (List.drop 1 [c0, c1, c2])) = some y1 := hf 1 _ rfl
    have e2 : DataW.trod enc PP W 0 (fun _ => true) hd n 23 (List.take (PP.cellsOf 23) (List.drop 2 [c0, c1, c2])) = some y2 := hf 2 _ rfl
    rw [cells3] at e0
    rw [cells22] at e1
    rw [cells23] at e2
    obtain ⟨m, rfl⟩ := read_int e0
    obtain ⟨o1, r1⟩ := read_sl h1 e1
    obtain ⟨o2, r2⟩ := read_es h2 e2
    exact ⟨⟨m, o1, o2⟩, .int _ _, r1, r2⟩

theorem types27 : PP.cellTypes PP.depth 27 = some [3, 22, 23, 3, 22, 23, 22, 22] := by kernel_rfl

theorem read_pair {hd : Bool} {r : Reach} {b0 : Nat} {v : Value} {d : DataW H} {ps : List MemPlace} (hok : Value.okWide PP W r b0 27 v) (h : DataW.Trod enc PP W 0 (fun _ => true) hd 27 v d ps) :
    ∃ p : Pair, VRel (fun _ _ => none) (memOf W) (.agg (ePair p)) v := by
  simp only [Value.okWide, Go.Proofs.Try.underlying27] at hok
  obtain ⟨cs, rfl, hsz, ts, hts, _, hcell⟩ := hok
  rw [types27] at hts
  injection hts with hts; subst hts
  rw [cells27] at hsz
  obtain ⟨fuel, h⟩ := h
  obtain ⟨l⟩ := cs
  simp only [List.size_toArray] at hsz
  match l, hsz with
  | [c0, c1, c2, c3, c4, c5, c6, c7], _ =>
    have k1 : Cell.okWide PP W r b0 22 c1 := by obtain ⟨u, hu, hk⟩ := hcell 1 c1 rfl; cases hu; exact hk
    have k2 : Cell.okWide PP W r b0 23 c2 := by obtain ⟨u, hu, hk⟩ := hcell 2 c2 rfl; cases hu; exact hk
    have k4 : Cell.okWide PP W r b0 22 c4 := by obtain ⟨u, hu, hk⟩ := hcell 4 c4 rfl; cases hu; exact hk
    have k5 : Cell.okWide PP W r b0 23 c5 := by obtain ⟨u, hu, hk⟩ := hcell 5 c5 rfl; cases hu; exact hk
    have k6 : Cell.okWide PP W r b0 22 c6 := by obtain ⟨u, hu, hk⟩ := hcell 6 c6 rfl; cases hu; exact hk
    have k7 : Cell.okWide PP W r b0 22 c7 := by obtain ⟨u, hu, hk⟩ := hcell 7 c7 rfl; cases hu; exact hk
    obtain ⟨xs, n, _, _, hl, hlen, hf⟩ := DataW.trod_struct Go.Proofs.Try.underlying27 h
    match xs, hlen with
    | [y0, y1, y2, y3], _ =>
      have e0 : DataW.trod enc PP W 0 (fun _ => true) hd n 25 (List.take (PP.cellsOf 25) (List.drop 0 [c0, c1, c2, c3, c4, c5, c6, c7])) = some y0 := hf 0 _ rfl
      have e1 : DataW.trod enc PP W 0 (fun _ => true) hd n 25 (List.take (PP.cellsOf 25) (List.drop 3 [c0, c1, c2, c3, c4, c5, c6, c7])) = some y1 := hf 1 _ rfl
      have e2 : DataW.trod enc PP W 0 (fun _ => true) hd n 22 (List.take (PP.cellsOf 22) (List.drop 6 [c0, c1, c2, c3, c4, c5, c6, c7])) = some y2 := hf 2 _ rfl
      have e3 : DataW.trod enc PP W 0 (fun _ => true) hd n 22 (List.take (PP.cellsOf 22) (List.drop 7 [c0, c1, c2, c3, c4, c5, c6, c7])) = some y3 := hf 3 _ rfl
      rw [cells25] at e0 e1
      rw [cells22] at e2 e3
      obtain ⟨g0, a0, a1, a2⟩ := read_gr k1 k2 e0
      obtain ⟨g1, b0, b1, b2⟩ := read_gr k4 k5 e1
      obtain ⟨o6, r6⟩ := read_sl k6 e2
      obtain ⟨o7, r7⟩ := read_sl k7 e3
      refine ⟨⟨g0, g1, o6, o7⟩, .agg rfl fun j h1 h2 => ?_⟩
      match j, h1 with
      | 0, _ => exact .p a0
      | 1, _ => exact .p a1
      | 2, _ => exact .p a2
      | 3, _ => exact .p b0
      | 4, _ => exact .p b1
      | 5, _ => exact .p b2
      | 6, _ => exact .p r6
      | 7, _ => exact .p r7

theorem read_path {hd : Bool} {r : Reach} {b0 : Nat} {v : Value} {d : DataW H} {ps : List MemPlace} (hok : Value.okWide PP W r b0 22 v) (h : DataW.Trod enc PP W 0 (fun _ => true) hd 22 v d ps) :
    ∃ o, VRel (fun _ _ => none) (memOf W) (.p (eSl o)) v := by
  obtain ⟨a0, len, cap, rfl⟩ := okWide_slice u22 hok
  have hk : Cell.okWide PP W r b0 22 (.slice a0 len cap) := by simpa only [Value.okWide, u22] using hok
  obtain ⟨fuel, h⟩ := h
  obtain ⟨o, ho⟩ := read_sl hk (by simpa [Value.cells] using h)
  exact ⟨o, .p ho⟩

/-! ### What a call leaves of what was there -/
theorem below_of {C : Nat → Nat → Prop} {m : Nat → Prop} {w w' : World} (h : Frm C m w w') (hC : ∀ b o, ¬ C b o) (hm : ∀ b, ¬ m b) : Below w.heap.size w w' := by
  refine ⟨h.os, h.tape, h.output, h.size, fun k hk => ?_⟩
  have := h.obj k hk
  rw [Array.getElem?_eq_getElem hk] at this ⊢
  cases ho : w.heap[k] with
  | cells c e f =>
    rw [ho] at this
    cases hx : w'.heap[k]? with
    | none => rw [hx] at this; simp [ObjKept] at this
    | some o =>
      rw [hx] at this
      cases o with
      | cells c' e' f' =>
        obtain ⟨h1, h2, h3, h4⟩ := this
        subst h1; subst h2
        have : c' = c := Array.ext_getElem? fun i => by rw [h4 i (hC k i)]
        rw [this]
      | _ => simp [ObjKept] at this
  | map es c =>
    rw [ho] at this
    cases hx : w'.heap[k]? with
    | none => rw [hx] at this; simp [ObjKept] at this
    | some o =>
      rw [hx] at this
      cases o with
      | map es' c' =>
        rcases this with h1 | ⟨h1, h2⟩
        · exact absurd h1 (hm k)
        · rw [h1, h2]
      | _ => simp [ObjKept] at this
  | _ =>
    rw [ho] at this
    cases hx : w'.heap[k]? with
    | none => rw [hx] at this; simp [ObjKept] at this
    | some o => rw [hx] at this; cases o <;> simp [ObjKept] at this <;> simp_all

end Go.D
end
/- RefinePaths: the row, if awake answers true. -/
section
set_option linter.unusedVariables false
set_option linter.unusedSimpArgs false
set_option maxRecDepth 100000
namespace Go.D
open Go.ChangeShapes Go.WideShapes Go.ChangeAt Go.RowKit

theorem mixed_ok : PP.follows .mixedOrders = true := by kernel_rfl
theorem body80 : Go.Proofs.Try.f80.body = some (backCode 22 3 89 3 4 0 "iter.go:28" "iter.go:29") := by kernel_rfl
theorem back80 : SeqOk PP 80 (.backward false 1) :=
  back_ok Go.Proofs.Try.func80 (by decide +kernel) body80 (by kernel_rfl) (by kernel_rfl) ⟨by kernel_rfl, by kernel_rfl, ⟨1, by kernel_rfl⟩, by kernel_rfl, by kernel_rfl⟩

theorem seqs_ok : ∀ g f kind, (pol g).seq f = some kind → SeqOk PP f kind := by
  intro g f kind h
  by_cases hg : g = 12
  · subst hg
    have h1 : (pol 12).seq f = if f = 80 then some (.backward false 1) else none := rfl
    rw [h1] at h
    split at h
    · rename_i hf
      subst hf
      injection h with h; subst h
      exact back80
    · exact absurd h (by simp)
  · have h1 : (pol g).seq = fun _ => none := by
      unfold pol
      split <;> first | rfl | exact absurd rfl hg
    rw [h1] at h
    exact absurd h (by simp)

/-- What D answers at the empty store, the program answers in any world. -/
theorem calls_of {f : FuncId} {args : List DV} {σ' : Store} {b : Bool} (h : CC 0 f args [] = some (.p (.bool b), σ')) {W : World} {vs : Array Value} (hv : Vals (fun _ _ => none) (memOf W) args vs) :
    Calls PP f vs W fun e W' => e = .returned (.bool b) ∧ Below W.heap.size W W' := by
  obtain ⟨k, hk⟩ := lim_some h
  have hs : SRel [] (fun _ _ => none) (memOf W) W := srel_bare fun b o v h => h
  obtain ⟨_, hc⟩ := callK_ok mixed_ok seqs_ok k _ _ _ _ _ _ (hk k (Nat.le_refl _)) (Nat.zero_le _) _ _ _ _ hs hv
  have hw := callsIn_wide.1 (hc Fence.wide 0 Free.wide)
  refine hw.mono ?_
  rintro e W' ⟨v', rfl, L', M', hp, hr⟩
  refine ⟨by rw [bool_of hr], below_of hp.frm ?_ ?_⟩
  · rintro b o ⟨r, row, l, _, ⟨h, _⟩, _⟩
    exact absurd h (by simp)
  · rintro b ⟨r, es, l, _, ⟨h, _⟩, _⟩
    exact absurd h (by simp)

theorem own_ok : ownKnob PP.godebug = none := by kernel_rfl
theorem laidOut_ok : laidOutB PP = true := by kernel_rfl
theorem ul4 : PP.underlying 4 = some .bool := by kernel_rfl

/-- The awake call. -/
def Awake : Prop := ∀ σ, pureV CC 10 [] σ = some (.p (.bool true))

theorem refinePaths_calls (hawake : Awake) {H : Type} {enc : TypeId × Value → H} {W : World} {base : Nat} {args : Array Value} {ds : List (DataW H)} {ps : List MemPlace}
    (hval : ∀ (j : Nat) t v, ([27, 22] : List TypeId).toArray[j]? = some t → args[j]? = some v → Value.okWide PP W .any base t v)
    (hA : DataW.TrodAll enc PP W 0 (fun _ => true) true [27, 22] args.toList ds ps) :
    Calls PP 3 args W fun e W' => e = .returned (.bool true) ∧ Below W.heap.size W W' := by
  obtain ⟨v0, v1, d0, d1, p0, p1, rfl, rfl, rfl, h0, h1⟩ := trodAll_two hA
  obtain ⟨p, hp⟩ := read_pair (hval 0 27 v0 rfl rfl) h0
  obtain ⟨o, ho⟩ := read_path (hval 1 22 v1 rfl rfl) h1
  obtain ⟨σ', hc⟩ := call3 hawake p o
  refine calls_of hc ⟨rfl, fun j h1 h2 => ?_⟩
  match j, h1 with
  | 0, _ => exact hp
  | 1, _ => exact ho

end Go.D
end
/- Equations of functions 66, 74, 73, 60, 72, 62, 36, 34, 35, 37, 8, printed by gen.py. -/
section
set_option linter.unusedVariables false
set_option maxRecDepth 10000
namespace Go.D
open _root_.Go.D.Code (fstC sndC)
open _root_.Go.D.Ann (left right)
noncomputable def c66_0 : Code := bodyOf Go.Proofs.Try.f66
noncomputable def a66_0 : Ann := (pol 66).ann
noncomputable def a66_5 : Ann := right (left (right a66_0))
noncomputable def a66_6 : Ann := left a66_5
noncomputable def c66_7 : Code := fstC (fstC (sndC (fstC (sndC c66_0))))
noncomputable def c66_25 : Code := sndC (sndC c66_0)
noncomputable def a66_25 : Ann := right (right a66_0)
noncomputable def f66_L0 (G : GuardT) (lo : Nat) (x0 x1 x2 x3 x15 x16 : DV) (σ : Store) : Option (DV × Store) :=
 codeF G PP (pol 66) CC lo (.loop c66_7) a66_6 [x0, x1, x2, x3, ud, ud, ud, ud, ud, ud, ud, ud, ud, ud, ud, x15, x16, ud, ud, ud, ud, ud, ud, ud, ud, ud, ud, ud, ud, ud] σ
 (blockC 0 a66_5 (seqC G PP (pol 66) CC lo c66_25 a66_25 (finR PP Go.Proofs.Try.f66.results.toList)))
noncomputable def F66 (G : GuardT) (lo : Nat) (x0 x1 x2 x3 : DV) (σ : Store) : Option (DV × Store) :=
 codeF G PP (pol 66) CC lo c66_0 a66_0 [x0, x1, x2, x3, ud, ud, ud, ud, ud, ud, ud, ud, ud, ud, ud, ud, ud, ud, ud, ud, ud, ud, ud, ud, ud, ud, ud, ud, ud, ud] σ (finR PP Go.Proofs.Try.f66.results.toList)
theorem f66_L0_eq (G : GuardT) (hG : GuardOk G) (lo : Nat) (x0 x1 x2 x3 x15 x16 : DV) (σ : Store) : f66_L0 G lo x0 x1 x2 x3 x15 x16 σ =
 (binOp PP .lss 3 x16 x15).bind fun x17 =>
 condK x17
 (
 (pureFn CC (DV.fn 45 []) [x0, x2, x16] σ).bind fun x22 =>
 G _ x22 true (some (x3, σ)) σ fun x24 σ1 =>
 G _ x22 true (some (x1, σ1)) σ1 fun x25 σ2 =>
 G _ x22 true (some (x16, σ2)) σ2 fun x26 σ3 =>
 G _ x22 true ((pureFn CC x24 [x25, x26] σ3).bind fun v => some (v, σ3)) σ3 fun x27 σ4 =>
 (pickV x22 x27 (DV.p (PV.bool false))).bind fun x28 =>
 condK x28
 (
 some ((DV.p (PV.bool true)), σ4)
 )
 (
 (binOp PP .add 3 x16 (DV.p (PV.int IntKind.i64 (1)))).bind fun x29 =>
 f66_L0 G lo x0 x1 x2 x3 x15 x29 σ4
 )
 )
 (
 some ((DV.p (PV.bool false)), σ)
 ) := (loopF_eq G hG).trans (by kernel_rfl)
theorem F66_eq (G : GuardT) (lo : Nat) (x0 x1 x2 x3 : DV) (σ : Store) : F66 G lo x0 x1 x2 x3 σ =
 (nilCheckV x0).bind fun x11 =>
 (fieldAddr PP 118 x11 0).bind fun x12 =>
 (fieldAddr PP 27 x12 1).bind fun x13 =>
 (fieldAddr PP 25 x13 0).bind fun x14 =>
 (load PP 3 x14 σ).bind fun x15 =>
 f66_L0 G lo x0 x1 x2 x3 x15 (DV.p (PV.int IntKind.i64 (0))) σ := by kernel_rfl
theorem F66_call {lo : Nat} {x0 x1 x2 x3 : DV} {σ : Store} {r : DV × Store} (h : F66 guardT lo x0 x1 x2 x3 σ = some r) : CC lo 66 [x0, x1, x2, x3] σ = some r :=
 callL_run Go.Proofs.Try.func66 (by decide +kernel) rfl (by decide +kernel) h
noncomputable def c74_0 : Code := bodyOf Go.Proofs.Try.f74
noncomputable def a74_0 : Ann := (pol 74).ann
noncomputable def F74 (G : GuardT) (lo : Nat) (x0 x1 x2 : DV) (σ : Store) : Option (DV × Store) :=
 codeF G PP (pol 74) CC lo c74_0 a74_0 [x0, x1, x2, ud, ud, ud, ud, ud, ud, ud, ud] σ (finR PP Go.Proofs.Try.f74.results.toList)
theorem F74_eq (G : GuardT) (lo : Nat) (x0 x1 x2 : DV) (σ : Store) : F74 G lo x0 x1 x2 σ =
 (load PP 115 x2 σ).bind fun x6 =>
 (build PP 111 [(0, x0), (1, x1)]).bind fun x9 =>
 (lookup PP 115 x6 x9 false σ).bind fun x10 =>
 some (x10, σ) := by kernel_rfl
theorem F74_call {lo : Nat} {x0 x1 x2 : DV} {σ : Store} {r : DV × Store} (h : F74 guardT lo x0 x1 x2 σ = some r) : CC lo 74 [x0, x1, x2] σ = some r :=
 callL_run Go.Proofs.Try.func74 (by decide +kernel) rfl (by decide +kernel) h
noncomputable def c73_0 : Code := bodyOf Go.Proofs.Try.f73
noncomputable def a73_0 : Ann := (pol 73).ann
noncomputable def a73_5 : Ann := right (left (right a73_0))
noncomputable def a73_6 : Ann := left a73_5
noncomputable def c73_7 : Code := fstC (fstC (sndC (fstC (sndC c73_0))))
noncomputable def c73_37 : Code := sndC (sndC c73_0)
noncomputable def a73_37 : Ann := right (right a73_0)
noncomputable def f73_L0 (G : GuardT) (lo : Nat) (x0 x1 x9 x10 x11 : DV) (σ : Store) : Option (DV × Store) :=
 codeF G PP (pol 73) CC lo (.loop c73_7) a73_6 [x0, x1, ud, ud, ud, ud, ud, ud, ud, x9, x10, x11, ud, ud, ud, ud, ud, ud, ud, ud, ud, ud, ud, ud, ud, ud, ud, ud, ud, ud, ud, ud, ud, ud, ud, ud] σ
 (blockC 0 a73_5 (seqC G PP (pol 73) CC lo c73_37 a73_37 (finR PP Go.Proofs.Try.f73.results.toList)))
noncomputable def F73 (G : GuardT) (lo : Nat) (x0 x1 : DV) (σ : Store) : Option (DV × Store) :=
 codeF G PP (pol 73) CC lo c73_0 a73_0 [x0, x1, ud, ud, ud, ud, ud, ud, ud, ud, ud, ud, ud, ud, ud, ud, ud, ud, ud, ud, ud, ud, ud, ud, ud, ud, ud, ud, ud, ud, ud, ud, ud, ud, ud, ud] σ (finR PP Go.Proofs.Try.f73.results.toList)
theorem f73_L0_eq (G : GuardT) (hG : GuardOk G) (lo : Nat) (x0 x1 x9 x10 x11 : DV) (σ : Store) : f73_L0 G lo x0 x1 x9 x10 x11 σ =
 (binOp PP .lss 3 x11 x10).bind fun x12 =>
 condK x12
 (
 (indexAddr PP 22 x9 x11).bind fun x14 =>
 (load PP 3 x14 σ).bind fun x15 =>
 (len PP 22 x1 σ).bind fun x18 =>
 (binOp PP .geq 3 x11 x18).bind fun x19 =>
 condK x19
 (
 some ((DV.p (PV.int IntKind.i64 (1))), σ)
 )
 (
 (indexAddr PP 22 x1 x11).bind fun x22 =>
 (load PP 3 x22 σ).bind fun x23 =>
 (pureFn CC (DV.fn 68 []) [x15, x23] σ).bind fun x26 =>
 (binOp PP .neq 3 x26 (DV.p (PV.int IntKind.i64 (0)))).bind fun x28 =>
 condK x28
 (
 some (x26, σ)
 )
 (
 (binOp PP .add 3 x11 (DV.p (PV.int IntKind.i64 (1)))).bind fun x30 =>
 f73_L0 G lo x0 x1 x9 x10 x30 σ
 )
 )
 )
 (
 (len PP 22 x0 σ).bind fun x32 =>
 (len PP 22 x1 σ).bind fun x34 =>
 (binOp PP .lss 3 x32 x34).bind fun x35 =>
 condK x35
 (
 some ((DV.p (PV.int IntKind.i64 (-1))), σ)
 )
 (
 some ((DV.p (PV.int IntKind.i64 (0))), σ)
 )
 ) := (loopF_eq G hG).trans (by kernel_rfl)
theorem F73_eq (G : GuardT) (lo : Nat) (x0 x1 : DV) (σ : Store) : F73 G lo x0 x1 σ =
 (len PP 22 x0 σ).bind fun x10 =>
 f73_L0 G lo x0 x1 x0 x10 (DV.p (PV.int IntKind.i64 (0))) σ := by kernel_rfl
theorem F73_call {lo : Nat} {x0 x1 : DV} {σ : Store} {r : DV × Store} (h : F73 guardT lo x0 x1 σ = some r) : CC lo 73 [x0, x1] σ = some r :=
 callL_run Go.Proofs.Try.func73 (by decide +kernel) rfl (by decide +kernel) h
noncomputable def c60_0 : Code := bodyOf Go.Proofs.Try.f60
noncomputable def a60_0 : Ann := (pol 60).ann
noncomputable def a60_5 : Ann := right (left (right a60_0))
noncomputable def a60_6 : Ann := left a60_5
noncomputable def c60_7 : Code := fstC (fstC (sndC (fstC (sndC c60_0))))
noncomputable def c60_23 : Code := sndC (sndC c60_0)
noncomputable def a60_23 : Ann := right (right a60_0)
noncomputable def f60_L0 (G : GuardT) (lo : Nat) (x0 x1 x2 x7 : DV) (σ : Store) : Option (DV × Store) :=
 codeF G PP (pol 60) CC lo (.loop c60_7) a60_6 [x0, x1, x2, ud, ud, ud, ud, x7, ud, ud, ud, ud, ud, ud, ud, ud, ud, ud, ud, ud, ud, ud, ud, ud, ud, ud, ud, ud, ud, ud, ud, ud] σ
 (blockC 0 a60_5 (seqC G PP (pol 60) CC lo c60_23 a60_23 (finR PP Go.Proofs.Try.f60.results.toList)))
noncomputable def F60 (G : GuardT) (lo : Nat) (x0 x1 x2 : DV) (σ : Store) : Option (DV × Store) :=
 codeF G PP (pol 60) CC lo c60_0 a60_0 [x0, x1, x2, ud, ud, ud, ud, ud, ud, ud, ud, ud, ud, ud, ud, ud, ud, ud, ud, ud, ud, ud, ud, ud, ud, ud, ud, ud, ud, ud, ud, ud] σ (finR PP Go.Proofs.Try.f60.results.toList)
theorem f60_L0_eq (G : GuardT) (hG : GuardOk G) (lo : Nat) (x0 x1 x2 x7 : DV) (σ : Store) : f60_L0 G lo x0 x1 x2 x7 σ =
 (len PP 51 x0 σ).bind fun x10 =>
 (binOp PP .lss 3 x7 x10).bind fun x11 =>
 condK x11
 (
 (indexAddr PP 51 x0 x7).bind fun x16 =>
 (load PP 22 x16 σ).bind fun x17 =>
 (indexAddr PP 22 x17 (DV.p (PV.int IntKind.i64 (0)))).bind fun x18 =>
 (load PP 3 x18 σ).bind fun x19 =>
 (binOp PP .eql 3 x19 x1).bind fun x21 =>
 G _ x21 true (some (x0, σ)) σ fun x23 σ1 =>
 G _ x21 true (some (x7, σ1)) σ1 fun x24 σ2 =>
 G _ x21 true ((indexAddr PP 51 x23 x24).bind fun v => some (v, σ2)) σ2 fun x25 σ3 =>
 G _ x21 true ((load PP 22 x25 σ3).bind fun v => some (v, σ3)) σ3 fun x26 σ4 =>
 G _ x21 true ((indexAddr PP 22 x26 (DV.p (PV.int IntKind.i64 (1)))).bind fun v => some (v, σ4)) σ4 fun x27 σ5 =>
 G _ x21 true ((load PP 3 x27 σ5).bind fun v => some (v, σ5)) σ5 fun x28 σ6 =>
 G _ x21 true (some (x2, σ6)) σ6 fun x29 σ7 =>
 G _ x21 true ((binOp PP .eql 3 x28 x29).bind fun v => some (v, σ7)) σ7 fun x30 σ8 =>
 (pickV x21 x30 (DV.p (PV.bool false))).bind fun x31 =>
 condK x31
 (
 some ((DV.p (PV.bool true)), σ8)
 )
 (
 (binOp PP .add 3 x7 (DV.p (PV.int IntKind.i64 (1)))).bind fun x13 =>
 f60_L0 G lo x0 x1 x2 x13 σ8
 )
 )
 (
 some ((DV.p (PV.bool false)), σ)
 ) := (loopF_eq G hG).trans (by kernel_rfl)
theorem F60_eq (G : GuardT) (lo : Nat) (x0 x1 x2 : DV) (σ : Store) : F60 G lo x0 x1 x2 σ =
 f60_L0 G lo x0 x1 x2 (DV.p (PV.int IntKind.i64 (0))) σ := by kernel_rfl
theorem F60_call {lo : Nat} {x0 x1 x2 : DV} {σ : Store} {r : DV × Store} (h : F60 guardT lo x0 x1 x2 σ = some r) : CC lo 60 [x0, x1, x2] σ = some r :=
 callL_run Go.Proofs.Try.func60 (by decide +kernel) rfl (by decide +kernel) h
noncomputable def c72_0 : Code := bodyOf Go.Proofs.Try.f72
noncomputable def a72_0 : Ann := (pol 72).ann
noncomputable def a72_5 : Ann := right (left (right a72_0))
noncomputable def a72_6 : Ann := left a72_5
noncomputable def c72_7 : Code := fstC (fstC (sndC (fstC (sndC c72_0))))
noncomputable def c72_23 : Code := sndC (sndC c72_0)
noncomputable def a72_23 : Ann := right (right a72_0)
noncomputable def f72_L0 (G : GuardT) (lo : Nat) (x1 x2 x3 x4 x9 : DV) (σ : Store) : Option (DV × Store) :=
 codeF G PP (pol 72) CC lo (.loop c72_7) a72_6 [ud, x1, x2, x3, x4, ud, ud, ud, ud, x9, ud, ud, ud, ud, ud, ud, ud, ud, ud, ud, ud, ud, ud, ud, ud, ud, ud, ud] σ
 (blockC 0 a72_5 (seqC G PP (pol 72) CC lo c72_23 a72_23 (finR PP Go.Proofs.Try.f72.results.toList)))
noncomputable def F72 (G : GuardT) (lo : Nat) (x0 x1 x2 x3 : DV) (σ : Store) : Option (DV × Store) :=
 codeF G PP (pol 72) CC lo c72_0 a72_0 [x0, x1, x2, x3, ud, ud, ud, ud, ud, ud, ud, ud, ud, ud, ud, ud, ud, ud, ud, ud, ud, ud, ud, ud, ud, ud, ud, ud] σ (finR PP Go.Proofs.Try.f72.results.toList)
theorem f72_L0_eq (G : GuardT) (hG : GuardOk G) (lo : Nat) (x1 x2 x3 x4 x9 : DV) (σ : Store) : f72_L0 G lo x1 x2 x3 x4 x9 σ =
 (fieldAddr PP 27 x4 1).bind fun x11 =>
 (fieldAddr PP 25 x11 0).bind fun x12 =>
 (load PP 3 x12 σ).bind fun x13 =>
 (binOp PP .lss 3 x9 x13).bind fun x14 =>
 condK x14
 (
 (fieldAddr PP 27 x4 1).bind fun x17 =>
 (load PP 25 x17 σ).bind fun x18 =>
 (pureFn CC (DV.fn 50 []) [x18, x3, x9] σ).bind fun x21 =>
 G _ x21 true (some (x1, σ)) σ fun x23 σ1 =>
 G _ x21 true (some (x2, σ1)) σ1 fun x24 σ2 =>
 G _ x21 true (some (x9, σ2)) σ2 fun x25 σ3 =>
 G _ x21 true ((pureFn CC (DV.fn 60 []) [x23, x24, x25] σ3).bind fun v => some (v, σ3)) σ3 fun x26 σ4 =>
 (pickV x21 x26 (DV.p (PV.bool false))).bind fun x27 =>
 condK x27
 (
 some ((DV.p (PV.bool true)), σ4)
 )
 (
 (binOp PP .add 3 x9 (DV.p (PV.int IntKind.i64 (1)))).bind fun x16 =>
 f72_L0 G lo x1 x2 x3 x4 x16 σ4
 )
 )
 (
 some ((DV.p (PV.bool false)), σ)
 ) := (loopF_eq G hG).trans (by kernel_rfl)
theorem F72_eq (G : GuardT) (lo : Nat) (x0 x1 x2 x3 : DV) (σ : Store) : F72 G lo x0 x1 x2 x3 σ =
 (boxV x0).bind fun z4 =>
 f72_L0 G lo x1 x2 x3 (DV.ptr (List.length σ) 0) (DV.p (PV.int IntKind.i64 (0))) (σ ++ [Row.mix z4]) := by kernel_rfl
theorem F72_call {lo : Nat} {x0 x1 x2 x3 : DV} {σ : Store} {r : DV × Store} (h : F72 guardT lo x0 x1 x2 x3 σ = some r) : CC lo 72 [x0, x1, x2, x3] σ = some r :=
 callL_run Go.Proofs.Try.func72 (by decide +kernel) rfl (by decide +kernel) h
noncomputable def c62_0 : Code := bodyOf Go.Proofs.Try.f62
noncomputable def a62_0 : Ann := (pol 62).ann
noncomputable def a62_13 : Ann := right (left (right (right a62_0)))
noncomputable def a62_14 : Ann := left a62_13
noncomputable def c62_15 : Code := fstC (fstC (sndC (fstC (sndC (sndC c62_0)))))
noncomputable def c62_33 : Code := sndC (sndC (sndC c62_0))
noncomputable def a62_33 : Ann := right (right (right a62_0))
noncomputable def f62_L0 (G : GuardT) (lo : Nat) (x1 x2 x3 x4 x9 : DV) (σ : Store) : Option (DV × Store) :=
 codeF G PP (pol 62) CC lo (.loop c62_15) a62_14 [ud, x1, x2, x3, x4, ud, ud, ud, ud, x9, ud, ud, ud, ud, ud, ud, ud, ud, ud, ud, ud, ud, ud, ud, ud, ud, ud, ud, ud, ud, ud, ud, ud, ud, ud, ud, ud, ud, ud, ud, ud, ud, ud, ud, ud, ud, ud, ud, ud] σ
 (blockC 0 a62_13 (seqC G PP (pol 62) CC lo c62_33 a62_33 (finR PP Go.Proofs.Try.f62.results.toList)))
noncomputable def F62 (G : GuardT) (lo : Nat) (x0 x1 x2 x3 : DV) (σ : Store) : Option (DV × Store) :=
 codeF G PP (pol 62) CC lo c62_0 a62_0 [x0, x1, x2, x3, ud, ud, ud, ud, ud, ud, ud, ud, ud, ud, ud, ud, ud, ud, ud, ud, ud, ud, ud, ud, ud, ud, ud, ud, ud, ud, ud, ud, ud, ud, ud, ud, ud, ud, ud, ud, ud, ud, ud, ud, ud, ud, ud, ud, ud] σ (finR PP Go.Proofs.Try.f62.results.toList)
theorem f62_L0_eq (G : GuardT) (hG : GuardOk G) (lo : Nat) (x1 x2 x3 x4 x9 : DV) (σ : Store) : f62_L0 G lo x1 x2 x3 x4 x9 σ =
 (fieldAddr PP 27 x4 0).bind fun x23 =>
 (fieldAddr PP 25 x23 2).bind fun x24 =>
 (load PP 23 x24 σ).bind fun x25 =>
 (len PP 23 x25 σ).bind fun x26 =>
 (binOp PP .lss 3 x9 x26).bind fun x27 =>
 condK x27
 (
 (fieldAddr PP 27 x4 0).bind fun x30 =>
 (fieldAddr PP 25 x30 2).bind fun x31 =>
 (load PP 23 x31 σ).bind fun x32 =>
 (indexAddr PP 23 x32 x9).bind fun x34 =>
 (load PP 100 x34 σ).bind fun x35 =>
 (zeroOf PP 100).bind fun z10 =>
 (store PP lo 100 (DV.ptr (List.length σ) 0) x35 (σ ++ [Row.mix z10])).bind fun σ1 =>
 (fieldAddr PP 100 (DV.ptr (List.length σ) 0) 0).bind fun x36 =>
 (load PP 3 x36 σ1).bind fun x37 =>
 (binOp PP .eql 3 x37 x2).bind fun x39 =>
 G _ x39 true ((load PP 27 x4 σ1).bind fun v => some (v, σ1)) σ1 fun x41 σ2 =>
 G _ x39 true (some (x1, σ2)) σ2 fun x42 σ3 =>
 G _ x39 true ((fieldAddr PP 100 (DV.ptr (List.length σ) 0) 1).bind fun v => some (v, σ3)) σ3 fun x43 σ4 =>
 G _ x39 true ((load PP 3 x43 σ4).bind fun v => some (v, σ4)) σ4 fun x44 σ5 =>
 G _ x39 true (some (x3, σ5)) σ5 fun x45 σ6 =>
 G _ x39 true ((pureFn CC (DV.fn 72 []) [x41, x42, x44, x45] σ6).bind fun v => some (v, σ6)) σ6 fun x46 σ7 =>
 G _ x39 true ((unOp .not x46).bind fun v => some (v, σ7)) σ7 fun x47 σ8 =>
 (pickV x39 x47 (DV.p (PV.bool false))).bind fun x48 =>
 condK x48
 (
 some ((DV.p (PV.bool false)), σ8)
 )
 (
 (binOp PP .add 3 x9 (DV.p (PV.int IntKind.i64 (1)))).bind fun x29 =>
 f62_L0 G lo x1 x2 x3 x4 x29 σ8
 )
 )
 (
 some ((DV.p (PV.bool true)), σ)
 ) := (loopF_eq G hG).trans (by kernel_rfl)
theorem F62_eq (G : GuardT) (lo : Nat) (x0 x1 x2 x3 : DV) (σ : Store) : F62 G lo x0 x1 x2 x3 σ =
 (boxV x0).bind fun z4 =>
 (fieldAddr PP 27 (DV.ptr (List.length σ) 0) 2).bind fun x11 =>
 (load PP 22 x11 (σ ++ [Row.mix z4])).bind fun x12 =>
 (indexAddr PP 22 x12 x2).bind fun x14 =>
 (load PP 3 x14 (σ ++ [Row.mix z4])).bind fun x15 =>
 (fieldAddr PP 27 (DV.ptr (List.length σ) 0) 3).bind fun x16 =>
 (load PP 22 x16 (σ ++ [Row.mix z4])).bind fun x17 =>
 (indexAddr PP 22 x17 x3).bind fun x19 =>
 (load PP 3 x19 (σ ++ [Row.mix z4])).bind fun x20 =>
 (binOp PP .neq 3 x15 x20).bind fun x21 =>
 condK x21
 (
 some ((DV.p (PV.bool false)), (σ ++ [Row.mix z4]))
 )
 (
 f62_L0 G lo x1 x2 x3 (DV.ptr (List.length σ) 0) (DV.p (PV.int IntKind.i64 (0))) (σ ++ [Row.mix z4])
 ) := by kernel_rfl
theorem F62_call {lo : Nat} {x0 x1 x2 x3 : DV} {σ : Store} {r : DV × Store} (h : F62 guardT lo x0 x1 x2 x3 σ = some r) : CC lo 62 [x0, x1, x2, x3] σ = some r :=
 callL_run Go.Proofs.Try.func62 (by decide +kernel) rfl (by decide +kernel) h
noncomputable def c36_0 : Code := bodyOf Go.Proofs.Try.f36
noncomputable def a36_0 : Ann := (pol 36).ann
noncomputable def a36_7 : Ann := right (left (right (right a36_0)))
noncomputable def a36_8 : Ann := left a36_7
noncomputable def c36_9 : Code := fstC (fstC (sndC (fstC (sndC (sndC c36_0)))))
noncomputable def c36_19 : Code := sndC (sndC (sndC c36_0))
noncomputable def a36_19 : Ann := right (right (right a36_0))
noncomputable def f36_L0 (G : GuardT) (lo : Nat) (x0 x3 x4 : DV) (σ : Store) : Option (DV × Store) :=
 codeF G PP (pol 36) CC lo (.loop c36_9) a36_8 [x0, ud, ud, x3, x4, ud, ud, ud, ud, ud, ud, ud, ud, ud, ud, ud, ud, ud, ud, ud] σ
 (blockC 0 a36_7 (seqC G PP (pol 36) CC lo c36_19 a36_19 (finR PP Go.Proofs.Try.f36.results.toList)))
noncomputable def F36 (G : GuardT) (lo : Nat) (x0 : DV) (σ : Store) : Option (DV × Store) :=
 codeF G PP (pol 36) CC lo c36_0 a36_0 [x0, ud, ud, ud, ud, ud, ud, ud, ud, ud, ud, ud, ud, ud, ud, ud, ud, ud, ud, ud] σ (finR PP Go.Proofs.Try.f36.results.toList)
theorem f36_L0_eq (G : GuardT) (hG : GuardOk G) (lo : Nat) (x0 x3 x4 : DV) (σ : Store) : f36_L0 G lo x0 x3 x4 σ =
 (len PP 51 x0 σ).bind fun x7 =>
 (binOp PP .lss 3 x4 x7).bind fun x8 =>
 condK x8
 (
 (indexAddr PP 51 x0 x4).bind fun x14 =>
 (load PP 22 x14 σ).bind fun x15 =>
 (pureFn CC (DV.fn 14 []) [x15] σ).bind fun x16 =>
 (buildSlice PP none 51 1 [(0, x16)] σ).bind fun r17_1 =>
 (append PP lo false 51 51 x3 r17_1.1 r17_1.2).bind fun r18_2 =>
 (binOp PP .add 3 x4 (DV.p (PV.int IntKind.i64 (1)))).bind fun x10 =>
 f36_L0 G lo x0 r18_2.1 x10 r18_2.2
 )
 (
 some (x3, σ)
 ) := (loopF_eq G hG).trans (by kernel_rfl)
theorem F36_eq (G : GuardT) (lo : Nat) (x0 : DV) (σ : Store) : F36 G lo x0 σ =
 f36_L0 G lo x0 (DV.p PV.nilsl) (DV.p (PV.int IntKind.i64 (0))) σ := by kernel_rfl
theorem F36_call {lo : Nat} {x0 : DV} {σ : Store} {r : DV × Store} (h : F36 guardT lo x0 σ = some r) : CC lo 36 [x0] σ = some r :=
 callL_run Go.Proofs.Try.func36 (by decide +kernel) rfl (by decide +kernel) h
noncomputable def c34_0 : Code := bodyOf Go.Proofs.Try.f34
noncomputable def a34_0 : Ann := (pol 34).ann
noncomputable def a34_13 : Ann := right (left (right (right a34_0)))
noncomputable def a34_14 : Ann := left a34_13
noncomputable def c34_15 : Code := fstC (fstC (sndC (fstC (sndC (sndC c34_0)))))
noncomputable def c34_31 : Code := sndC (sndC (sndC c34_0))
noncomputable def a34_31 : Ann := right (right (right a34_0))
noncomputable def f34_L0 (G : GuardT) (lo : Nat) (x0 x3 : DV) (σ : Store) : Option (DV × Store) :=
 codeF G PP (pol 34) CC lo (.loop c34_15) a34_14 [x0, ud, ud, x3, ud, ud, ud, ud, ud, ud, ud, ud, ud, ud, ud, ud, ud, ud, ud] σ
 (blockC 0 a34_13 (seqC G PP (pol 34) CC lo c34_31 a34_31 (finR PP Go.Proofs.Try.f34.results.toList)))
noncomputable def F34 (G : GuardT) (lo : Nat) (x0 : DV) (σ : Store) : Option (DV × Store) :=
 codeF G PP (pol 34) CC lo c34_0 a34_0 [x0, ud, ud, ud, ud, ud, ud, ud, ud, ud, ud, ud, ud, ud, ud, ud, ud, ud, ud] σ (finR PP Go.Proofs.Try.f34.results.toList)
theorem f34_L0_eq (G : GuardT) (hG : GuardOk G) (lo : Nat) (x0 x3 : DV) (σ : Store) : f34_L0 G lo x0 x3 σ =
 (len PP 51 x0 σ).bind fun x9 =>
 (binOp PP .lss 3 x3 x9).bind fun x10 =>
 condK x10
 (
 (indexAddr PP 51 x0 x3).bind fun x15 =>
 (load PP 22 x15 σ).bind fun x16 =>
 (len PP 22 x16 σ).bind fun x17 =>
 (binOp PP .gtr 3 x17 (DV.p (PV.int IntKind.i64 (4)))).bind fun x18 =>
 condK x18
 (
 some ((DV.p (PV.bool false)), σ)
 )
 (
 (binOp PP .add 3 x3 (DV.p (PV.int IntKind.i64 (1)))).bind fun x12 =>
 f34_L0 G lo x0 x12 σ
 )
 )
 (
 some ((DV.p (PV.bool true)), σ)
 ) := (loopF_eq G hG).trans (by kernel_rfl)
theorem F34_eq (G : GuardT) (lo : Nat) (x0 : DV) (σ : Store) : F34 G lo x0 σ =
 (len PP 51 x0 σ).bind fun x5 =>
 (binOp PP .gtr 3 x5 (DV.p (PV.int IntKind.i64 (60)))).bind fun x6 =>
 condK x6
 (
 some ((DV.p (PV.bool false)), σ)
 )
 (
 f34_L0 G lo x0 (DV.p (PV.int IntKind.i64 (0))) σ
 ) := by kernel_rfl
theorem F34_call {lo : Nat} {x0 : DV} {σ : Store} {r : DV × Store} (h : F34 guardT lo x0 σ = some r) : CC lo 34 [x0] σ = some r :=
 callL_run Go.Proofs.Try.func34 (by decide +kernel) rfl (by decide +kernel) h
noncomputable def c35_0 : Code := bodyOf Go.Proofs.Try.f35
noncomputable def a35_0 : Ann := (pol 35).ann
noncomputable def a35_17 : Ann := right (left (right (right (right a35_0))))
noncomputable def a35_18 : Ann := left a35_17
noncomputable def c35_19 : Code := fstC (fstC (sndC (fstC (sndC (sndC (sndC c35_0))))))
noncomputable def c35_49 : Code := sndC (sndC (sndC (sndC c35_0)))
noncomputable def a35_49 : Ann := right (right (right (right a35_0)))
noncomputable def a35_56 : Ann := right (left (right (right a35_49)))
noncomputable def a35_57 : Ann := left a35_56
noncomputable def c35_58 : Code := fstC (fstC (sndC (fstC (sndC (sndC c35_49)))))
noncomputable def a35_65 : Ann := left (right (right (left a35_57)))
noncomputable def a35_73 : Ann := right (left (right (right (left a35_65))))
noncomputable def a35_74 : Ann := left a35_73
noncomputable def c35_75 : Code := fstC (fstC (sndC (fstC (sndC (sndC (fstC (fstC (sndC (sndC c35_58)))))))))
noncomputable def c35_87 : Code := sndC (sndC (sndC (fstC (fstC (sndC (sndC c35_58))))))
noncomputable def a35_87 : Ann := right (right (right (left a35_65)))
noncomputable def c35_94 : Code := sndC (sndC (sndC c35_58))
noncomputable def a35_94 : Ann := right (right (right (left a35_57)))
noncomputable def c35_95 : Code := sndC (sndC (sndC c35_49))
noncomputable def a35_95 : Ann := right (right (right a35_49))
noncomputable def f35_L0 (G : GuardT) (lo : Nat) (x1 x2 x7 x24 x25 x26 : DV) (σ : Store) : Option (DV × Store) :=
 codeF G PP (pol 35) CC lo (.loop c35_19) a35_18 [ud, x1, x2, ud, ud, ud, ud, x7, ud, ud, ud, ud, ud, ud, ud, ud, ud, ud, ud, ud, ud, ud, ud, ud, x24, x25, x26, ud, ud, ud, ud, ud, ud, ud, ud, ud, ud, ud, ud, ud, ud, ud, ud, ud, ud, ud, ud, ud, ud, ud, ud, ud, ud, ud, ud, ud, ud, ud, ud, ud, ud, ud, ud, ud, ud, ud, ud, ud, ud, ud, ud, ud, ud, ud, ud, ud, ud, ud, ud, ud, ud, ud, ud, ud, ud, ud, ud, ud, ud, ud, ud, ud, ud, ud, ud, ud, ud, ud, ud, ud, ud, ud, ud, ud, ud, ud, ud, ud, ud, ud, ud, ud, ud, ud, ud, ud, ud, ud, ud, ud, ud, ud, ud, ud, ud, ud, ud, ud, ud, ud, ud, ud, ud, ud, ud, ud, ud, ud, ud] σ
 (blockC 0 a35_17 (seqC G PP (pol 35) CC lo c35_49 a35_49 (finR PP Go.Proofs.Try.f35.results.toList)))
noncomputable def f35_L1 (G : GuardT) (lo : Nat) (x2 x11 x12 x85 x86 x87 : DV) (σ : Store) : Option (DV × Store) :=
 codeF G PP (pol 35) CC lo (.loop c35_58) a35_57 [ud, ud, x2, ud, ud, ud, ud, ud, ud, ud, ud, x11, x12, ud, ud, ud, ud, ud, ud, ud, ud, ud, ud, ud, ud, ud, ud, ud, ud, ud, ud, ud, ud, ud, ud, ud, ud, ud, ud, ud, ud, ud, ud, ud, ud, ud, ud, ud, ud, ud, ud, ud, ud, ud, ud, ud, ud, ud, ud, ud, ud, ud, ud, ud, ud, ud, ud, ud, ud, ud, ud, ud, ud, ud, ud, ud, ud, ud, ud, ud, ud, ud, ud, ud, ud, x85, x86, x87, ud, ud, ud, ud, ud, ud, ud, ud, ud, ud, ud, ud, ud, ud, ud, ud, ud, ud, ud, ud, ud, ud, ud, ud, ud, ud, ud, ud, ud, ud, ud, ud, ud, ud, ud, ud, ud, ud, ud, ud, ud, ud, ud, ud, ud, ud, ud, ud, ud, ud, ud] σ
 (blockC 2 a35_56 (seqC G PP (pol 35) CC lo c35_95 a35_95 (finR PP Go.Proofs.Try.f35.results.toList)))
noncomputable def f35_L2 (G : GuardT) (lo : Nat) (x2 x11 x12 x13 x14 x15 x85 x86 x87 x109 x110 x111 : DV) (σ : Store) : Option (DV × Store) :=
 codeF G PP (pol 35) CC lo (.loop c35_75) a35_74 [ud, ud, x2, ud, ud, ud, ud, ud, ud, ud, ud, x11, x12, x13, x14, x15, ud, ud, ud, ud, ud, ud, ud, ud, ud, ud, ud, ud, ud, ud, ud, ud, ud, ud, ud, ud, ud, ud, ud, ud, ud, ud, ud, ud, ud, ud, ud, ud, ud, ud, ud, ud, ud, ud, ud, ud, ud, ud, ud, ud, ud, ud, ud, ud, ud, ud, ud, ud, ud, ud, ud, ud, ud, ud, ud, ud, ud, ud, ud, ud, ud, ud, ud, ud, ud, x85, x86, x87, ud, ud, ud, ud, ud, ud, ud, ud, ud, ud, ud, ud, ud, ud, ud, ud, ud, ud, ud, ud, ud, x109, x110, x111, ud, ud, ud, ud, ud, ud, ud, ud, ud, ud, ud, ud, ud, ud, ud, ud, ud, ud, ud, ud, ud, ud, ud, ud, ud, ud, ud] σ
 (blockC 4 a35_73 (seqC G PP (pol 35) CC lo c35_87 a35_87 (blockC 3 a35_65 (seqC G PP (pol 35) CC lo c35_94 a35_94 (loopC G PP (pol 35) CC lo c35_58 a35_57 (blockC 2 a35_56 (seqC G PP (pol 35) CC lo c35_95 a35_95 (finR PP Go.Proofs.Try.f35.results.toList))))))))
noncomputable def F35 (G : GuardT) (lo : Nat) (x0 x1 : DV) (σ : Store) : Option (DV × Store) :=
 codeF G PP (pol 35) CC lo c35_0 a35_0 [x0, x1, ud, ud, ud, ud, ud, ud, ud, ud, ud, ud, ud, ud, ud, ud, ud, ud, ud, ud, ud, ud, ud, ud, ud, ud, ud, ud, ud, ud, ud, ud, ud, ud, ud, ud, ud, ud, ud, ud, ud, ud, ud, ud, ud, ud, ud, ud, ud, ud, ud, ud, ud, ud, ud, ud, ud, ud, ud, ud, ud, ud, ud, ud, ud, ud, ud, ud, ud, ud, ud, ud, ud, ud, ud, ud, ud, ud, ud, ud, ud, ud, ud, ud, ud, ud, ud, ud, ud, ud, ud, ud, ud, ud, ud, ud, ud, ud, ud, ud, ud, ud, ud, ud, ud, ud, ud, ud, ud, ud, ud, ud, ud, ud, ud, ud, ud, ud, ud, ud, ud, ud, ud, ud, ud, ud, ud, ud, ud, ud, ud, ud, ud, ud, ud, ud, ud, ud, ud] σ (finR PP Go.Proofs.Try.f35.results.toList)
theorem f35_L0_eq (G : GuardT) (hG : GuardOk G) (lo : Nat) (x1 x2 x7 x24 x25 x26 : DV) (σ : Store) : f35_L0 G lo x1 x2 x7 x24 x25 x26 σ =
 (binOp PP .lss 3 x26 x25).bind fun x27 =>
 condK x27
 (
 (indexAddr PP 51 x24 x26).bind fun x29 =>
 (load PP 22 x29 σ).bind fun x30 =>
 (len PP 22 x30 σ).bind fun x32 =>
 (binOp PP .neq 3 x32 (DV.p (PV.int IntKind.i64 (2)))).bind fun x33 =>
 condK x33
 (
 some ((DV.tuple [x26, (DV.p (PV.int IntKind.i64 (6)))]), σ)
 )
 (
 (indexAddr PP 22 x30 (DV.p (PV.int IntKind.i64 (0)))).bind fun x36 =>
 (load PP 3 x36 σ).bind fun x37 =>
 (fieldAddr PP 27 x2 0).bind fun x38 =>
 (fieldAddr PP 25 x38 0).bind fun x39 =>
 (load PP 3 x39 σ).bind fun x40 =>
 (binOp PP .sub 3 x40 (DV.p (PV.int IntKind.i64 (1)))).bind fun x41 =>
 (pureFn CC (DV.fn 53 []) [x37, (DV.p (PV.int IntKind.i64 (0))), x41] σ).bind fun x42 =>
 G _ x42 true (some (x30, σ)) σ fun x44 σ2 =>
 G _ x42 true ((indexAddr PP 22 x44 (DV.p (PV.int IntKind.i64 (1)))).bind fun v => some (v, σ2)) σ2 fun x45 σ3 =>
 G _ x42 true ((load PP 3 x45 σ3).bind fun v => some (v, σ3)) σ3 fun x46 σ4 =>
 G _ x42 true ((fieldAddr PP 27 x2 1).bind fun v => some (v, σ4)) σ4 fun x47 σ5 =>
 G _ x42 true ((fieldAddr PP 25 x47 0).bind fun v => some (v, σ5)) σ5 fun x48 σ6 =>
 G _ x42 true ((load PP 3 x48 σ6).bind fun v => some (v, σ6)) σ6 fun x49 σ7 =>
 G _ x42 true ((binOp PP .sub 3 x49 (DV.p (PV.int IntKind.i64 (1)))).bind fun v => some (v, σ7)) σ7 fun x50 σ8 =>
 G _ x42 true ((pureFn CC (DV.fn 53 []) [x46, (DV.p (PV.int IntKind.i64 (0))), x50] σ8).bind fun v => some (v, σ8)) σ8 fun x51 σ9 =>
 (pickV x42 x51 (DV.p (PV.bool false))).bind fun x52 =>
 (pureFn CC (DV.fn 56 []) [x52, (DV.p (PV.int IntKind.i64 (3)))] σ9).bind fun x53 =>
 (binOp PP .eql 3 x26 (DV.p (PV.int IntKind.i64 (0)))).bind fun x55 =>
 G _ x55 false (some (x1, σ9)) σ9 fun x57 σ10 =>
 G _ x55 false (some (x26, σ10)) σ10 fun x58 σ11 =>
 G _ x55 false ((binOp PP .sub 3 x58 (DV.p (PV.int IntKind.i64 (1)))).bind fun v => some (v, σ11)) σ11 fun x59 σ12 =>
 G _ x55 false ((indexAddr PP 51 x57 x59).bind fun v => some (v, σ12)) σ12 fun x60 σ13 =>
 G _ x55 false ((load PP 22 x60 σ13).bind fun v => some (v, σ13)) σ13 fun x61 σ14 =>
 G _ x55 false (some (x30, σ14)) σ14 fun x62 σ15 =>
 G _ x55 false ((pureFn CC (DV.fn 73 []) [x61, x62] σ15).bind fun v => some (v, σ15)) σ15 fun x63 σ16 =>
 G _ x55 false ((binOp PP .lss 3 x63 (DV.p (PV.int IntKind.i64 (0)))).bind fun v => some (v, σ16)) σ16 fun x64 σ17 =>
 (pickV x55 (DV.p (PV.bool true)) x64).bind fun x65 =>
 (pureFn CC (DV.fn 56 []) [x65, (DV.p (PV.int IntKind.i64 (13)))] σ17).bind fun x66 =>
 (buildSlice PP none 122 2 [(0, x53), (1, x66)] σ17).bind fun r67_18 =>
 (pureFn CC (DV.fn 54 []) [r67_18.1] r67_18.2).bind fun x68 =>
 (binOp PP .neq 30 x68 (DV.p (PV.int IntKind.i64 (0)))).bind fun x70 =>
 condK x70
 (
 some ((DV.tuple [x26, x68]), r67_18.2)
 )
 (
 (load PP 115 x7 r67_18.2).bind fun x73 =>
 (indexAddr PP 22 x30 (DV.p (PV.int IntKind.i64 (0)))).bind fun x75 =>
 (load PP 3 x75 r67_18.2).bind fun x76 =>
 (indexAddr PP 22 x30 (DV.p (PV.int IntKind.i64 (1)))).bind fun x78 =>
 (load PP 3 x78 r67_18.2).bind fun x79 =>
 (build PP 111 [(0, x76), (1, x79)]).bind fun x80 =>
 (mapUpdate PP lo 115 x73 x80 (DV.p (PV.bool true)) r67_18.2).bind fun σ19 =>
 (binOp PP .add 3 x26 (DV.p (PV.int IntKind.i64 (1)))).bind fun x81 =>
 f35_L0 G lo x1 x2 x7 x24 x25 x81 σ19
 )
 )
 )
 (
 (load PP 27 x2 σ).bind fun x82 =>
 (pureFn CC (DV.fn 43 []) [x82] σ).bind fun x83 =>
 (len PP 51 x1 σ).bind fun x86 =>
 f35_L1 G lo x2 x83 (DV.fn 74 [x7]) x1 x86 (DV.p (PV.int IntKind.i64 (0))) σ
 ) := (loopF_eq G hG).trans (by kernel_rfl)
theorem f35_L1_eq (G : GuardT) (hG : GuardOk G) (lo : Nat) (x2 x11 x12 x85 x86 x87 : DV) (σ : Store) : f35_L1 G lo x2 x11 x12 x85 x86 x87 σ =
 (binOp PP .lss 3 x87 x86).bind fun x88 =>
 condK x88
 (
 (indexAddr PP 51 x85 x87).bind fun x90 =>
 (load PP 22 x90 σ).bind fun x91 =>
 (fieldAddr PP 27 x2 2).bind fun x92 =>
 (load PP 22 x92 σ).bind fun x93 =>
 (indexAddr PP 22 x91 (DV.p (PV.int IntKind.i64 (0)))).bind fun x95 =>
 (load PP 3 x95 σ).bind fun x96 =>
 (indexAddr PP 22 x93 x96).bind fun x97 =>
 (load PP 3 x97 σ).bind fun x98 =>
 (fieldAddr PP 27 x2 3).bind fun x99 =>
 (load PP 22 x99 σ).bind fun x100 =>
 (indexAddr PP 22 x91 (DV.p (PV.int IntKind.i64 (1)))).bind fun x102 =>
 (load PP 3 x102 σ).bind fun x103 =>
 (indexAddr PP 22 x100 x103).bind fun x104 =>
 (load PP 3 x104 σ).bind fun x105 =>
 (binOp PP .eql 3 x98 x105).bind fun x106 =>
 (fieldAddr PP 27 x2 0).bind fun x107 =>
 (fieldAddr PP 25 x107 2).bind fun x108 =>
 (load PP 23 x108 σ).bind fun x109 =>
 (len PP 23 x109 σ).bind fun x110 =>
 f35_L2 G lo x2 x11 x12 x87 x91 x106 x85 x86 x87 x109 x110 (DV.p (PV.int IntKind.i64 (0))) σ
 )
 (
 some ((DV.tuple [(DV.p (PV.int IntKind.i64 (0))), (DV.p (PV.int IntKind.i64 (0)))]), σ)
 ) := (loopF_eq G hG).trans (by kernel_rfl)
theorem f35_L2_eq (G : GuardT) (hG : GuardOk G) (lo : Nat) (x2 x11 x12 x13 x14 x15 x85 x86 x87 x109 x110 x111 : DV) (σ : Store) : f35_L2 G lo x2 x11 x12 x13 x14 x15 x85 x86 x87 x109 x110 x111 σ =
 (binOp PP .lss 3 x111 x110).bind fun x112 =>
 condK x112
 (
 (indexAddr PP 23 x109 x111).bind fun x113 =>
 (load PP 100 x113 σ).bind fun x114 =>
 (zeroOf PP 100).bind fun z17 =>
 (store PP lo 100 (DV.ptr (List.length σ) 0) x114 (σ ++ [Row.mix z17])).bind fun σ20 =>
 G _ x15 true ((fieldAddr PP 100 (DV.ptr (List.length σ) 0) 0).bind fun v => some (v, σ20)) σ20 fun x117 σ21 =>
 G _ x15 true ((load PP 3 x117 σ21).bind fun v => some (v, σ21)) σ21 fun x118 σ22 =>
 G _ x15 true (some (x14, σ22)) σ22 fun x119 σ23 =>
 G _ x15 true ((indexAddr PP 22 x119 (DV.p (PV.int IntKind.i64 (0)))).bind fun v => some (v, σ23)) σ23 fun x120 σ24 =>
 G _ x15 true ((load PP 3 x120 σ24).bind fun v => some (v, σ24)) σ24 fun x121 σ25 =>
 G _ x15 true ((binOp PP .neq 3 x118 x121).bind fun v => some (v, σ25)) σ25 fun x122 σ26 =>
 G _ x15 true (some (x122, σ26)) σ26 fun x123 σ27 =>
 G _ x123 false (some (x11, σ27)) σ27 fun x124 σ28 =>
 G _ x123 false ((fieldAddr PP 100 (DV.ptr (List.length σ) 0) 1).bind fun v => some (v, σ28)) σ28 fun x125 σ29 =>
 G _ x123 false ((load PP 3 x125 σ29).bind fun v => some (v, σ29)) σ29 fun x126 σ30 =>
 G _ x123 false (some (x14, σ30)) σ30 fun x127 σ31 =>
 G _ x123 false ((indexAddr PP 22 x127 (DV.p (PV.int IntKind.i64 (1)))).bind fun v => some (v, σ31)) σ31 fun x128 σ32 =>
 G _ x123 false ((load PP 3 x128 σ32).bind fun v => some (v, σ32)) σ32 fun x129 σ33 =>
 G _ x123 false (some (x12, σ33)) σ33 fun x130 σ34 =>
 G _ x123 false ((pureFn CC (DV.fn 66 []) [x124, x126, x129, x130] σ34).bind fun v => some (v, σ34)) σ34 fun x131 σ35 =>
 G _ x15 true ((pickV x123 (DV.p (PV.bool true)) x131).bind fun v => some (v, σ35)) σ35 fun x132 σ36 =>
 (pickV x15 x132 (DV.p (PV.bool false))).bind fun x133 =>
 (binOp PP .add 3 x111 (DV.p (PV.int IntKind.i64 (1)))).bind fun x134 =>
 f35_L2 G lo x2 x11 x12 x13 x14 x133 x85 x86 x87 x109 x110 x134 σ36
 )
 (
 (unOp .not x15).bind fun x136 =>
 condK x136
 (
 some ((DV.tuple [x13, (DV.p (PV.int IntKind.i64 (31)))]), σ)
 )
 (
 (binOp PP .add 3 x87 (DV.p (PV.int IntKind.i64 (1)))).bind fun x138 =>
 f35_L1 G lo x2 x11 x12 x85 x86 x138 σ
 )
 ) := (loopF_eq G hG).trans (by kernel_rfl)
theorem F35_eq (G : GuardT) (lo : Nat) (x0 x1 : DV) (σ : Store) : F35 G lo x0 x1 σ =
 (boxV x0).bind fun z2 =>
 (load PP 27 (DV.ptr (List.length σ) 0) (σ ++ [Row.mix z2])).bind fun x18 =>
 (pureFn CC (DV.fn 41 []) [x18] (σ ++ [Row.mix z2])).bind fun x19 =>
 (binOp PP .neq 30 x19 (DV.p (PV.int IntKind.i64 (0)))).bind fun x21 =>
 condK x21
 (
 some ((DV.tuple [(DV.p (PV.int IntKind.i64 (0))), x19]), (σ ++ [Row.mix z2]))
 )
 (
 (zeroOf PP 115).bind fun z7 =>
 (store PP lo 115 (DV.ptr (List.length ((σ ++ [Row.mix z2]) ++ [Row.map []])) 0) (DV.map (List.length (σ ++ [Row.mix z2]))) (((σ ++ [Row.mix z2]) ++ [Row.map []]) ++ [Row.mix z7])).bind fun σ1 =>
 (len PP 51 x1 σ1).bind fun x25 =>
 f35_L0 G lo x1 (DV.ptr (List.length σ) 0) (DV.ptr (List.length ((σ ++ [Row.mix z2]) ++ [Row.map []])) 0) x1 x25 (DV.p (PV.int IntKind.i64 (0))) σ1
 ) := by kernel_rfl
theorem F35_call {lo : Nat} {x0 x1 : DV} {σ : Store} {r : DV × Store} (h : F35 guardT lo x0 x1 σ = some r) : CC lo 35 [x0, x1] σ = some r :=
 callL_run Go.Proofs.Try.func35 (by decide +kernel) rfl (by decide +kernel) h
noncomputable def c37_0 : Code := bodyOf Go.Proofs.Try.f37
noncomputable def a37_0 : Ann := (pol 37).ann
noncomputable def a37_5 : Ann := right (left (right a37_0))
noncomputable def a37_6 : Ann := left a37_5
noncomputable def c37_7 : Code := fstC (fstC (sndC (fstC (sndC c37_0))))
noncomputable def c37_39 : Code := sndC (sndC c37_0)
noncomputable def a37_39 : Ann := right (right a37_0)
noncomputable def a37_42 : Ann := right (left a37_39)
noncomputable def a37_43 : Ann := left a37_42
noncomputable def c37_44 : Code := fstC (fstC (sndC (fstC c37_39)))
noncomputable def c37_60 : Code := sndC c37_39
noncomputable def a37_60 : Ann := right a37_39
noncomputable def f37_L0 (G : GuardT) (lo : Nat) (x1 x2 x6 : DV) (σ : Store) : Option (DV × Store) :=
 codeF G PP (pol 37) CC lo (.loop c37_7) a37_6 [ud, x1, x2, ud, ud, ud, x6, ud, ud, ud, ud, ud, ud, ud, ud, ud, ud, ud, ud, ud, ud, ud, ud, ud, ud, ud, ud, ud, ud, ud, ud, ud, ud, ud, ud, ud, ud, ud, ud, ud, ud, ud, ud, ud, ud, ud, ud, ud, ud, ud, ud, ud, ud, ud, ud, ud, ud, ud, ud, ud, ud, ud, ud, ud, ud, ud, ud, ud, ud, ud, ud, ud, ud, ud, ud, ud, ud, ud, ud, ud, ud, ud, ud, ud, ud, ud, ud] σ
 (blockC 0 a37_5 (seqC G PP (pol 37) CC lo c37_39 a37_39 (finR PP Go.Proofs.Try.f37.results.toList)))
noncomputable def f37_L1 (G : GuardT) (lo : Nat) (x1 x2 x7 : DV) (σ : Store) : Option (DV × Store) :=
 codeF G PP (pol 37) CC lo (.loop c37_44) a37_43 [ud, x1, x2, ud, ud, ud, ud, x7, ud, ud, ud, ud, ud, ud, ud, ud, ud, ud, ud, ud, ud, ud, ud, ud, ud, ud, ud, ud, ud, ud, ud, ud, ud, ud, ud, ud, ud, ud, ud, ud, ud, ud, ud, ud, ud, ud, ud, ud, ud, ud, ud, ud, ud, ud, ud, ud, ud, ud, ud, ud, ud, ud, ud, ud, ud, ud, ud, ud, ud, ud, ud, ud, ud, ud, ud, ud, ud, ud, ud, ud, ud, ud, ud, ud, ud, ud, ud] σ
 (blockC 2 a37_42 (seqC G PP (pol 37) CC lo c37_60 a37_60 (finR PP Go.Proofs.Try.f37.results.toList)))
noncomputable def F37 (G : GuardT) (lo : Nat) (x0 x1 : DV) (σ : Store) : Option (DV × Store) :=
 codeF G PP (pol 37) CC lo c37_0 a37_0 [x0, x1, ud, ud, ud, ud, ud, ud, ud, ud, ud, ud, ud, ud, ud, ud, ud, ud, ud, ud, ud, ud, ud, ud, ud, ud, ud, ud, ud, ud, ud, ud, ud, ud, ud, ud, ud, ud, ud, ud, ud, ud, ud, ud, ud, ud, ud, ud, ud, ud, ud, ud, ud, ud, ud, ud, ud, ud, ud, ud, ud, ud, ud, ud, ud, ud, ud, ud, ud, ud, ud, ud, ud, ud, ud, ud, ud, ud, ud, ud, ud, ud, ud, ud, ud, ud, ud] σ (finR PP Go.Proofs.Try.f37.results.toList)
theorem f37_L0_eq (G : GuardT) (hG : GuardOk G) (lo : Nat) (x1 x2 x6 : DV) (σ : Store) : f37_L0 G lo x1 x2 x6 σ =
 (len PP 51 x1 σ).bind fun x10 =>
 (binOp PP .lss 3 x6 x10).bind fun x11 =>
 condK x11
 (
 (indexAddr PP 51 x1 x6).bind fun x16 =>
 (load PP 22 x16 σ).bind fun x17 =>
 (len PP 22 x17 σ).bind fun x18 =>
 (binOp PP .neq 3 x18 (DV.p (PV.int IntKind.i64 (2)))).bind fun x19 =>
 condK x19
 (
 some ((DV.tuple [x6, (DV.p (PV.int IntKind.i64 (6)))]), σ)
 )
 (
 (indexAddr PP 51 x1 x6).bind fun x23 =>
 (load PP 22 x23 σ).bind fun x24 =>
 (indexAddr PP 22 x24 (DV.p (PV.int IntKind.i64 (0)))).bind fun x25 =>
 (load PP 3 x25 σ).bind fun x26 =>
 (fieldAddr PP 27 x2 0).bind fun x27 =>
 (fieldAddr PP 25 x27 0).bind fun x28 =>
 (load PP 3 x28 σ).bind fun x29 =>
 (binOp PP .sub 3 x29 (DV.p (PV.int IntKind.i64 (1)))).bind fun x30 =>
 (pureFn CC (DV.fn 22 []) [x26, (DV.p (PV.int IntKind.i64 (0))), x30] σ).bind fun x31 =>
 (unOp .not x31).bind fun x32 =>
 G _ x32 false (some (x1, σ)) σ fun x34 σ1 =>
 G _ x32 false (some (x6, σ1)) σ1 fun x35 σ2 =>
 G _ x32 false ((indexAddr PP 51 x34 x35).bind fun v => some (v, σ2)) σ2 fun x36 σ3 =>
 G _ x32 false ((load PP 22 x36 σ3).bind fun v => some (v, σ3)) σ3 fun x37 σ4 =>
 G _ x32 false ((indexAddr PP 22 x37 (DV.p (PV.int IntKind.i64 (1)))).bind fun v => some (v, σ4)) σ4 fun x38 σ5 =>
 G _ x32 false ((load PP 3 x38 σ5).bind fun v => some (v, σ5)) σ5 fun x39 σ6 =>
 G _ x32 false ((fieldAddr PP 27 x2 1).bind fun v => some (v, σ6)) σ6 fun x40 σ7 =>
 G _ x32 false ((fieldAddr PP 25 x40 0).bind fun v => some (v, σ7)) σ7 fun x41 σ8 =>
 G _ x32 false ((load PP 3 x41 σ8).bind fun v => some (v, σ8)) σ8 fun x42 σ9 =>
 G _ x32 false ((binOp PP .sub 3 x42 (DV.p (PV.int IntKind.i64 (1)))).bind fun v => some (v, σ9)) σ9 fun x43 σ10 =>
 G _ x32 false ((pureFn CC (DV.fn 22 []) [x39, (DV.p (PV.int IntKind.i64 (0))), x43] σ10).bind fun v => some (v, σ10)) σ10 fun x44 σ11 =>
 G _ x32 false ((unOp .not x44).bind fun v => some (v, σ11)) σ11 fun x45 σ12 =>
 (pickV x32 (DV.p (PV.bool true)) x45).bind fun x46 =>
 condK x46
 (
 some ((DV.tuple [x6, (DV.p (PV.int IntKind.i64 (3)))]), σ12)
 )
 (
 (binOp PP .gtr 3 x6 (DV.p (PV.int IntKind.i64 (0)))).bind fun x49 =>
 G _ x49 true (some (x1, σ12)) σ12 fun x51 σ13 =>
 G _ x49 true (some (x6, σ13)) σ13 fun x52 σ14 =>
 G _ x49 true ((binOp PP .sub 3 x52 (DV.p (PV.int IntKind.i64 (1)))).bind fun v => some (v, σ14)) σ14 fun x53 σ15 =>
 G _ x49 true ((indexAddr PP 51 x51 x53).bind fun v => some (v, σ15)) σ15 fun x54 σ16 =>
 G _ x49 true ((load PP 22 x54 σ16).bind fun v => some (v, σ16)) σ16 fun x55 σ17 =>
 G _ x49 true (some (x1, σ17)) σ17 fun x56 σ18 =>
 G _ x49 true (some (x6, σ18)) σ18 fun x57 σ19 =>
 G _ x49 true ((indexAddr PP 51 x56 x57).bind fun v => some (v, σ19)) σ19 fun x58 σ20 =>
 G _ x49 true ((load PP 22 x58 σ20).bind fun v => some (v, σ20)) σ20 fun x59 σ21 =>
 G _ x49 true ((pureFn CC (DV.fn 70 []) [x55, x59] σ21).bind fun v => some (v, σ21)) σ21 fun x60 σ22 =>
 G _ x49 true ((binOp PP .geq 3 x60 (DV.p (PV.int IntKind.i64 (0)))).bind fun v => some (v, σ22)) σ22 fun x61 σ23 =>
 (pickV x49 x61 (DV.p (PV.bool false))).bind fun x62 =>
 condK x62
 (
 some ((DV.tuple [x6, (DV.p (PV.int IntKind.i64 (13)))]), σ23)
 )
 (
 (binOp PP .add 3 x6 (DV.p (PV.int IntKind.i64 (1)))).bind fun x13 =>
 f37_L0 G lo x1 x2 x13 σ23
 )
 )
 )
 )
 (
 f37_L1 G lo x1 x2 (DV.p (PV.int IntKind.i64 (0))) σ
 ) := (loopF_eq G hG).trans (by kernel_rfl)
theorem f37_L1_eq (G : GuardT) (hG : GuardOk G) (lo : Nat) (x1 x2 x7 : DV) (σ : Store) : f37_L1 G lo x1 x2 x7 σ =
 (len PP 51 x1 σ).bind fun x66 =>
 (binOp PP .lss 3 x7 x66).bind fun x67 =>
 condK x67
 (
 (load PP 27 x2 σ).bind fun x70 =>
 (indexAddr PP 51 x1 x7).bind fun x74 =>
 (load PP 22 x74 σ).bind fun x75 =>
 (indexAddr PP 22 x75 (DV.p (PV.int IntKind.i64 (0)))).bind fun x76 =>
 (load PP 3 x76 σ).bind fun x77 =>
 (indexAddr PP 51 x1 x7).bind fun x80 =>
 (load PP 22 x80 σ).bind fun x81 =>
 (indexAddr PP 22 x81 (DV.p (PV.int IntKind.i64 (1)))).bind fun x82 =>
 (load PP 3 x82 σ).bind fun x83 =>
 (pureFn CC (DV.fn 62 []) [x70, x1, x77, x83] σ).bind fun x84 =>
 (unOp .not x84).bind fun x85 =>
 condK x85
 (
 some ((DV.tuple [x7, (DV.p (PV.int IntKind.i64 (31)))]), σ)
 )
 (
 (binOp PP .add 3 x7 (DV.p (PV.int IntKind.i64 (1)))).bind fun x69 =>
 f37_L1 G lo x1 x2 x69 σ
 )
 )
 (
 some ((DV.tuple [(DV.p (PV.int IntKind.i64 (0))), (DV.p (PV.int IntKind.i64 (0)))]), σ)
 ) := (loopF_eq G hG).trans (by kernel_rfl)
theorem F37_eq (G : GuardT) (lo : Nat) (x0 x1 : DV) (σ : Store) : F37 G lo x0 x1 σ =
 (boxV x0).bind fun z2 =>
 f37_L0 G lo x1 (DV.ptr (List.length σ) 0) (DV.p (PV.int IntKind.i64 (0))) (σ ++ [Row.mix z2]) := by kernel_rfl
theorem F37_call {lo : Nat} {x0 x1 : DV} {σ : Store} {r : DV × Store} (h : F37 guardT lo x0 x1 σ = some r) : CC lo 37 [x0, x1] σ = some r :=
 callL_run Go.Proofs.Try.func37 (by decide +kernel) rfl (by decide +kernel) h
noncomputable def c8_0 : Code := bodyOf Go.Proofs.Try.f8
noncomputable def a8_0 : Ann := (pol 8).ann
noncomputable def F8 (G : GuardT) (lo : Nat) (x0 x1 : DV) (σ : Store) : Option (DV × Store) :=
 codeF G PP (pol 8) CC lo c8_0 a8_0 [x0, x1, ud, ud, ud, ud, ud, ud, ud, ud, ud, ud, ud, ud, ud, ud, ud, ud, ud, ud, ud, ud, ud, ud, ud, ud, ud, ud, ud, ud, ud, ud, ud, ud, ud, ud, ud, ud, ud, ud, ud, ud, ud, ud, ud, ud, ud, ud, ud, ud, ud, ud, ud] σ (finR PP Go.Proofs.Try.f8.results.toList)
theorem F8_eq (G : GuardT) (lo : Nat) (x0 x1 : DV) (σ : Store) : F8 G lo x0 x1 σ =
 (boxV x0).bind fun z2 =>
 (pureFn CC (DV.fn 10 []) [] (σ ++ [Row.mix z2])).bind fun x10 =>
 (unOp .not x10).bind fun x11 =>
 condK x11
 (
 some ((DV.p (PV.bool false)), (σ ++ [Row.mix z2]))
 )
 (
 (load PP 27 (DV.ptr (List.length σ) 0) (σ ++ [Row.mix z2])).bind fun x12 =>
 (pureFn CC (DV.fn 11 []) [x12] (σ ++ [Row.mix z2])).bind fun x13 =>
 (unOp .not x13).bind fun x14 =>
 G _ x14 false (some (x1, (σ ++ [Row.mix z2]))) (σ ++ [Row.mix z2]) fun x16 σ1 =>
 G _ x14 false ((pureFn CC (DV.fn 34 []) [x16] σ1).bind fun v => some (v, σ1)) σ1 fun x17 σ2 =>
 G _ x14 false ((unOp .not x17).bind fun v => some (v, σ2)) σ2 fun x18 σ3 =>
 (pickV x14 (DV.p (PV.bool true)) x18).bind fun x19 =>
 condK x19
 (
 some ((DV.p (PV.bool true)), σ3)
 )
 (
 (load PP 27 (DV.ptr (List.length σ) 0) σ3).bind fun x21 =>
 (pureFn CC (DV.fn 13 []) [x21] σ3).bind fun x22 =>
 (pureFn CC (DV.fn 36 []) [x1] σ3).bind fun x24 =>
 (pureFn CC (DV.fn 35 []) [x22, x24] σ3).bind fun x25 =>
 (extractV x25 0).bind fun x26 =>
 (extractV x25 1).bind fun x27 =>
 (load PP 27 (DV.ptr (List.length σ) 0) σ3).bind fun x28 =>
 (pureFn CC (DV.fn 15 []) [x28] σ3).bind fun x29 =>
 (binOp PP .neq 3 x29 (DV.p (PV.int IntKind.i64 (0)))).bind fun x31 =>
 condK x31
 (
 (binOp PP .eql 3 x27 x29).bind fun x34 =>
 G _ x34 true (some (x26, σ3)) σ3 fun x36 σ4 =>
 G _ x34 true ((binOp PP .eql 3 x36 (DV.p (PV.int IntKind.i64 (0)))).bind fun v => some (v, σ4)) σ4 fun x37 σ5 =>
 (pickV x34 x37 (DV.p (PV.bool false))).bind fun x38 =>
 some (x38, σ5)
 )
 (
 (load PP 27 (DV.ptr (List.length σ) 0) σ3).bind fun x40 =>
 (pureFn CC (DV.fn 37 []) [x40, x1] σ3).bind fun x42 =>
 (extractV x42 0).bind fun x43 =>
 (extractV x42 1).bind fun x44 =>
 (binOp PP .eql 3 x27 x44).bind fun x47 =>
 G _ x47 true (some (x26, σ3)) σ3 fun x49 σ6 =>
 G _ x47 true (some (x43, σ6)) σ6 fun x50 σ7 =>
 G _ x47 true ((binOp PP .eql 3 x49 x50).bind fun v => some (v, σ7)) σ7 fun x51 σ8 =>
 (pickV x47 x51 (DV.p (PV.bool false))).bind fun x52 =>
 some (x52, σ8)
 )
 )
 ) := by kernel_rfl
theorem F8_call {lo : Nat} {x0 x1 : DV} {σ : Store} {r : DV × Store} (h : F8 guardT lo x0 x1 σ = some r) : CC lo 8 [x0, x1] σ = some r :=
 callL_run Go.Proofs.Try.func8 (by decide +kernel) rfl (by decide +kernel) h
end Go.D
end
/- Equations of functions 86, 58, 24, 61, 28, 25, 26, 27, 59, 5, printed by gen.py. -/
section
set_option linter.unusedVariables false
set_option maxRecDepth 10000
namespace Go.D
open _root_.Go.D.Code (fstC sndC)
open _root_.Go.D.Ann (left right)
noncomputable def c86_0 : Code := bodyOf Go.Proofs.Try.f86
noncomputable def a86_0 : Ann := (pol 86).ann
noncomputable def F86 (G : GuardT) (lo : Nat) (x0 x1 x2 x3 : DV) (σ : Store) : Option (DV × Store) :=
 codeF G PP (pol 86) CC lo c86_0 a86_0 [x0, x1, x2, x3, ud, ud, ud, ud, ud, ud, ud, ud, ud, ud, ud, ud, ud, ud, ud, ud, ud, ud, ud, ud, ud, ud] σ (finR PP Go.Proofs.Try.f86.results.toList)
theorem F86_eq (G : GuardT) (lo : Nat) (x0 x1 x2 x3 : DV) (σ : Store) : F86 G lo x0 x1 x2 x3 σ =
 (load PP 101 x2 σ).bind fun x7 =>
 (indexAddr PP 101 x7 x0).bind fun x9 =>
 (load PP 22 x9 σ).bind fun x10 =>
 (indexAddr PP 22 x10 x1).bind fun x12 =>
 (load PP 3 x12 σ).bind fun x13 =>
 (binOp PP .eql 3 x13 (DV.p (PV.int IntKind.i64 (-1)))).bind fun x14 =>
 G _ x14 false ((load PP 101 x2 σ).bind fun v => some (v, σ)) σ fun x16 σ1 =>
 G _ x14 false (some (x0, σ1)) σ1 fun x17 σ2 =>
 G _ x14 false ((indexAddr PP 101 x16 x17).bind fun v => some (v, σ2)) σ2 fun x18 σ3 =>
 G _ x14 false ((load PP 22 x18 σ3).bind fun v => some (v, σ3)) σ3 fun x19 σ4 =>
 G _ x14 false (some (x1, σ4)) σ4 fun x20 σ5 =>
 G _ x14 false ((indexAddr PP 22 x19 x20).bind fun v => some (v, σ5)) σ5 fun x21 σ6 =>
 G _ x14 false ((load PP 3 x21 σ6).bind fun v => some (v, σ6)) σ6 fun x22 σ7 =>
 G _ x14 false ((load PP 3 x3 σ7).bind fun v => some (v, σ7)) σ7 fun x23 σ8 =>
 G _ x14 false ((binOp PP .geq 3 x22 x23).bind fun v => some (v, σ8)) σ8 fun x24 σ9 =>
 (pickV x14 (DV.p (PV.bool true)) x24).bind fun x25 =>
 some (x25, σ9) := by kernel_rfl
theorem F86_call {lo : Nat} {x0 x1 x2 x3 : DV} {σ : Store} {r : DV × Store} (h : F86 guardT lo x0 x1 x2 x3 σ = some r) : CC lo 86 [x0, x1, x2, x3] σ = some r :=
 callL_run Go.Proofs.Try.func86 (by decide +kernel) rfl (by decide +kernel) h
noncomputable def c58_0 : Code := bodyOf Go.Proofs.Try.f58
noncomputable def a58_0 : Ann := (pol 58).ann
noncomputable def a58_7 : Ann := right (left (right (right a58_0)))
noncomputable def a58_8 : Ann := left a58_7
noncomputable def c58_9 : Code := fstC (fstC (sndC (fstC (sndC (sndC c58_0)))))
noncomputable def a58_16 : Ann := left (right (right (left a58_8)))
noncomputable def a58_24 : Ann := right (left (right (right (left a58_16))))
noncomputable def a58_25 : Ann := left a58_24
noncomputable def c58_26 : Code := fstC (fstC (sndC (fstC (sndC (sndC (fstC (fstC (sndC (sndC c58_9)))))))))
noncomputable def a58_33 : Ann := left (right (right (left a58_25)))
noncomputable def c58_43 : Code := sndC (sndC (sndC c58_26))
noncomputable def a58_43 : Ann := right (right (right (left a58_25)))
noncomputable def c58_44 : Code := sndC (sndC (sndC (fstC (fstC (sndC (sndC c58_9))))))
noncomputable def a58_44 : Ann := right (right (right (left a58_16)))
noncomputable def c58_45 : Code := sndC (sndC (sndC c58_9))
noncomputable def a58_45 : Ann := right (right (right (left a58_8)))
noncomputable def c58_46 : Code := sndC (sndC (sndC c58_0))
noncomputable def a58_46 : Ann := right (right (right a58_0))
noncomputable def a58_49 : Ann := right (left a58_46)
noncomputable def a58_50 : Ann := left a58_49
noncomputable def c58_51 : Code := fstC (fstC (sndC (fstC c58_46)))
noncomputable def a58_58 : Ann := left (right (left a58_50))
noncomputable def a58_65 : Ann := right (right (right (left a58_58)))
noncomputable def a58_66 : Ann := left a58_65
noncomputable def c58_67 : Code := fstC (fstC (sndC (sndC (sndC (fstC (fstC (sndC c58_51)))))))
noncomputable def a58_74 : Ann := left (right (right (left a58_66)))
noncomputable def a58_79 : Ann := right (right (left a58_74))
noncomputable def a58_80 : Ann := left a58_79
noncomputable def c58_81 : Code := fstC (fstC (sndC (sndC (fstC (fstC (sndC (sndC c58_67)))))))
noncomputable def a58_88 : Ann := left (right (right (left a58_80)))
noncomputable def c58_96 : Code := sndC (sndC (sndC c58_81))
noncomputable def a58_96 : Ann := right (right (right (left a58_80)))
noncomputable def c58_97 : Code := sndC (sndC (sndC c58_67))
noncomputable def a58_97 : Ann := right (right (right (left a58_66)))
noncomputable def c58_98 : Code := sndC (sndC c58_51)
noncomputable def a58_98 : Ann := right (right (left a58_50))
noncomputable def c58_103 : Code := sndC c58_46
noncomputable def a58_103 : Ann := right a58_46
noncomputable def f58_L0 (G : GuardT) (lo : Nat) (x0 x3 x18 x19 : DV) (σ : Store) : Option (DV × Store) :=
 codeF G PP (pol 58) CC lo (.loop c58_9) a58_8 [x0, ud, ud, x3, ud, ud, ud, ud, ud, ud, ud, ud, ud, ud, ud, ud, ud, ud, x18, x19, ud, ud, ud, ud, ud, ud, ud, ud, ud, ud, ud, ud, ud, ud, ud, ud, ud, ud, ud, ud, ud, ud, ud, ud, ud, ud, ud, ud, ud, ud, ud, ud, ud, ud, ud, ud, ud, ud, ud, ud, ud, ud, ud, ud, ud, ud, ud, ud, ud, ud, ud, ud, ud, ud, ud, ud, ud, ud, ud, ud, ud, ud, ud, ud, ud, ud, ud, ud, ud, ud, ud, ud, ud, ud, ud, ud, ud, ud, ud, ud, ud, ud, ud, ud, ud, ud, ud, ud, ud, ud, ud, ud, ud, ud, ud, ud, ud] σ
 (blockC 0 a58_7 (seqC G PP (pol 58) CC lo c58_46 a58_46 (finR PP Go.Proofs.Try.f58.results.toList)))
noncomputable def f58_L1 (G : GuardT) (lo : Nat) (x0 x3 x4 x5 x18 x19 x30 x31 : DV) (σ : Store) : Option (DV × Store) :=
 codeF G PP (pol 58) CC lo (.loop c58_26) a58_25 [x0, ud, ud, x3, x4, x5, ud, ud, ud, ud, ud, ud, ud, ud, ud, ud, ud, ud, x18, x19, ud, ud, ud, ud, ud, ud, ud, ud, ud, ud, x30, x31, ud, ud, ud, ud, ud, ud, ud, ud, ud, ud, ud, ud, ud, ud, ud, ud, ud, ud, ud, ud, ud, ud, ud, ud, ud, ud, ud, ud, ud, ud, ud, ud, ud, ud, ud, ud, ud, ud, ud, ud, ud, ud, ud, ud, ud, ud, ud, ud, ud, ud, ud, ud, ud, ud, ud, ud, ud, ud, ud, ud, ud, ud, ud, ud, ud, ud, ud, ud, ud, ud, ud, ud, ud, ud, ud, ud, ud, ud, ud, ud, ud, ud, ud, ud, ud] σ
 (blockC 2 a58_24 (seqC G PP (pol 58) CC lo c58_44 a58_44 (blockC 1 a58_16 (seqC G PP (pol 58) CC lo c58_45 a58_45 (loopC G PP (pol 58) CC lo c58_9 a58_8 (blockC 0 a58_7 (seqC G PP (pol 58) CC lo c58_46 a58_46 (finR PP Go.Proofs.Try.f58.results.toList))))))))
def f58_J0_fr (x0 x3 x4 x5 x6 x18 x19 x30 x31 x32 x33 x34 x35 x36 x37 x38 x39 x40 x41 x42 x43 x44 x45 x46 x47 x48 x49 x50 x51 x52 x53 x54 x55 x56 : DV) : Frame := [x0, ud, ud, x3, x4, x5, x6, ud, ud, ud, ud, ud, ud, ud, ud, ud, ud, ud, x18, x19, ud, ud, ud, ud, ud, ud, ud, ud, ud, ud, x30, x31, x32, x33, x34, x35, x36, x37, x38, x39, x40, x41, x42, x43, x44, x45, x46, x47, x48, x49, x50, x51, x52, x53, x54, x55, x56, ud, ud, ud, ud, ud, ud, ud, ud, ud, ud, ud, ud, ud, ud, ud, ud, ud, ud, ud, ud, ud, ud, ud, ud, ud, ud, ud, ud, ud, ud, ud, ud, ud, ud, ud, ud, ud, ud, ud, ud, ud, ud, ud, ud, ud, ud, ud, ud, ud, ud, ud, ud, ud, ud, ud, ud, ud, ud, ud, ud]
noncomputable def f58_J0 (G : GuardT) (lo : Nat) (x0 x3 x4 x5 x6 x18 x19 x30 x31 x32 x33 x34 x35 x36 x37 x38 x39 x40 x41 x42 x43 x44 x45 x46 x47 x48 x49 x50 x51 x52 x53 x54 x55 x56 : DV) (σ : Store) : Option (DV × Store) :=
 (blockC 3 a58_33 (seqC G PP (pol 58) CC lo c58_43 a58_43 (loopC G PP (pol 58) CC lo c58_26 a58_25 (blockC 2 a58_24 (seqC G PP (pol 58) CC lo c58_44 a58_44 (blockC 1 a58_16 (seqC G PP (pol 58) CC lo c58_45 a58_45 (loopC G PP (pol 58) CC lo c58_9 a58_8 (blockC 0 a58_7 (seqC G PP (pol 58) CC lo c58_46 a58_46 (finR PP Go.Proofs.Try.f58.results.toList))))))))))) .normal (f58_J0_fr x0 x3 x4 x5 x6 x18 x19 x30 x31 x32 x33 x34 x35 x36 x37 x38 x39 x40 x41 x42 x43 x44 x45 x46 x47 x48 x49 x50 x51 x52 x53 x54 x55 x56) σ
noncomputable def f58_L2 (G : GuardT) (lo : Nat) (x0 x3 x7 x8 : DV) (σ : Store) : Option (DV × Store) :=
 codeF G PP (pol 58) CC lo (.loop c58_51) a58_50 [x0, ud, ud, x3, ud, ud, ud, x7, x8, ud, ud, ud, ud, ud, ud, ud, ud, ud, ud, ud, ud, ud, ud, ud, ud, ud, ud, ud, ud, ud, ud, ud, ud, ud, ud, ud, ud, ud, ud, ud, ud, ud, ud, ud, ud, ud, ud, ud, ud, ud, ud, ud, ud, ud, ud, ud, ud, ud, ud, ud, ud, ud, ud, ud, ud, ud, ud, ud, ud, ud, ud, ud, ud, ud, ud, ud, ud, ud, ud, ud, ud, ud, ud, ud, ud, ud, ud, ud, ud, ud, ud, ud, ud, ud, ud, ud, ud, ud, ud, ud, ud, ud, ud, ud, ud, ud, ud, ud, ud, ud, ud, ud, ud, ud, ud, ud, ud] σ
 (blockC 4 a58_49 (seqC G PP (pol 58) CC lo c58_103 a58_103 (finR PP Go.Proofs.Try.f58.results.toList)))
noncomputable def f58_L3 (G : GuardT) (lo : Nat) (x0 x3 x7 x8 x9 x72 x73 x74 : DV) (σ : Store) : Option (DV × Store) :=
 codeF G PP (pol 58) CC lo (.loop c58_67) a58_66 [x0, ud, ud, x3, ud, ud, ud, x7, x8, x9, ud, ud, ud, ud, ud, ud, ud, ud, ud, ud, ud, ud, ud, ud, ud, ud, ud, ud, ud, ud, ud, ud, ud, ud, ud, ud, ud, ud, ud, ud, ud, ud, ud, ud, ud, ud, ud, ud, ud, ud, ud, ud, ud, ud, ud, ud, ud, ud, ud, ud, ud, ud, ud, ud, ud, ud, ud, ud, ud, ud, ud, ud, x72, x73, x74, ud, ud, ud, ud, ud, ud, ud, ud, ud, ud, ud, ud, ud, ud, ud, ud, ud, ud, ud, ud, ud, ud, ud, ud, ud, ud, ud, ud, ud, ud, ud, ud, ud, ud, ud, ud, ud, ud, ud, ud, ud, ud] σ
 (blockC 6 a58_65 (blockC 5 a58_58 (seqC G PP (pol 58) CC lo c58_98 a58_98 (loopC G PP (pol 58) CC lo c58_51 a58_50 (blockC 4 a58_49 (seqC G PP (pol 58) CC lo c58_103 a58_103 (finR PP Go.Proofs.Try.f58.results.toList)))))))
noncomputable def f58_L4 (G : GuardT) (lo : Nat) (x0 x3 x7 x8 x9 x11 x72 x73 x74 x83 x84 : DV) (σ : Store) : Option (DV × Store) :=
 codeF G PP (pol 58) CC lo (.loop c58_81) a58_80 [x0, ud, ud, x3, ud, ud, ud, x7, x8, x9, ud, x11, ud, ud, ud, ud, ud, ud, ud, ud, ud, ud, ud, ud, ud, ud, ud, ud, ud, ud, ud, ud, ud, ud, ud, ud, ud, ud, ud, ud, ud, ud, ud, ud, ud, ud, ud, ud, ud, ud, ud, ud, ud, ud, ud, ud, ud, ud, ud, ud, ud, ud, ud, ud, ud, ud, ud, ud, ud, ud, ud, ud, x72, x73, x74, ud, ud, ud, ud, ud, ud, ud, ud, x83, x84, ud, ud, ud, ud, ud, ud, ud, ud, ud, ud, ud, ud, ud, ud, ud, ud, ud, ud, ud, ud, ud, ud, ud, ud, ud, ud, ud, ud, ud, ud, ud, ud] σ
 (blockC 8 a58_79 (blockC 7 a58_74 (seqC G PP (pol 58) CC lo c58_97 a58_97 (loopC G PP (pol 58) CC lo c58_67 a58_66 (blockC 6 a58_65 (blockC 5 a58_58 (seqC G PP (pol 58) CC lo c58_98 a58_98 (loopC G PP (pol 58) CC lo c58_51 a58_50 (blockC 4 a58_49 (seqC G PP (pol 58) CC lo c58_103 a58_103 (finR PP Go.Proofs.Try.f58.results.toList)))))))))))
def f58_J1_fr (x0 x3 x7 x8 x9 x11 x12 x72 x73 x74 x83 x84 x85 x86 x87 x88 x89 x90 x91 x92 x93 x94 x95 x96 x97 x98 x99 x100 x101 x102 x103 x104 x105 x106 x107 x108 x109 x110 x111 x112 : DV) : Frame := [x0, ud, ud, x3, ud, ud, ud, x7, x8, x9, ud, x11, x12, ud, ud, ud, ud, ud, ud, ud, ud, ud, ud, ud, ud, ud, ud, ud, ud, ud, ud, ud, ud, ud, ud, ud, ud, ud, ud, ud, ud, ud, ud, ud, ud, ud, ud, ud, ud, ud, ud, ud, ud, ud, ud, ud, ud, ud, ud, ud, ud, ud, ud, ud, ud, ud, ud, ud, ud, ud, ud, ud, x72, x73, x74, ud, ud, ud, ud, ud, ud, ud, ud, x83, x84, x85, x86, x87, x88, x89, x90, x91, x92, x93, x94, x95, x96, x97, x98, x99, x100, x101, x102, x103, x104, x105, x106, x107, x108, x109, x110, x111, x112, ud, ud, ud, ud]
noncomputable def f58_J1 (G : GuardT) (lo : Nat) (x0 x3 x7 x8 x9 x11 x12 x72 x73 x74 x83 x84 x85 x86 x87 x88 x89 x90 x91 x92 x93 x94 x95 x96 x97 x98 x99 x100 x101 x102 x103 x104 x105 x106 x107 x108 x109 x110 x111 x112 : DV) (σ : Store) : Option (DV × Store) :=
 (blockC 9 a58_88 (seqC G PP (pol 58) CC lo c58_96 a58_96 (loopC G PP (pol 58) CC lo c58_81 a58_80 (blockC 8 a58_79 (blockC 7 a58_74 (seqC G PP (pol 58) CC lo c58_97 a58_97 (loopC G PP (pol 58) CC lo c58_67 a58_66 (blockC 6 a58_65 (blockC 5 a58_58 (seqC G PP (pol 58) CC lo c58_98 a58_98 (loopC G PP (pol 58) CC lo c58_51 a58_50 (blockC 4 a58_49 (seqC G PP (pol 58) CC lo c58_103 a58_103 (finR PP Go.Proofs.Try.f58.results.toList)))))))))))))) .normal (f58_J1_fr x0 x3 x7 x8 x9 x11 x12 x72 x73 x74 x83 x84 x85 x86 x87 x88 x89 x90 x91 x92 x93 x94 x95 x96 x97 x98 x99 x100 x101 x102 x103 x104 x105 x106 x107 x108 x109 x110 x111 x112) σ
noncomputable def F58 (G : GuardT) (lo : Nat) (x0 : DV) (σ : Store) : Option (DV × Store) :=
 codeF G PP (pol 58) CC lo c58_0 a58_0 [x0, ud, ud, ud, ud, ud, ud, ud, ud, ud, ud, ud, ud, ud, ud, ud, ud, ud, ud, ud, ud, ud, ud, ud, ud, ud, ud, ud, ud, ud, ud, ud, ud, ud, ud, ud, ud, ud, ud, ud, ud, ud, ud, ud, ud, ud, ud, ud, ud, ud, ud, ud, ud, ud, ud, ud, ud, ud, ud, ud, ud, ud, ud, ud, ud, ud, ud, ud, ud, ud, ud, ud, ud, ud, ud, ud, ud, ud, ud, ud, ud, ud, ud, ud, ud, ud, ud, ud, ud, ud, ud, ud, ud, ud, ud, ud, ud, ud, ud, ud, ud, ud, ud, ud, ud, ud, ud, ud, ud, ud, ud, ud, ud, ud, ud, ud, ud] σ (finR PP Go.Proofs.Try.f58.results.toList)
theorem f58_L0_eq (G : GuardT) (hG : GuardOk G) (lo : Nat) (x0 x3 x18 x19 : DV) (σ : Store) : f58_L0 G lo x0 x3 x18 x19 σ =
 (binOp PP .lss 3 x19 x18).bind fun x20 =>
 condK x20
 (
 (nilCheckV x0).bind fun x23 =>
 (fieldAddr PP 118 x23 0).bind fun x24 =>
 (fieldAddr PP 27 x24 1).bind fun x25 =>
 (fieldAddr PP 25 x25 0).bind fun x26 =>
 (load PP 3 x26 σ).bind fun x27 =>
 (makeSlice PP false 22 x27 x27 σ).bind fun r28_1 =>
 (len PP 22 r28_1.1 r28_1.2).bind fun x30 =>
 f58_L1 G lo x0 x3 x19 r28_1.1 x18 x19 x30 (DV.p (PV.int IntKind.i64 (0))) r28_1.2
 )
 (
 (zeroOf PP 3).bind fun z7 =>
 (store PP lo 3 (DV.ptr (List.length σ) 0) (DV.p (PV.int IntKind.i64 (1))) (σ ++ [Row.mix z7])).bind fun σ7 =>
 f58_L2 G lo x0 x3 (DV.ptr (List.length σ) 0) (DV.p (PV.bool true)) σ7
 ) := (loopF_eq G hG).trans (by kernel_rfl)
theorem f58_L1_eq (G : GuardT) (hG : GuardOk G) (lo : Nat) (x0 x3 x4 x5 x18 x19 x30 x31 : DV) (σ : Store) : f58_L1 G lo x0 x3 x4 x5 x18 x19 x30 x31 σ =
 (binOp PP .lss 3 x31 x30).bind fun x32 =>
 condK x32
 (
 (indexAddr PP 22 x5 x31).bind fun x36 =>
 (store PP lo 3 x36 (DV.p (PV.int IntKind.i64 (-1))) σ).bind fun σ2 =>
 (nilCheckV x0).bind fun x38 =>
 (fieldAddr PP 118 x38 0).bind fun x39 =>
 (fieldAddr PP 27 x39 2).bind fun x40 =>
 (load PP 22 x40 σ2).bind fun x41 =>
 (indexAddr PP 22 x41 x4).bind fun x43 =>
 (load PP 3 x43 σ2).bind fun x44 =>
 (nilCheckV x0).bind fun x46 =>
 (fieldAddr PP 118 x46 0).bind fun x47 =>
 (fieldAddr PP 27 x47 3).bind fun x48 =>
 (load PP 22 x48 σ2).bind fun x49 =>
 (indexAddr PP 22 x49 x31).bind fun x51 =>
 (load PP 3 x51 σ2).bind fun x52 =>
 (binOp PP .neq 3 x44 x52).bind fun x53 =>
 condK x53
 (
 (indexAddr PP 22 x5 x31).bind fun x56 =>
 (store PP lo 3 x56 (DV.p (PV.int IntKind.i64 (0))) σ2).bind fun σ3 =>
 f58_J0 G lo x0 x3 x4 x5 x31 x18 x19 x30 x31 x32 x31 x5 x31 x36 x0 x38 x39 x40 x41 x4 x43 x44 x0 x46 x47 x48 x49 x31 x51 x52 x53 x5 x31 x56 σ3
 )
 (
 f58_J0 G lo x0 x3 x4 x5 x31 x18 x19 x30 x31 x32 x31 x5 x31 x36 x0 x38 x39 x40 x41 x4 x43 x44 x0 x46 x47 x48 x49 x31 x51 x52 x53 ud ud ud σ2
 )
 )
 (
 (load PP 101 x3 σ).bind fun x58 =>
 (buildSlice PP (some true) 101 1 [(0, x5)] σ).bind fun r60_4 =>
 (append PP lo true 101 101 x58 r60_4.1 r60_4.2).bind fun r61_5 =>
 (store PP lo 101 x3 r61_5.1 r61_5.2).bind fun σ6 =>
 (binOp PP .add 3 x19 (DV.p (PV.int IntKind.i64 (1)))).bind fun x62 =>
 f58_L0 G lo x0 x3 x18 x62 σ6
 ) := (loopF_eq G hG).trans (by kernel_rfl)
theorem f58_J0_eq (G : GuardT) (lo : Nat) (x0 x3 x4 x5 x6 x18 x19 x30 x31 x32 x33 x34 x35 x36 x37 x38 x39 x40 x41 x42 x43 x44 x45 x46 x47 x48 x49 x50 x51 x52 x53 x54 x55 x56 : DV) (σ : Store) : f58_J0 G lo x0 x3 x4 x5 x6 x18 x19 x30 x31 x32 x33 x34 x35 x36 x37 x38 x39 x40 x41 x42 x43 x44 x45 x46 x47 x48 x49 x50 x51 x52 x53 x54 x55 x56 σ =
 (binOp PP .add 3 x31 (DV.p (PV.int IntKind.i64 (1)))).bind fun x57 =>
 f58_L1 G lo x0 x3 x4 x5 x18 x19 x30 x57 σ := by kernel_rfl
theorem f58_L2_eq (G : GuardT) (hG : GuardOk G) (lo : Nat) (x0 x3 x7 x8 : DV) (σ : Store) : f58_L2 G lo x0 x3 x7 x8 σ =
 condK x8
 (
 (nilCheckV x0).bind fun x68 =>
 (fieldAddr PP 118 x68 0).bind fun x69 =>
 (fieldAddr PP 27 x69 0).bind fun x70 =>
 (fieldAddr PP 25 x70 2).bind fun x71 =>
 (load PP 23 x71 σ).bind fun x72 =>
 (len PP 23 x72 σ).bind fun x73 =>
 f58_L3 G lo x0 x3 x7 (DV.p (PV.bool false)) (DV.fn 86 [x3, x7]) x72 x73 (DV.p (PV.int IntKind.i64 (0))) σ
 )
 (
 (load PP 101 x3 σ).bind fun x116 =>
 some (x116, σ)
 ) := (loopF_eq G hG).trans (by kernel_rfl)
theorem f58_L3_eq (G : GuardT) (hG : GuardOk G) (lo : Nat) (x0 x3 x7 x8 x9 x72 x73 x74 : DV) (σ : Store) : f58_L3 G lo x0 x3 x7 x8 x9 x72 x73 x74 σ =
 (binOp PP .lss 3 x74 x73).bind fun x75 =>
 condK x75
 (
 (indexAddr PP 23 x72 x74).bind fun x76 =>
 (load PP 100 x76 σ).bind fun x77 =>
 (zeroOf PP 100).bind fun z11 =>
 (store PP lo 100 (DV.ptr (List.length σ) 0) x77 (σ ++ [Row.mix z11])).bind fun σ8 =>
 (nilCheckV x0).bind fun x79 =>
 (fieldAddr PP 118 x79 0).bind fun x80 =>
 (fieldAddr PP 27 x80 1).bind fun x81 =>
 (fieldAddr PP 25 x81 0).bind fun x82 =>
 (load PP 3 x82 σ8).bind fun x83 =>
 f58_L4 G lo x0 x3 x7 x8 x9 (DV.ptr (List.length σ) 0) x72 x73 x74 x83 (DV.p (PV.int IntKind.i64 (0))) σ8
 )
 (
 (load PP 3 x7 σ).bind fun x115 =>
 (zeroOf PP 3).bind fun z7 =>
 (store PP lo 3 (DV.ptr (List.length σ) 0) x115 (σ ++ [Row.mix z7])).bind fun σ17 =>
 (load PP 3 (DV.ptr (List.length σ) 0) σ17).bind fun x64 =>
 (binOp PP .add 3 x64 (DV.p (PV.int IntKind.i64 (1)))).bind fun x65 =>
 (store PP lo 3 (DV.ptr (List.length σ) 0) x65 σ17).bind fun σ18 =>
 f58_L2 G lo x0 x3 (DV.ptr (List.length σ) 0) x8 σ18
 ) := (loopF_eq G hG).trans (by kernel_rfl)
theorem f58_L4_eq (G : GuardT) (hG : GuardOk G) (lo : Nat) (x0 x3 x7 x8 x9 x11 x72 x73 x74 x83 x84 : DV) (σ : Store) : f58_L4 G lo x0 x3 x7 x8 x9 x11 x72 x73 x74 x83 x84 σ =
 (binOp PP .lss 3 x84 x83).bind fun x85 =>
 condK x85
 (
 (load PP 101 x3 σ).bind fun x87 =>
 (fieldAddr PP 100 x11 0).bind fun x88 =>
 (load PP 3 x88 σ).bind fun x89 =>
 (indexAddr PP 101 x87 x89).bind fun x90 =>
 (load PP 22 x90 σ).bind fun x91 =>
 (indexAddr PP 22 x91 x84).bind fun x93 =>
 (load PP 3 x93 σ).bind fun x94 =>
 (binOp PP .eql 3 x94 (DV.p (PV.int IntKind.i64 (-1)))).bind fun x95 =>
 G _ x95 true (some (x0, σ)) σ fun x97 σ9 =>
 G _ x95 true ((fieldAddr PP 100 x11 1).bind fun v => some (v, σ9)) σ9 fun x98 σ10 =>
 G _ x95 true ((load PP 3 x98 σ10).bind fun v => some (v, σ10)) σ10 fun x99 σ11 =>
 G _ x95 true (some (x84, σ11)) σ11 fun x100 σ12 =>
 G _ x95 true (some (x9, σ12)) σ12 fun x101 σ13 =>
 G _ x95 true ((pureFn CC (DV.fn 66 []) [x97, x99, x100, x101] σ13).bind fun v => some (v, σ13)) σ13 fun x102 σ14 =>
 G _ x95 true ((unOp .not x102).bind fun v => some (v, σ14)) σ14 fun x103 σ15 =>
 (pickV x95 x103 (DV.p (PV.bool false))).bind fun x104 =>
 condK x104
 (
 (load PP 101 x3 σ15).bind fun x105 =>
 (fieldAddr PP 100 x11 0).bind fun x106 =>
 (load PP 3 x106 σ15).bind fun x107 =>
 (indexAddr PP 101 x105 x107).bind fun x108 =>
 (load PP 22 x108 σ15).bind fun x109 =>
 (load PP 3 x7 σ15).bind fun x111 =>
 (indexAddr PP 22 x109 x84).bind fun x112 =>
 (store PP lo 3 x112 x111 σ15).bind fun σ16 =>
 f58_J1 G lo x0 x3 x7 (DV.p (PV.bool true)) x9 x11 x84 x72 x73 x74 x83 x84 x85 x84 x87 x88 x89 x90 x91 x84 x93 x94 x95 x95 x97 x98 x99 x100 x101 x102 x103 x104 x105 x106 x107 x108 x109 x84 x111 x112 σ16
 )
 (
 f58_J1 G lo x0 x3 x7 x8 x9 x11 x84 x72 x73 x74 x83 x84 x85 x84 x87 x88 x89 x90 x91 x84 x93 x94 x95 x95 x97 x98 x99 x100 x101 x102 x103 x104 ud ud ud ud ud ud ud ud σ15
 )
 )
 (
 (binOp PP .add 3 x74 (DV.p (PV.int IntKind.i64 (1)))).bind fun x114 =>
 f58_L3 G lo x0 x3 x7 x8 x9 x72 x73 x114 σ
 ) := (loopF_eq G hG).trans (by kernel_rfl)
theorem f58_J1_eq (G : GuardT) (lo : Nat) (x0 x3 x7 x8 x9 x11 x12 x72 x73 x74 x83 x84 x85 x86 x87 x88 x89 x90 x91 x92 x93 x94 x95 x96 x97 x98 x99 x100 x101 x102 x103 x104 x105 x106 x107 x108 x109 x110 x111 x112 : DV) (σ : Store) : f58_J1 G lo x0 x3 x7 x8 x9 x11 x12 x72 x73 x74 x83 x84 x85 x86 x87 x88 x89 x90 x91 x92 x93 x94 x95 x96 x97 x98 x99 x100 x101 x102 x103 x104 x105 x106 x107 x108 x109 x110 x111 x112 σ =
 (binOp PP .add 3 x84 (DV.p (PV.int IntKind.i64 (1)))).bind fun x113 =>
 f58_L4 G lo x0 x3 x7 x8 x9 x11 x72 x73 x74 x83 x113 σ := by kernel_rfl
theorem F58_eq (G : GuardT) (lo : Nat) (x0 : DV) (σ : Store) : F58 G lo x0 σ =
 (zeroOf PP 101).bind fun z3 =>
 (nilCheckV x0).bind fun x14 =>
 (fieldAddr PP 118 x14 0).bind fun x15 =>
 (fieldAddr PP 27 x15 0).bind fun x16 =>
 (fieldAddr PP 25 x16 0).bind fun x17 =>
 (load PP 3 x17 (σ ++ [Row.mix z3])).bind fun x18 =>
 f58_L0 G lo x0 (DV.ptr (List.length σ) 0) x18 (DV.p (PV.int IntKind.i64 (0))) (σ ++ [Row.mix z3]) := by kernel_rfl
theorem F58_call {lo : Nat} {x0 : DV} {σ : Store} {r : DV × Store} (h : F58 guardT lo x0 σ = some r) : CC lo 58 [x0] σ = some r :=
 callL_run Go.Proofs.Try.func58 (by decide +kernel) rfl (by decide +kernel) h
noncomputable def c24_0 : Code := bodyOf Go.Proofs.Try.f24
noncomputable def a24_0 : Ann := (pol 24).ann
noncomputable def a24_17 : Ann := right (left (right (right (right a24_0))))
noncomputable def a24_18 : Ann := left a24_17
noncomputable def c24_19 : Code := fstC (fstC (sndC (fstC (sndC (sndC (sndC c24_0))))))
noncomputable def a24_26 : Ann := left (right (right (left a24_18)))
noncomputable def a24_31 : Ann := right (right (left a24_26))
noncomputable def a24_32 : Ann := left a24_31
noncomputable def c24_33 : Code := fstC (fstC (sndC (sndC (fstC (fstC (sndC (sndC c24_19)))))))
noncomputable def a24_40 : Ann := left (right (right (left a24_32)))
noncomputable def c24_48 : Code := sndC (sndC (sndC c24_33))
noncomputable def a24_48 : Ann := right (right (right (left a24_32)))
noncomputable def c24_49 : Code := sndC (sndC (sndC c24_19))
noncomputable def a24_49 : Ann := right (right (right (left a24_18)))
noncomputable def c24_50 : Code := sndC (sndC (sndC (sndC c24_0)))
noncomputable def a24_50 : Ann := right (right (right (right a24_0)))
noncomputable def f24_L0 (G : GuardT) (lo : Nat) (x5 x17 x18 x19 : DV) (σ : Store) : Option (DV × Store) :=
 codeF G PP (pol 24) CC lo (.loop c24_19) a24_18 [ud, ud, ud, ud, ud, x5, ud, ud, ud, ud, ud, ud, ud, ud, ud, ud, ud, x17, x18, x19, ud, ud, ud, ud, ud, ud, ud, ud, ud, ud, ud, ud, ud, ud, ud, ud, ud, ud, ud, ud, ud, ud] σ
 (blockC 0 a24_17 (seqC G PP (pol 24) CC lo c24_50 a24_50 (finR PP Go.Proofs.Try.f24.results.toList)))
noncomputable def f24_L1 (G : GuardT) (lo : Nat) (x5 x6 x17 x18 x19 x24 x25 x26 : DV) (σ : Store) : Option (DV × Store) :=
 codeF G PP (pol 24) CC lo (.loop c24_33) a24_32 [ud, ud, ud, ud, ud, x5, x6, ud, ud, ud, ud, ud, ud, ud, ud, ud, ud, x17, x18, x19, ud, ud, ud, ud, x24, x25, x26, ud, ud, ud, ud, ud, ud, ud, ud, ud, ud, ud, ud, ud, ud, ud] σ
 (blockC 2 a24_31 (blockC 1 a24_26 (seqC G PP (pol 24) CC lo c24_49 a24_49 (loopC G PP (pol 24) CC lo c24_19 a24_18 (blockC 0 a24_17 (seqC G PP (pol 24) CC lo c24_50 a24_50 (finR PP Go.Proofs.Try.f24.results.toList)))))))
def f24_J0_fr (x5 x6 x8 x9 x17 x18 x19 x24 x25 x26 x27 x28 x29 x30 x31 x32 x33 x34 x35 x36 x37 x38 : DV) : Frame := [ud, ud, ud, ud, ud, x5, x6, ud, x8, x9, ud, ud, ud, ud, ud, ud, ud, x17, x18, x19, ud, ud, ud, ud, x24, x25, x26, x27, x28, x29, x30, x31, x32, x33, x34, x35, x36, x37, x38, ud, ud, ud]
noncomputable def f24_J0 (G : GuardT) (lo : Nat) (x5 x6 x8 x9 x17 x18 x19 x24 x25 x26 x27 x28 x29 x30 x31 x32 x33 x34 x35 x36 x37 x38 : DV) (σ : Store) : Option (DV × Store) :=
 (blockC 3 a24_40 (seqC G PP (pol 24) CC lo c24_48 a24_48 (loopC G PP (pol 24) CC lo c24_33 a24_32 (blockC 2 a24_31 (blockC 1 a24_26 (seqC G PP (pol 24) CC lo c24_49 a24_49 (loopC G PP (pol 24) CC lo c24_19 a24_18 (blockC 0 a24_17 (seqC G PP (pol 24) CC lo c24_50 a24_50 (finR PP Go.Proofs.Try.f24.results.toList)))))))))) .normal (f24_J0_fr x5 x6 x8 x9 x17 x18 x19 x24 x25 x26 x27 x28 x29 x30 x31 x32 x33 x34 x35 x36 x37 x38) σ
noncomputable def F24 (G : GuardT) (lo : Nat) (x0 : DV) (σ : Store) : Option (DV × Store) :=
 codeF G PP (pol 24) CC lo c24_0 a24_0 [x0, ud, ud, ud, ud, ud, ud, ud, ud, ud, ud, ud, ud, ud, ud, ud, ud, ud, ud, ud, ud, ud, ud, ud, ud, ud, ud, ud, ud, ud, ud, ud, ud, ud, ud, ud, ud, ud, ud, ud, ud, ud] σ (finR PP Go.Proofs.Try.f24.results.toList)
theorem f24_L0_eq (G : GuardT) (hG : GuardOk G) (lo : Nat) (x5 x17 x18 x19 : DV) (σ : Store) : f24_L0 G lo x5 x17 x18 x19 σ =
 (binOp PP .lss 3 x19 x18).bind fun x20 =>
 condK x20
 (
 (indexAddr PP 101 x17 x19).bind fun x22 =>
 (load PP 22 x22 σ).bind fun x23 =>
 (len PP 22 x23 σ).bind fun x25 =>
 f24_L1 G lo x5 x19 x17 x18 x19 x23 x25 (DV.p (PV.int IntKind.i64 (0))) σ
 )
 (
 some ((DV.tuple [x5, (DV.p (PV.int IntKind.i64 (0)))]), σ)
 ) := (loopF_eq G hG).trans (by kernel_rfl)
theorem f24_L1_eq (G : GuardT) (hG : GuardOk G) (lo : Nat) (x5 x6 x17 x18 x19 x24 x25 x26 : DV) (σ : Store) : f24_L1 G lo x5 x6 x17 x18 x19 x24 x25 x26 σ =
 (binOp PP .lss 3 x26 x25).bind fun x27 =>
 condK x27
 (
 (indexAddr PP 22 x24 x26).bind fun x29 =>
 (load PP 3 x29 σ).bind fun x30 =>
 (binOp PP .eql 3 x30 (DV.p (PV.int IntKind.i64 (-1)))).bind fun x32 =>
 condK x32
 (
 (buildSlice PP none 22 2 [(0, x6), (1, x26)] σ).bind fun r36_1 =>
 (buildSlice PP none 51 1 [(0, r36_1.1)] r36_1.2).bind fun r37_2 =>
 (append PP lo false 51 51 x5 r37_2.1 r37_2.2).bind fun r38_3 =>
 f24_J0 G lo r38_3.1 x6 x26 x30 x17 x18 x19 x24 x25 x26 x27 x26 x29 x30 x30 x32 x5 x6 x26 r36_1.1 r37_2.1 r38_3.1 r38_3.2
 )
 (
 f24_J0 G lo x5 x6 x26 x30 x17 x18 x19 x24 x25 x26 x27 x26 x29 x30 x30 x32 ud ud ud ud ud ud σ
 )
 )
 (
 (binOp PP .add 3 x19 (DV.p (PV.int IntKind.i64 (1)))).bind fun x40 =>
 f24_L0 G lo x5 x17 x18 x40 σ
 ) := (loopF_eq G hG).trans (by kernel_rfl)
theorem f24_J0_eq (G : GuardT) (lo : Nat) (x5 x6 x8 x9 x17 x18 x19 x24 x25 x26 x27 x28 x29 x30 x31 x32 x33 x34 x35 x36 x37 x38 : DV) (σ : Store) : f24_J0 G lo x5 x6 x8 x9 x17 x18 x19 x24 x25 x26 x27 x28 x29 x30 x31 x32 x33 x34 x35 x36 x37 x38 σ =
 (binOp PP .add 3 x26 (DV.p (PV.int IntKind.i64 (1)))).bind fun x39 =>
 f24_L1 G lo x5 x6 x17 x18 x19 x24 x25 x39 σ := by kernel_rfl
theorem F24_eq (G : GuardT) (lo : Nat) (x0 : DV) (σ : Store) : F24 G lo x0 σ =
 (boxV x0).bind fun z1 =>
 (load PP 27 (DV.ptr (List.length σ) 0) (σ ++ [Row.mix z1])).bind fun x10 =>
 (pureFn CC (DV.fn 41 []) [x10] (σ ++ [Row.mix z1])).bind fun x11 =>
 (binOp PP .neq 30 x11 (DV.p (PV.int IntKind.i64 (0)))).bind fun x13 =>
 condK x13
 (
 some ((DV.tuple [(DV.p PV.nilsl), x11]), (σ ++ [Row.mix z1]))
 )
 (
 (load PP 27 (DV.ptr (List.length σ) 0) (σ ++ [Row.mix z1])).bind fun x15 =>
 (pureFn CC (DV.fn 43 []) [x15] (σ ++ [Row.mix z1])).bind fun x16 =>
 (pureFn CC (DV.fn 58 []) [x16] (σ ++ [Row.mix z1])).bind fun x17 =>
 (len PP 101 x17 (σ ++ [Row.mix z1])).bind fun x18 =>
 f24_L0 G lo (DV.p PV.nilsl) x17 x18 (DV.p (PV.int IntKind.i64 (0))) (σ ++ [Row.mix z1])
 ) := by kernel_rfl
theorem F24_call {lo : Nat} {x0 : DV} {σ : Store} {r : DV × Store} (h : F24 guardT lo x0 σ = some r) : CC lo 24 [x0] σ = some r :=
 callL_run Go.Proofs.Try.func24 (by decide +kernel) rfl (by decide +kernel) h
noncomputable def c61_0 : Code := bodyOf Go.Proofs.Try.f61
noncomputable def a61_0 : Ann := (pol 61).ann
noncomputable def a61_7 : Ann := right (left (right (right a61_0)))
noncomputable def a61_8 : Ann := left a61_7
noncomputable def c61_9 : Code := fstC (fstC (sndC (fstC (sndC (sndC c61_0)))))
noncomputable def a61_16 : Ann := left (right (left a61_8))
noncomputable def a61_19 : Ann := right (left a61_16)
noncomputable def a61_20 : Ann := left a61_19
noncomputable def c61_21 : Code := fstC (fstC (sndC (fstC (fstC (sndC c61_9)))))
noncomputable def c61_31 : Code := sndC (sndC c61_9)
noncomputable def a61_31 : Ann := right (right (left a61_8))
noncomputable def c61_32 : Code := sndC (sndC (sndC c61_0))
noncomputable def a61_32 : Ann := right (right (right a61_0))
noncomputable def f61_L0 (G : GuardT) (lo : Nat) (x1 x3 x4 : DV) (σ : Store) : Option (DV × Store) :=
 codeF G PP (pol 61) CC lo (.loop c61_9) a61_8 [ud, x1, ud, x3, x4, ud, ud, ud, ud, ud, ud, ud, ud, ud, ud, ud, ud, ud, ud, ud, ud, ud, ud, ud, ud, ud, ud] σ
 (blockC 0 a61_7 (seqC G PP (pol 61) CC lo c61_32 a61_32 (finR PP Go.Proofs.Try.f61.results.toList)))
noncomputable def f61_L1 (G : GuardT) (lo : Nat) (x1 x3 x4 x5 : DV) (σ : Store) : Option (DV × Store) :=
 codeF G PP (pol 61) CC lo (.loop c61_21) a61_20 [ud, x1, ud, x3, x4, x5, ud, ud, ud, ud, ud, ud, ud, ud, ud, ud, ud, ud, ud, ud, ud, ud, ud, ud, ud, ud, ud] σ
 (blockC 2 a61_19 (blockC 1 a61_16 (seqC G PP (pol 61) CC lo c61_31 a61_31 (loopC G PP (pol 61) CC lo c61_9 a61_8 (blockC 0 a61_7 (seqC G PP (pol 61) CC lo c61_32 a61_32 (finR PP Go.Proofs.Try.f61.results.toList)))))))
noncomputable def F61 (G : GuardT) (lo : Nat) (x0 : DV) (σ : Store) : Option (DV × Store) :=
 codeF G PP (pol 61) CC lo c61_0 a61_0 [x0, ud, ud, ud, ud, ud, ud, ud, ud, ud, ud, ud, ud, ud, ud, ud, ud, ud, ud, ud, ud, ud, ud, ud, ud, ud, ud] σ (finR PP Go.Proofs.Try.f61.results.toList)
theorem f61_L0_eq (G : GuardT) (hG : GuardOk G) (lo : Nat) (x1 x3 x4 : DV) (σ : Store) : f61_L0 G lo x1 x3 x4 σ =
 (fieldAddr PP 27 x1 0).bind fun x7 =>
 (fieldAddr PP 25 x7 0).bind fun x8 =>
 (load PP 3 x8 σ).bind fun x9 =>
 (binOp PP .lss 3 x4 x9).bind fun x10 =>
 condK x10
 (
 f61_L1 G lo x1 x3 x4 (DV.p (PV.int IntKind.i64 (0))) σ
 )
 (
 some (x3, σ)
 ) := (loopF_eq G hG).trans (by kernel_rfl)
theorem f61_L1_eq (G : GuardT) (hG : GuardOk G) (lo : Nat) (x1 x3 x4 x5 : DV) (σ : Store) : f61_L1 G lo x1 x3 x4 x5 σ =
 (fieldAddr PP 27 x1 1).bind fun x14 =>
 (fieldAddr PP 25 x14 0).bind fun x15 =>
 (load PP 3 x15 σ).bind fun x16 =>
 (binOp PP .lss 3 x5 x16).bind fun x17 =>
 condK x17
 (
 (buildSlice PP none 22 2 [(0, x4), (1, x5)] σ).bind fun r23_1 =>
 (buildSlice PP none 51 1 [(0, r23_1.1)] r23_1.2).bind fun r24_2 =>
 (append PP lo false 51 51 x3 r24_2.1 r24_2.2).bind fun r25_3 =>
 (binOp PP .add 3 x5 (DV.p (PV.int IntKind.i64 (1)))).bind fun x19 =>
 f61_L1 G lo x1 r25_3.1 x4 x19 r25_3.2
 )
 (
 (binOp PP .add 3 x4 (DV.p (PV.int IntKind.i64 (1)))).bind fun x12 =>
 f61_L0 G lo x1 x3 x12 σ
 ) := (loopF_eq G hG).trans (by kernel_rfl)
theorem F61_eq (G : GuardT) (lo : Nat) (x0 : DV) (σ : Store) : F61 G lo x0 σ =
 (boxV x0).bind fun z1 =>
 f61_L0 G lo (DV.ptr (List.length σ) 0) (DV.p PV.nilsl) (DV.p (PV.int IntKind.i64 (0))) (σ ++ [Row.mix z1]) := by kernel_rfl
theorem F61_call {lo : Nat} {x0 : DV} {σ : Store} {r : DV × Store} (h : F61 guardT lo x0 σ = some r) : CC lo 61 [x0] σ = some r :=
 callL_run Go.Proofs.Try.func61 (by decide +kernel) rfl (by decide +kernel) h
noncomputable def c28_0 : Code := bodyOf Go.Proofs.Try.f28
noncomputable def a28_0 : Ann := (pol 28).ann
noncomputable def a28_4 : Ann := right (right a28_0)
noncomputable def a28_5 : Ann := left a28_4
noncomputable def c28_6 : Code := fstC (fstC (sndC (sndC c28_0)))
noncomputable def a28_6 : Ann := left a28_5
noncomputable def a28_12 : Ann := right (left (right (left a28_6)))
noncomputable def a28_13 : Ann := left a28_12
noncomputable def c28_14 : Code := fstC (fstC (sndC (fstC (sndC (fstC c28_6)))))
noncomputable def a28_21 : Ann := left (right (left a28_13))
noncomputable def c28_27 : Code := sndC (sndC c28_14)
noncomputable def a28_27 : Ann := right (right (left a28_13))
noncomputable def c28_28 : Code := sndC (sndC (fstC c28_6))
noncomputable def a28_28 : Ann := right (right (left a28_6))
noncomputable def f28_L0 (G : GuardT) (lo : Nat) (x1 x3 : DV) (σ : Store) : Option (DV × Store) :=
 codeF G PP (pol 28) CC lo (.loop c28_6) a28_5 [ud, x1, ud, x3, ud, ud, ud, ud, ud, ud, ud, ud, ud, ud, ud, ud, ud, ud, ud, ud, ud, ud, ud, ud, ud, ud, ud, ud, ud, ud, ud, ud, ud, ud, ud, ud, ud, ud, ud, ud, ud, ud, ud] σ
 (blockC 0 a28_4 (finR PP Go.Proofs.Try.f28.results.toList))
noncomputable def f28_L1 (G : GuardT) (lo : Nat) (x1 x3 x4 x5 : DV) (σ : Store) : Option (DV × Store) :=
 codeF G PP (pol 28) CC lo (.loop c28_14) a28_13 [ud, x1, ud, x3, x4, x5, ud, ud, ud, ud, ud, ud, ud, ud, ud, ud, ud, ud, ud, ud, ud, ud, ud, ud, ud, ud, ud, ud, ud, ud, ud, ud, ud, ud, ud, ud, ud, ud, ud, ud, ud, ud, ud] σ
 (blockC 2 a28_12 (seqC G PP (pol 28) CC lo c28_28 a28_28 (blockC 1 a28_6 (loopC G PP (pol 28) CC lo c28_6 a28_5 (blockC 0 a28_4 (finR PP Go.Proofs.Try.f28.results.toList))))))
def f28_J0_fr (x1 x3 x4 x5 x8 x9 x10 x11 x14 x15 x16 x17 x18 x19 x20 x21 x22 x23 x24 x25 x26 x27 x28 x29 x30 x31 x32 x33 x34 x35 : DV) : Frame := [ud, x1, ud, x3, x4, x5, ud, ud, x8, x9, x10, x11, ud, ud, x14, x15, x16, x17, x18, x19, x20, x21, x22, x23, x24, x25, x26, x27, x28, x29, x30, x31, x32, x33, x34, x35, ud, ud, ud, ud, ud, ud, ud]
noncomputable def f28_J0 (G : GuardT) (lo : Nat) (x1 x3 x4 x5 x8 x9 x10 x11 x14 x15 x16 x17 x18 x19 x20 x21 x22 x23 x24 x25 x26 x27 x28 x29 x30 x31 x32 x33 x34 x35 : DV) (σ : Store) : Option (DV × Store) :=
 (blockC 3 a28_21 (seqC G PP (pol 28) CC lo c28_27 a28_27 (loopC G PP (pol 28) CC lo c28_14 a28_13 (blockC 2 a28_12 (seqC G PP (pol 28) CC lo c28_28 a28_28 (blockC 1 a28_6 (loopC G PP (pol 28) CC lo c28_6 a28_5 (blockC 0 a28_4 (finR PP Go.Proofs.Try.f28.results.toList))))))))) .normal (f28_J0_fr x1 x3 x4 x5 x8 x9 x10 x11 x14 x15 x16 x17 x18 x19 x20 x21 x22 x23 x24 x25 x26 x27 x28 x29 x30 x31 x32 x33 x34 x35) σ
noncomputable def F28 (G : GuardT) (lo : Nat) (x0 : DV) (σ : Store) : Option (DV × Store) :=
 codeF G PP (pol 28) CC lo c28_0 a28_0 [x0, ud, ud, ud, ud, ud, ud, ud, ud, ud, ud, ud, ud, ud, ud, ud, ud, ud, ud, ud, ud, ud, ud, ud, ud, ud, ud, ud, ud, ud, ud, ud, ud, ud, ud, ud, ud, ud, ud, ud, ud, ud, ud] σ (finR PP Go.Proofs.Try.f28.results.toList)
theorem f28_L0_eq (G : GuardT) (hG : GuardOk G) (lo : Nat) (x1 x3 : DV) (σ : Store) : f28_L0 G lo x1 x3 σ =
 f28_L1 G lo x1 x3 (DV.p PV.nilsl) (DV.p (PV.int IntKind.i64 (0))) σ := (loopF_eq G hG).trans (by kernel_rfl)
theorem f28_L1_eq (G : GuardT) (hG : GuardOk G) (lo : Nat) (x1 x3 x4 x5 : DV) (σ : Store) : f28_L1 G lo x1 x3 x4 x5 σ =
 (len PP 51 x3 σ).bind fun x10 =>
 (binOp PP .lss 3 x5 x10).bind fun x11 =>
 condK x11
 (
 (load PP 27 x1 σ).bind fun x14 =>
 (indexAddr PP 51 x3 x5).bind fun x18 =>
 (load PP 22 x18 σ).bind fun x19 =>
 (indexAddr PP 22 x19 (DV.p (PV.int IntKind.i64 (0)))).bind fun x20 =>
 (load PP 3 x20 σ).bind fun x21 =>
 (indexAddr PP 51 x3 x5).bind fun x24 =>
 (load PP 22 x24 σ).bind fun x25 =>
 (indexAddr PP 22 x25 (DV.p (PV.int IntKind.i64 (1)))).bind fun x26 =>
 (load PP 3 x26 σ).bind fun x27 =>
 (pureFn CC (DV.fn 62 []) [x14, x3, x21, x27] σ).bind fun x28 =>
 condK x28
 (
 (indexAddr PP 51 x3 x5).bind fun x32 =>
 (load PP 22 x32 σ).bind fun x33 =>
 (buildSlice PP none 51 1 [(0, x33)] σ).bind fun r34_1 =>
 (append PP lo false 51 51 x4 r34_1.1 r34_1.2).bind fun r35_2 =>
 f28_J0 G lo x1 x3 r35_2.1 x5 x5 x3 x10 x11 x14 x3 x3 x5 x18 x19 x20 x21 x3 x5 x24 x25 x26 x27 x28 x4 x3 x5 x32 x33 r34_1.1 r35_2.1 r35_2.2
 )
 (
 f28_J0 G lo x1 x3 x4 x5 x5 x3 x10 x11 x14 x3 x3 x5 x18 x19 x20 x21 x3 x5 x24 x25 x26 x27 x28 ud ud ud ud ud ud ud σ
 )
 )
 (
 (len PP 51 x4 σ).bind fun x37 =>
 (len PP 51 x3 σ).bind fun x39 =>
 (binOp PP .eql 3 x37 x39).bind fun x40 =>
 condK x40
 (
 some (x3, σ)
 )
 (
 f28_L0 G lo x1 x4 σ
 )
 ) := (loopF_eq G hG).trans (by kernel_rfl)
theorem f28_J0_eq (G : GuardT) (lo : Nat) (x1 x3 x4 x5 x8 x9 x10 x11 x14 x15 x16 x17 x18 x19 x20 x21 x22 x23 x24 x25 x26 x27 x28 x29 x30 x31 x32 x33 x34 x35 : DV) (σ : Store) : f28_J0 G lo x1 x3 x4 x5 x8 x9 x10 x11 x14 x15 x16 x17 x18 x19 x20 x21 x22 x23 x24 x25 x26 x27 x28 x29 x30 x31 x32 x33 x34 x35 σ =
 (binOp PP .add 3 x5 (DV.p (PV.int IntKind.i64 (1)))).bind fun x13 =>
 f28_L1 G lo x1 x3 x4 x13 σ := by kernel_rfl
theorem F28_eq (G : GuardT) (lo : Nat) (x0 : DV) (σ : Store) : F28 G lo x0 σ =
 (boxV x0).bind fun z1 =>
 (load PP 27 (DV.ptr (List.length σ) 0) (σ ++ [Row.mix z1])).bind fun x6 =>
 (pureFn CC (DV.fn 61 []) [x6] (σ ++ [Row.mix z1])).bind fun x7 =>
 f28_L0 G lo (DV.ptr (List.length σ) 0) x7 (σ ++ [Row.mix z1]) := by kernel_rfl
theorem F28_call {lo : Nat} {x0 : DV} {σ : Store} {r : DV × Store} (h : F28 guardT lo x0 σ = some r) : CC lo 28 [x0] σ = some r :=
 callL_run Go.Proofs.Try.func28 (by decide +kernel) rfl (by decide +kernel) h
noncomputable def c25_0 : Code := bodyOf Go.Proofs.Try.f25
noncomputable def a25_0 : Ann := (pol 25).ann
noncomputable def a25_17 : Ann := right (left (right (right (right a25_0))))
noncomputable def a25_18 : Ann := left a25_17
noncomputable def c25_19 : Code := fstC (fstC (sndC (fstC (sndC (sndC (sndC c25_0))))))
noncomputable def c25_37 : Code := sndC (sndC (sndC (sndC c25_0)))
noncomputable def a25_37 : Ann := right (right (right (right a25_0)))
noncomputable def f25_L0 (G : GuardT) (lo : Nat) (x1 x6 x19 x20 x21 : DV) (σ : Store) : Option (DV × Store) :=
 codeF G PP (pol 25) CC lo (.loop c25_19) a25_18 [ud, x1, ud, ud, ud, ud, x6, ud, ud, ud, ud, ud, ud, ud, ud, ud, ud, ud, ud, x19, x20, x21, ud, ud, ud, ud, ud, ud, ud, ud, ud, ud, ud] σ
 (blockC 0 a25_17 (seqC G PP (pol 25) CC lo c25_37 a25_37 (finR PP Go.Proofs.Try.f25.results.toList)))
noncomputable def F25 (G : GuardT) (lo : Nat) (x0 : DV) (σ : Store) : Option (DV × Store) :=
 codeF G PP (pol 25) CC lo c25_0 a25_0 [x0, ud, ud, ud, ud, ud, ud, ud, ud, ud, ud, ud, ud, ud, ud, ud, ud, ud, ud, ud, ud, ud, ud, ud, ud, ud, ud, ud, ud, ud, ud, ud, ud] σ (finR PP Go.Proofs.Try.f25.results.toList)
theorem f25_L0_eq (G : GuardT) (hG : GuardOk G) (lo : Nat) (x1 x6 x19 x20 x21 : DV) (σ : Store) : f25_L0 G lo x1 x6 x19 x20 x21 σ =
 (binOp PP .lss 3 x21 x20).bind fun x22 =>
 condK x22
 (
 (indexAddr PP 22 x19 x21).bind fun x23 =>
 (load PP 3 x23 σ).bind fun x24 =>
 (zeroOf PP 3).bind fun z8 =>
 (store PP lo 3 (DV.ptr (List.length σ) 0) x24 (σ ++ [Row.mix z8])).bind fun σ2 =>
 (fieldAddr PP 27 x1 1).bind fun x25 =>
 (fieldAddr PP 25 x25 1).bind fun x26 =>
 (load PP 22 x26 σ2).bind fun x27 =>
 (pureFn CC (DV.fn 51 []) [x27, (DV.fn 59 [x6, (DV.ptr (List.length σ) 0)])] σ2).bind fun x29 =>
 (unOp .not x29).bind fun x30 =>
 condK x30
 (
 (load PP 3 (DV.ptr (List.length σ) 0) σ2).bind fun x31 =>
 some ((DV.tuple [(DV.p (PV.bool false)), x31, (DV.p (PV.int IntKind.i64 (0)))]), σ2)
 )
 (
 (binOp PP .add 3 x21 (DV.p (PV.int IntKind.i64 (1)))).bind fun x32 =>
 f25_L0 G lo x1 x6 x19 x20 x32 σ2
 )
 )
 (
 some ((DV.tuple [(DV.p (PV.bool true)), (DV.p (PV.int IntKind.i64 (0))), (DV.p (PV.int IntKind.i64 (0)))]), σ)
 ) := (loopF_eq G hG).trans (by kernel_rfl)
theorem F25_eq (G : GuardT) (lo : Nat) (x0 : DV) (σ : Store) : F25 G lo x0 σ =
 (boxV x0).bind fun z1 =>
 (load PP 27 (DV.ptr (List.length σ) 0) (σ ++ [Row.mix z1])).bind fun x9 =>
 (pureFn CC (DV.fn 41 []) [x9] (σ ++ [Row.mix z1])).bind fun x10 =>
 (binOp PP .neq 30 x10 (DV.p (PV.int IntKind.i64 (0)))).bind fun x12 =>
 condK x12
 (
 some ((DV.tuple [(DV.p (PV.bool false)), (DV.p (PV.int IntKind.i64 (0))), x10]), (σ ++ [Row.mix z1]))
 )
 (
 (load PP 27 (DV.ptr (List.length σ) 0) (σ ++ [Row.mix z1])).bind fun x14 =>
 (pureFn CC (DV.fn 43 []) [x14] (σ ++ [Row.mix z1])).bind fun x15 =>
 (pureFn CC (DV.fn 58 []) [x15] (σ ++ [Row.mix z1])).bind fun x16 =>
 (zeroOf PP 101).bind fun z6 =>
 (store PP lo 101 (DV.ptr (List.length (σ ++ [Row.mix z1])) 0) x16 ((σ ++ [Row.mix z1]) ++ [Row.mix z6])).bind fun σ1 =>
 (fieldAddr PP 27 (DV.ptr (List.length σ) 0) 0).bind fun x17 =>
 (fieldAddr PP 25 x17 1).bind fun x18 =>
 (load PP 22 x18 σ1).bind fun x19 =>
 (len PP 22 x19 σ1).bind fun x20 =>
 f25_L0 G lo (DV.ptr (List.length σ) 0) (DV.ptr (List.length (σ ++ [Row.mix z1])) 0) x19 x20 (DV.p (PV.int IntKind.i64 (0))) σ1
 ) := by kernel_rfl
theorem F25_call {lo : Nat} {x0 : DV} {σ : Store} {r : DV × Store} (h : F25 guardT lo x0 σ = some r) : CC lo 25 [x0] σ = some r :=
 callL_run Go.Proofs.Try.func25 (by decide +kernel) rfl (by decide +kernel) h
noncomputable def c26_0 : Code := bodyOf Go.Proofs.Try.f26
noncomputable def a26_0 : Ann := (pol 26).ann
noncomputable def a26_7 : Ann := right (left (right (right a26_0)))
noncomputable def a26_8 : Ann := left a26_7
noncomputable def c26_9 : Code := fstC (fstC (sndC (fstC (sndC (sndC c26_0)))))
noncomputable def a26_16 : Ann := left (right (left a26_8))
noncomputable def a26_22 : Ann := right (left (right (left a26_16)))
noncomputable def a26_23 : Ann := left a26_22
noncomputable def c26_24 : Code := fstC (fstC (sndC (fstC (sndC (fstC (fstC (sndC c26_9)))))))
noncomputable def c26_34 : Code := sndC (sndC (fstC (fstC (sndC c26_9))))
noncomputable def a26_34 : Ann := right (right (left a26_16))
noncomputable def c26_41 : Code := sndC (sndC c26_9)
noncomputable def a26_41 : Ann := right (right (left a26_8))
noncomputable def c26_42 : Code := sndC (sndC (sndC c26_0))
noncomputable def a26_42 : Ann := right (right (right a26_0))
noncomputable def f26_L0 (G : GuardT) (lo : Nat) (x1 x4 x5 : DV) (σ : Store) : Option (DV × Store) :=
 codeF G PP (pol 26) CC lo (.loop c26_9) a26_8 [ud, x1, ud, ud, x4, x5, ud, ud, ud, ud, ud, ud, ud, ud, ud, ud, ud, ud, ud, ud, ud, ud, ud, ud, ud, ud, ud, ud, ud, ud, ud, ud, ud, ud, ud, ud, ud, ud, ud, ud, ud, ud, ud, ud, ud, ud, ud, ud, ud, ud, ud] σ
 (blockC 0 a26_7 (seqC G PP (pol 26) CC lo c26_42 a26_42 (finR PP Go.Proofs.Try.f26.results.toList)))
noncomputable def f26_L1 (G : GuardT) (lo : Nat) (x1 x4 x5 x6 x7 : DV) (σ : Store) : Option (DV × Store) :=
 codeF G PP (pol 26) CC lo (.loop c26_24) a26_23 [ud, x1, ud, ud, x4, x5, x6, x7, ud, ud, ud, ud, ud, ud, ud, ud, ud, ud, ud, ud, ud, ud, ud, ud, ud, ud, ud, ud, ud, ud, ud, ud, ud, ud, ud, ud, ud, ud, ud, ud, ud, ud, ud, ud, ud, ud, ud, ud, ud, ud, ud] σ
 (blockC 2 a26_22 (seqC G PP (pol 26) CC lo c26_34 a26_34 (blockC 1 a26_16 (seqC G PP (pol 26) CC lo c26_41 a26_41 (loopC G PP (pol 26) CC lo c26_9 a26_8 (blockC 0 a26_7 (seqC G PP (pol 26) CC lo c26_42 a26_42 (finR PP Go.Proofs.Try.f26.results.toList))))))))
noncomputable def F26 (G : GuardT) (lo : Nat) (x0 : DV) (σ : Store) : Option (DV × Store) :=
 codeF G PP (pol 26) CC lo c26_0 a26_0 [x0, ud, ud, ud, ud, ud, ud, ud, ud, ud, ud, ud, ud, ud, ud, ud, ud, ud, ud, ud, ud, ud, ud, ud, ud, ud, ud, ud, ud, ud, ud, ud, ud, ud, ud, ud, ud, ud, ud, ud, ud, ud, ud, ud, ud, ud, ud, ud, ud, ud, ud] σ (finR PP Go.Proofs.Try.f26.results.toList)
theorem f26_L0_eq (G : GuardT) (hG : GuardOk G) (lo : Nat) (x1 x4 x5 : DV) (σ : Store) : f26_L0 G lo x1 x4 x5 σ =
 (fieldAddr PP 27 x1 0).bind fun x11 =>
 (fieldAddr PP 25 x11 1).bind fun x12 =>
 (load PP 22 x12 σ).bind fun x13 =>
 (len PP 22 x13 σ).bind fun x14 =>
 (binOp PP .lss 3 x5 x14).bind fun x15 =>
 condK x15
 (
 f26_L1 G lo x1 x4 x5 (DV.p (PV.bool false)) (DV.p (PV.int IntKind.i64 (0))) σ
 )
 (
 some ((DV.tuple [(DV.p (PV.bool true)), (DV.p (PV.int IntKind.i64 (0)))]), σ)
 ) := (loopF_eq G hG).trans (by kernel_rfl)
theorem f26_L1_eq (G : GuardT) (hG : GuardOk G) (lo : Nat) (x1 x4 x5 x6 x7 : DV) (σ : Store) : f26_L1 G lo x1 x4 x5 x6 x7 σ =
 (fieldAddr PP 27 x1 1).bind fun x19 =>
 (fieldAddr PP 25 x19 1).bind fun x20 =>
 (load PP 22 x20 σ).bind fun x21 =>
 (len PP 22 x21 σ).bind fun x22 =>
 (binOp PP .lss 3 x7 x22).bind fun x23 =>
 condK x23
 (
 G _ x6 false (some (x4, σ)) σ fun x28 σ1 =>
 G _ x6 false ((fieldAddr PP 27 x1 0).bind fun v => some (v, σ1)) σ1 fun x29 σ2 =>
 G _ x6 false ((fieldAddr PP 25 x29 1).bind fun v => some (v, σ2)) σ2 fun x30 σ3 =>
 G _ x6 false ((load PP 22 x30 σ3).bind fun v => some (v, σ3)) σ3 fun x31 σ4 =>
 G _ x6 false (some (x5, σ4)) σ4 fun x32 σ5 =>
 G _ x6 false ((indexAddr PP 22 x31 x32).bind fun v => some (v, σ5)) σ5 fun x33 σ6 =>
 G _ x6 false ((load PP 3 x33 σ6).bind fun v => some (v, σ6)) σ6 fun x34 σ7 =>
 G _ x6 false ((fieldAddr PP 27 x1 1).bind fun v => some (v, σ7)) σ7 fun x35 σ8 =>
 G _ x6 false ((fieldAddr PP 25 x35 1).bind fun v => some (v, σ8)) σ8 fun x36 σ9 =>
 G _ x6 false ((load PP 22 x36 σ9).bind fun v => some (v, σ9)) σ9 fun x37 σ10 =>
 G _ x6 false (some (x7, σ10)) σ10 fun x38 σ11 =>
 G _ x6 false ((indexAddr PP 22 x37 x38).bind fun v => some (v, σ11)) σ11 fun x39 σ12 =>
 G _ x6 false ((load PP 3 x39 σ12).bind fun v => some (v, σ12)) σ12 fun x40 σ13 =>
 G _ x6 false ((pureFn CC (DV.fn 60 []) [x28, x34, x40] σ13).bind fun v => some (v, σ13)) σ13 fun x41 σ14 =>
 (pickV x6 (DV.p (PV.bool true)) x41).bind fun x42 =>
 (binOp PP .add 3 x7 (DV.p (PV.int IntKind.i64 (1)))).bind fun x25 =>
 f26_L1 G lo x1 x4 x5 x42 x25 σ14
 )
 (
 (unOp .not x6).bind fun x44 =>
 condK x44
 (
 (fieldAddr PP 27 x1 0).bind fun x45 =>
 (fieldAddr PP 25 x45 1).bind fun x46 =>
 (load PP 22 x46 σ).bind fun x47 =>
 (indexAddr PP 22 x47 x5).bind fun x49 =>
 (load PP 3 x49 σ).bind fun x50 =>
 some ((DV.tuple [(DV.p (PV.bool false)), x50]), σ)
 )
 (
 (binOp PP .add 3 x5 (DV.p (PV.int IntKind.i64 (1)))).bind fun x17 =>
 f26_L0 G lo x1 x4 x17 σ
 )
 ) := (loopF_eq G hG).trans (by kernel_rfl)
theorem F26_eq (G : GuardT) (lo : Nat) (x0 : DV) (σ : Store) : F26 G lo x0 σ =
 (boxV x0).bind fun z1 =>
 (load PP 27 (DV.ptr (List.length σ) 0) (σ ++ [Row.mix z1])).bind fun x8 =>
 (pureFn CC (DV.fn 28 []) [x8] (σ ++ [Row.mix z1])).bind fun x9 =>
 f26_L0 G lo (DV.ptr (List.length σ) 0) x9 (DV.p (PV.int IntKind.i64 (0))) (σ ++ [Row.mix z1]) := by kernel_rfl
theorem F26_call {lo : Nat} {x0 : DV} {σ : Store} {r : DV × Store} (h : F26 guardT lo x0 σ = some r) : CC lo 26 [x0] σ = some r :=
 callL_run Go.Proofs.Try.func26 (by decide +kernel) rfl (by decide +kernel) h
noncomputable def c27_0 : Code := bodyOf Go.Proofs.Try.f27
noncomputable def a27_0 : Ann := (pol 27).ann
noncomputable def a27_13 : Ann := right (left (right (right a27_0)))
noncomputable def a27_14 : Ann := left a27_13
noncomputable def c27_15 : Code := fstC (fstC (sndC (fstC (sndC (sndC c27_0)))))
noncomputable def c27_31 : Code := sndC (sndC (sndC c27_0))
noncomputable def a27_31 : Ann := right (right (right a27_0))
noncomputable def f27_L0 (G : GuardT) (lo : Nat) (x0 x1 x5 : DV) (σ : Store) : Option (DV × Store) :=
 codeF G PP (pol 27) CC lo (.loop c27_15) a27_14 [x0, x1, ud, ud, ud, x5, ud, ud, ud, ud, ud, ud, ud, ud, ud, ud, ud, ud, ud, ud, ud, ud, ud, ud, ud, ud, ud] σ
 (blockC 0 a27_13 (seqC G PP (pol 27) CC lo c27_31 a27_31 (finR PP Go.Proofs.Try.f27.results.toList)))
noncomputable def F27 (G : GuardT) (lo : Nat) (x0 x1 : DV) (σ : Store) : Option (DV × Store) :=
 codeF G PP (pol 27) CC lo c27_0 a27_0 [x0, x1, ud, ud, ud, ud, ud, ud, ud, ud, ud, ud, ud, ud, ud, ud, ud, ud, ud, ud, ud, ud, ud, ud, ud, ud, ud] σ (finR PP Go.Proofs.Try.f27.results.toList)
theorem f27_L0_eq (G : GuardT) (hG : GuardOk G) (lo : Nat) (x0 x1 x5 : DV) (σ : Store) : f27_L0 G lo x0 x1 x5 σ =
 (len PP 51 x0 σ).bind fun x13 =>
 (binOp PP .lss 3 x5 x13).bind fun x14 =>
 condK x14
 (
 (indexAddr PP 51 x0 x5).bind fun x19 =>
 (load PP 22 x19 σ).bind fun x20 =>
 (indexAddr PP 51 x1 x5).bind fun x23 =>
 (load PP 22 x23 σ).bind fun x24 =>
 (pureFn CC (DV.fn 18 []) [x20, x24] σ).bind fun x25 =>
 (unOp .not x25).bind fun x26 =>
 condK x26
 (
 some ((DV.p (PV.bool false)), σ)
 )
 (
 (binOp PP .add 3 x5 (DV.p (PV.int IntKind.i64 (1)))).bind fun x16 =>
 f27_L0 G lo x0 x1 x16 σ
 )
 )
 (
 some ((DV.p (PV.bool true)), σ)
 ) := (loopF_eq G hG).trans (by kernel_rfl)
theorem F27_eq (G : GuardT) (lo : Nat) (x0 x1 : DV) (σ : Store) : F27 G lo x0 x1 σ =
 (len PP 51 x0 σ).bind fun x7 =>
 (len PP 51 x1 σ).bind fun x9 =>
 (binOp PP .neq 3 x7 x9).bind fun x10 =>
 condK x10
 (
 some ((DV.p (PV.bool false)), σ)
 )
 (
 f27_L0 G lo x0 x1 (DV.p (PV.int IntKind.i64 (0))) σ
 ) := by kernel_rfl
theorem F27_call {lo : Nat} {x0 x1 : DV} {σ : Store} {r : DV × Store} (h : F27 guardT lo x0 x1 σ = some r) : CC lo 27 [x0, x1] σ = some r :=
 callL_run Go.Proofs.Try.func27 (by decide +kernel) rfl (by decide +kernel) h
noncomputable def c59_0 : Code := bodyOf Go.Proofs.Try.f59
noncomputable def a59_0 : Ann := (pol 59).ann
noncomputable def F59 (G : GuardT) (lo : Nat) (x0 x1 x2 : DV) (σ : Store) : Option (DV × Store) :=
 codeF G PP (pol 59) CC lo c59_0 a59_0 [x0, x1, x2, ud, ud, ud, ud, ud, ud, ud, ud, ud, ud] σ (finR PP Go.Proofs.Try.f59.results.toList)
theorem F59_eq (G : GuardT) (lo : Nat) (x0 x1 x2 : DV) (σ : Store) : F59 G lo x0 x1 x2 σ =
 (load PP 101 x1 σ).bind fun x5 =>
 (load PP 3 x2 σ).bind fun x6 =>
 (indexAddr PP 101 x5 x6).bind fun x7 =>
 (load PP 22 x7 σ).bind fun x8 =>
 (indexAddr PP 22 x8 x0).bind fun x10 =>
 (load PP 3 x10 σ).bind fun x11 =>
 (binOp PP .eql 3 x11 (DV.p (PV.int IntKind.i64 (-1)))).bind fun x12 =>
 some (x12, σ) := by kernel_rfl
theorem F59_call {lo : Nat} {x0 x1 x2 : DV} {σ : Store} {r : DV × Store} (h : F59 guardT lo x0 x1 x2 σ = some r) : CC lo 59 [x0, x1, x2] σ = some r :=
 callL_run Go.Proofs.Try.func59 (by decide +kernel) rfl (by decide +kernel) h
noncomputable def c5_0 : Code := bodyOf Go.Proofs.Try.f5
noncomputable def a5_0 : Ann := (pol 5).ann
noncomputable def F5 (G : GuardT) (lo : Nat) (x0 : DV) (σ : Store) : Option (DV × Store) :=
 codeF G PP (pol 5) CC lo c5_0 a5_0 [x0, ud, ud, ud, ud, ud, ud, ud, ud, ud, ud, ud, ud, ud, ud, ud, ud, ud, ud, ud, ud, ud, ud, ud, ud, ud, ud, ud, ud, ud, ud, ud, ud, ud, ud, ud, ud, ud, ud, ud, ud, ud, ud, ud, ud, ud, ud, ud, ud, ud, ud, ud, ud, ud, ud, ud, ud, ud, ud, ud, ud, ud, ud, ud, ud, ud, ud, ud, ud, ud, ud, ud, ud, ud, ud, ud, ud, ud, ud, ud, ud] σ (finR PP Go.Proofs.Try.f5.results.toList)
theorem F5_eq (G : GuardT) (lo : Nat) (x0 : DV) (σ : Store) : F5 G lo x0 σ =
 (boxV x0).bind fun z1 =>
 (pureFn CC (DV.fn 10 []) [] (σ ++ [Row.mix z1])).bind fun x11 =>
 (unOp .not x11).bind fun x12 =>
 condK x12
 (
 some ((DV.p (PV.bool false)), (σ ++ [Row.mix z1]))
 )
 (
 (load PP 27 (DV.ptr (List.length σ) 0) (σ ++ [Row.mix z1])).bind fun x13 =>
 (pureFn CC (DV.fn 11 []) [x13] (σ ++ [Row.mix z1])).bind fun x14 =>
 (unOp .not x14).bind fun x15 =>
 condK x15
 (
 some ((DV.p (PV.bool true)), (σ ++ [Row.mix z1]))
 )
 (
 (load PP 27 (DV.ptr (List.length σ) 0) (σ ++ [Row.mix z1])).bind fun x17 =>
 (pureFn CC (DV.fn 13 []) [x17] (σ ++ [Row.mix z1])).bind fun x18 =>
 (pureFn CC (DV.fn 24 []) [x18] (σ ++ [Row.mix z1])).bind fun x19 =>
 (extractV x19 0).bind fun x20 =>
 (extractV x19 1).bind fun x21 =>
 (load PP 27 (DV.ptr (List.length σ) 0) (σ ++ [Row.mix z1])).bind fun x23 =>
 (pureFn CC (DV.fn 13 []) [x23] (σ ++ [Row.mix z1])).bind fun x24 =>
 (pureFn CC (DV.fn 25 []) [x24] (σ ++ [Row.mix z1])).bind fun x25 =>
 (extractV x25 0).bind fun x26 =>
 (extractV x25 1).bind fun x27 =>
 (extractV x25 2).bind fun x28 =>
 (load PP 27 (DV.ptr (List.length σ) 0) (σ ++ [Row.mix z1])).bind fun x29 =>
 (pureFn CC (DV.fn 15 []) [x29] (σ ++ [Row.mix z1])).bind fun x30 =>
 (binOp PP .neq 3 x30 (DV.p (PV.int IntKind.i64 (0)))).bind fun x32 =>
 condK x32
 (
 (binOp PP .eql 3 x21 x30).bind fun x35 =>
 G _ x35 true (some (x28, (σ ++ [Row.mix z1]))) (σ ++ [Row.mix z1]) fun x37 σ1 =>
 G _ x35 true (some (x30, σ1)) σ1 fun x38 σ2 =>
 G _ x35 true ((binOp PP .eql 3 x37 x38).bind fun v => some (v, σ2)) σ2 fun x39 σ3 =>
 (pickV x35 x39 (DV.p (PV.bool false))).bind fun x40 =>
 G _ x40 true (some (x20, σ3)) σ3 fun x42 σ4 =>
 G _ x40 true ((len PP 51 x42 σ4).bind fun v => some (v, σ4)) σ4 fun x43 σ5 =>
 G _ x40 true ((binOp PP .eql 3 x43 (DV.p (PV.int IntKind.i64 (0)))).bind fun v => some (v, σ5)) σ5 fun x44 σ6 =>
 (pickV x40 x44 (DV.p (PV.bool false))).bind fun x45 =>
 G _ x45 true (some (x26, σ6)) σ6 fun x47 σ7 =>
 G _ x45 true ((unOp .not x47).bind fun v => some (v, σ7)) σ7 fun x48 σ8 =>
 (pickV x45 x48 (DV.p (PV.bool false))).bind fun x49 =>
 G _ x49 true (some (x27, σ8)) σ8 fun x51 σ9 =>
 G _ x49 true ((binOp PP .eql 3 x51 (DV.p (PV.int IntKind.i64 (0)))).bind fun v => some (v, σ9)) σ9 fun x52 σ10 =>
 (pickV x49 x52 (DV.p (PV.bool false))).bind fun x53 =>
 some (x53, σ10)
 )
 (
 (load PP 27 (DV.ptr (List.length σ) 0) (σ ++ [Row.mix z1])).bind fun x55 =>
 (pureFn CC (DV.fn 26 []) [x55] (σ ++ [Row.mix z1])).bind fun x56 =>
 (extractV x56 0).bind fun x57 =>
 (extractV x56 1).bind fun x58 =>
 (binOp PP .eql 30 x21 (DV.p (PV.int IntKind.i64 (0)))).bind fun x60 =>
 G _ x60 true (some (x20, (σ ++ [Row.mix z1]))) (σ ++ [Row.mix z1]) fun x62 σ11 =>
 G _ x60 true ((load PP 27 (DV.ptr (List.length σ) 0) σ11).bind fun v => some (v, σ11)) σ11 fun x63 σ12 =>
 G _ x60 true ((pureFn CC (DV.fn 28 []) [x63] σ12).bind fun v => some (v, σ12)) σ12 fun x64 σ13 =>
 G _ x60 true ((pureFn CC (DV.fn 27 []) [x62, x64] σ13).bind fun v => some (v, σ13)) σ13 fun x65 σ14 =>
 (pickV x60 x65 (DV.p (PV.bool false))).bind fun x66 =>
 G _ x66 true (some (x28, σ14)) σ14 fun x68 σ15 =>
 G _ x66 true ((binOp PP .eql 30 x68 (DV.p (PV.int IntKind.i64 (0)))).bind fun v => some (v, σ15)) σ15 fun x69 σ16 =>
 (pickV x66 x69 (DV.p (PV.bool false))).bind fun x70 =>
 G _ x70 true (some (x26, σ16)) σ16 fun x72 σ17 =>
 G _ x70 true (some (x57, σ17)) σ17 fun x73 σ18 =>
 G _ x70 true ((binOp PP .eql 4 x72 x73).bind fun v => some (v, σ18)) σ18 fun x74 σ19 =>
 (pickV x70 x74 (DV.p (PV.bool false))).bind fun x75 =>
 G _ x75 true (some (x27, σ19)) σ19 fun x77 σ20 =>
 G _ x75 true (some (x58, σ20)) σ20 fun x78 σ21 =>
 G _ x75 true ((binOp PP .eql 3 x77 x78).bind fun v => some (v, σ21)) σ21 fun x79 σ22 =>
 (pickV x75 x79 (DV.p (PV.bool false))).bind fun x80 =>
 some (x80, σ22)
 )
 )
 ) := by kernel_rfl
theorem F5_call {lo : Nat} {x0 : DV} {σ : Store} {r : DV × Store} (h : F5 guardT lo x0 σ = some r) : CC lo 5 [x0] σ = some r :=
 callL_run Go.Proofs.Try.func5 (by decide +kernel) rfl (by decide +kernel) h
end Go.D
end
/- Lists of lists: bounds, copies, pairs of a relation. -/
section
set_option linter.unusedVariables false
set_option linter.unusedSimpArgs false
namespace Go.D

abbrev OI := Option (List Int)
def eLs : Option (List OI) → PV
  | none => .nilsl
  | some l => .sl false l.length (l.map eSl)
theorem u51 : PP.underlying 51 = some (.slice 22) := Eq.trans (by kernel_rfl) rfl
theorem s22 : size? PP 22 = some 1 := Eq.trans (by kernel_rfl) rfl
theorem len51 (o : Option (List OI)) (σ : Store) : len PP 51 (.p (eLs o)) σ = some (.p (.int .i64 ((L o).length : Nat))) := by cases o <;> simp [len, u51, eLs]
theorem idx51 {o : Option (List OI)} {i : Nat} (h : i < (L o).length) : indexAddr PP 51 (.p (eLs o)) (.p (.int .i64 (i : Nat))) = some (.pptr ((L o).map eSl) i) := by
  cases o with
  | none => simp at h
  | some l =>
    have h2 : (0 : Int) ≤ (i : Int) ∧ (i : Int) < (l.length : Nat) := by simp at h; omega
    simp [indexAddr, u51, s22, eLs, h2]
theorem load1_ls {l : List OI} {i : Nat} (h : i < l.length) (σ : Store) : load1 (.pptr (l.map eSl) i) σ = some (.p (eSl (l.getD i none))) :=
  load1_pptr (by simp [h, List.getD_eq_getElem?_getD]) σ
theorem loosens_ls (l : List OI) : loosens (l.map eSl) = l.map eSl := by
  induction l with
  | nil => rfl
  | cons a l ih => simp only [List.map_cons, loosens, loosen_sl, ih]
theorem loosen_ls (o : Option (List OI)) : loosen (eLs o) = eLs o := by
  cases o <;> simp [eLs, loosen, loosens_ls]
theorem ls_view (o : Option (List OI)) : view (.p (eLs o)) = .p (eLs o) := by simp [view, viewCell, loosen_ls]
theorem getD_at {α : Type} {l : List α} {i : Nat} (d : α) (h : i < l.length) : l.getD i d = l[i] := by rw [List.getD_eq_getElem?_getD, List.getElem?_eq_getElem h]; rfl

/-! ### Few short lists -/
def shortL (x : OI) : Bool := decide ((L x).length ≤ 4)
theorem L34 {o : Option (List OI)} (hl : (L o).length ≤ 60) {lo : Nat} {σ : Store} :
    ∀ (k i : Nat), (L o).length - i = k → i ≤ (L o).length → f34_L0 guardT lo (.p (eLs o)) (.p (pI (i : Nat))) σ = some (.p (.bool (((L o).drop i).all shortL)), σ)
  | 0, i, hk, hi => by
    have : i = (L o).length := by omega
    rw [f34_L0_eq guardT rfl]
    subst this
    simp [len51, b_lss, condK_false]
  | k + 1, i, hk, hi => by
    have h : i < (L o).length := by omega
    have h' : (i : Int) < ((L o).length : Nat) := by omega
    rw [f34_L0_eq guardT rfl]
    simp only [len51, b_lss, obind, h', decide_true, condK_true, idx51 h, load22, load1_ls h, len22, b_gtr, getD_at none h]
    rw [drop_cons h]
    by_cases hs : (L (L o)[i]).length ≤ 4
    · have : ¬ ((L (L o)[i]).length : Int) > 4 := by omega
      simp only [this, decide_false, condK_false, b_add, obind, wrap_succ (show i ≤ 1000000 by omega), List.all_cons, shortL, hs, decide_true, Bool.true_and]
      exact L34 hl k (i + 1) (by omega) (by omega)
    · have : ((L (L o)[i]).length : Int) > 4 := by omega
      simp only [this, decide_true, condK_true, List.all_cons, shortL, hs, decide_false, Bool.false_and]

def briefL (l : List OI) : Bool := decide (l.length ≤ 60) && l.all shortL
theorem S34 {o : Option (List OI)} {σ : Store} : pureV CC 34 [.p (eLs o)] σ = some (.p (.bool (briefL (L o)))) := by
  refine pureV_free (by simp [ls_view]) rfl (F34_call (r := (.p (.bool (briefL (L o))), [])) ?_) rfl
  rw [F34_eq]
  simp only [len51, obind, b_gtr, briefL]
  by_cases h : (L o).length ≤ 60
  · have h' : ¬ ((L o).length : Int) > 60 := by omega
    have := L34 (lo := 0) (σ := []) h _ 0 rfl (Nat.zero_le _)
    simp only [List.drop_zero] at this
    simp only [h', decide_false, condK_false, h, decide_true, Bool.true_and]
    exact this
  · have h' : ((L o).length : Int) > 60 := by omega
    simp only [h', decide_true, condK_true, h, decide_false, Bool.false_and]

/-! ### Lists that are appended to -/
/-- n elements of sz cells each, as they stand in a list that is appended to. -/
def Out (σ : Store) (lo sz n : Nat) (cs : List PV) (x : DV) : Prop :=
  cs.length = n * sz ∧ ((n = 0 ∧ x = .p .nilsl) ∨ (n ≠ 0 ∧ ∃ r ver, x = .osl r ver sz n cs ∧ σ[r]? = some (.tok ver) ∧ lo ≤ r))
/-- All rows but that of a list stay. -/
def Others (σ σ' : Store) (x : DV) : Prop := ∀ i row, σ[i]? = some row → (∀ r ver sz n cs, x = .osl r ver sz n cs → i ≠ r) → σ'[i]? = some row

theorem Out.zero {σ : Store} {lo sz : Nat} : Out σ lo sz 0 [] (.p .nilsl) := ⟨by simp, .inl ⟨rfl, rfl⟩⟩
theorem Others.mix {σ σ' : Store} {lo sz n : Nat} {cs : List PV} {x : DV} (h : Others σ σ' x) (ho : Out σ lo sz n cs x) {i : Nat} {row : Row} (hi : σ[i]? = some row) (hr : ∀ v, row ≠ .tok v) : σ'[i]? = some row := by
  refine h i row hi ?_
  rintro r ver sz' n' cs' rfl rfl
  rcases ho.2 with ⟨_, h2⟩ | ⟨_, r2, ver2, h2, h3, _⟩
  · cases h2
  · injection h2 with e1
    subst e1
    rw [hi] at h3
    injection h3 with h3
    exact hr _ h3

theorem Out.push {σ : Store} {t e lo sz b n : Nat} {z : List DV} {cs vs : List PV} {x : DV} (hs : srcType PP t = true) (hu : PP.underlying t = some (.slice e)) (h1 : size? PP e = some sz) (h2 : bytes? PP e = some b) (h3 : zeroOf PP e = some z)
    (h4 : z.length = sz) (hz : 0 < sz) (hb : 0 < b) (hb2 : b ≤ 1000) (hv : vs.length = sz) (ho : Out σ lo sz n cs x) (hn : n ≤ 1000000) (hlo : lo ≤ σ.length) :
    ∃ x' σ', append PP lo false t t x (.p (.sl true 1 vs)) σ = some (x', σ') ∧ Out σ' lo sz (n + 1) (cs ++ vs) x' ∧ Others σ σ' x ∧ σ.length ≤ σ'.length := by
  have hsrc : source σ sz (.p (.sl true 1 vs)) = some (1, vs.map DV.p) := by simp [source, hv]
  have hz0 : ¬ (z.length ≠ sz ∨ sz = 0) := by omega
  obtain ⟨hc, ho⟩ := ho
  rcases ho with ⟨rfl, rfl⟩ | ⟨hn0, r, ver, rfl, hr, hl⟩
  · refine ⟨.osl σ.length 0 sz 1 vs, σ ++ [.tok 0], ?_, ⟨by simp [hc, hv], .inr ⟨by simp, σ.length, 0, ?_, get_snoc, hlo⟩⟩, ?_, by simp⟩
    · have : b ≤ 140737488355328 := by omega
      simp only [append, hs, hu, h1, h2, h3, hz0, hsrc, appNil]
      simp [this, hb, pures_map, h4, hz, Nat.ne_of_gt hz]
    · have : cs = [] := List.length_eq_zero_iff.1 (by simpa using hc)
      rw [this]; simp
    · intro i row hi _
      exact get_old hi
  · refine ⟨.osl r (ver + 1) sz (n + 1) (cs ++ vs), σ.set r (.tok (ver + 1)), ?_, ⟨by simp [hc, hv, Nat.add_mul], .inr ⟨by simp, r, ver + 1, rfl, ?_, hl⟩⟩, ?_, by simp⟩
    · have e1 : (n + 1) * b ≤ 140737488355328 := Nat.le_trans (Nat.mul_le_mul (show n + 1 ≤ 1000001 by omega) hb2) (by decide)
      have e2 : n + 1 ≤ 140737488355328 := by omega
      simp only [append, hs, hu, h1, h2, h3, hz0, hsrc, appTok]
      simp [e1, e2, hb, hc, hl, hr, pures_map, h4, Nat.ne_of_gt hz]
    · rw [List.getElem?_set_self (get_lt hr)]
    · intro i row hi hne
      rw [List.getElem?_set_ne (fun e => hne _ _ _ _ _ rfl e.symm)]
      exact hi

theorem Out.tw {σ : Store} {lo sz n : Nat} {cs : List PV} {x : DV} (ho : Out σ lo sz n cs x) (m : Nat) : thaw m σ x = some (.p (if n = 0 then .nilsl else .sl false n (loosens cs))) := by
  rcases ho.2 with ⟨rfl, rfl⟩ | ⟨hn, r, ver, rfl, _, _⟩
  · rfl
  · simp [thaw, thaw1, thawP, hn]
theorem Out.twAll {σ : Store} {lo sz n : Nat} {cs : List PV} {x : DV} (ho : Out σ lo sz n cs x) (m : Nat) : thawAll m σ x = some (.p (if n = 0 then .nilsl else .sl false n (loosens cs))) := by
  rcases ho.2 with ⟨rfl, rfl⟩ | ⟨hn, r, ver, rfl, _, _⟩
  · rfl
  · simp [thawAll, thawPart, thaw, thaw1, thawP, hn]
theorem Out.vw {σ : Store} {lo sz n : Nat} {cs : List PV} {x : DV} (ho : Out σ lo sz n cs x) : view x = .p (if n = 0 then .nilsl else .sl false n (loosens cs)) := by
  rcases ho.2 with ⟨rfl, rfl⟩ | ⟨hn, r, ver, rfl, _, _⟩
  · rfl
  · simp [view, viewCell, hn]

/-! ### Copies of lists of lists -/
theorem bytes22 : bytes? PP 22 = some 24 := Eq.trans (by kernel_rfl) rfl
theorem zero22 : zeroOf PP 22 = some [.p .nilsl] := Eq.trans (by kernel_rfl) rfl
theorem src51 : srcType PP 51 = true := Eq.trans (by kernel_rfl) rfl
theorem bs51_1 (v : PV) (σ : Store) : buildSlice PP none 51 1 [(0, .p v)] σ = some (.p (.sl true 1 [v]), σ) := Eq.trans (by kernel_rfl) rfl
theorem Out.push51 {σ : Store} {lo n : Nat} {cs : List PV} {v : PV} {x : DV} (ho : Out σ lo 1 n cs x) (hn : n ≤ 1000000) (hlo : lo ≤ σ.length) :
    ∃ x' σ', append PP lo false 51 51 x (.p (.sl true 1 [v])) σ = some (x', σ') ∧ Out σ' lo 1 (n + 1) (cs ++ [v]) x' ∧ Others σ σ' x ∧ σ.length ≤ σ'.length :=
  Out.push src51 u51 s22 bytes22 zero22 rfl (by decide) (by decide) (by decide) rfl ho hn hlo
theorem Out.push22 {σ : Store} {lo n : Nat} {cs : List PV} {v : PV} {x : DV} (ho : Out σ lo 1 n cs x) (hn : n ≤ 1000000) (hlo : lo ≤ σ.length) :
    ∃ x' σ', append PP lo false 22 22 x (.p (.sl true 1 [v])) σ = some (x', σ') ∧ Out σ' lo 1 (n + 1) (cs ++ [v]) x' ∧ Others σ σ' x ∧ σ.length ≤ σ'.length :=
  Out.push src22 u22 s3 bytes3 zero3 rfl (by decide) (by decide) (by decide) rfl ho hn hlo

def ownX (x : OI) : OI := some (L x)
def ownLs (o : Option (List OI)) : Option (List OI) := if L o = [] then none else some ((L o).map ownX)
theorem L36 {o : Option (List OI)} {lo : Nat} (hl : (L o).length ≤ 1000) (hx : ∀ x ∈ L o, (L x).length ≤ 1000) :
    ∀ (k i : Nat) (x : DV) (σ : Store), (L o).length - i = k → i ≤ (L o).length → lo ≤ σ.length → Out σ lo 1 i (((L o).take i).map fun x => eSl (ownX x)) x →
      ∃ x' σ', f36_L0 guardT lo (.p (eLs o)) x (.p (pI (i : Nat))) σ = some (x', σ') ∧ Out σ' lo 1 (L o).length ((L o).map fun x => eSl (ownX x)) x'
  | 0, i, x, σ, hk, hi, hlo, ho => by
    have : i = (L o).length := by omega
    subst this
    rw [List.take_length] at ho
    refine ⟨x, σ, ?_, ho⟩
    rw [f36_L0_eq guardT rfl]
    simp [len51, b_lss, condK_false]
  | k + 1, i, x, σ, hk, hi, hlo, ho => by
    have h : i < (L o).length := by omega
    have h' : (i : Int) < ((L o).length : Nat) := by omega
    obtain ⟨x', σ', h1, h2, h3, h4⟩ := ho.push51 (v := eSl (ownX (L o)[i])) (by omega) hlo
    rw [f36_L0_eq guardT rfl]
    simp only [len51, b_lss, obind, h', decide_true, condK_true, idx51 h, load22, load1_ls h, getD_at none h, pureFn_fn, List.append_nil, S14 (hx _ (List.getElem_mem h)), bs51_1]
    rw [show (eSl (some (L (L o)[i]))) = eSl (ownX (L o)[i]) from rfl, h1]
    simp only [obind, b_add, wrap_succ (show i ≤ 1000000 by omega)]
    refine L36 hl hx k (i + 1) x' σ' (by omega) (by omega) (by omega) ?_
    have e : ((L o).take (i + 1)).map (fun x => eSl (ownX x)) = ((L o).take i).map (fun x => eSl (ownX x)) ++ [eSl (ownX (L o)[i])] := by
      rw [List.take_succ_eq_append_getElem h, List.map_append]; rfl
    rw [e]
    exact h2
theorem S36 {o : Option (List OI)} {σ : Store} (hl : (L o).length ≤ 1000) (hx : ∀ x ∈ L o, (L x).length ≤ 1000) : pureV CC 36 [.p (eLs o)] σ = some (.p (eLs (ownLs o))) := by
  refine pureV_any (by simp [ls_view]) fun lo σ0 hs => ?_
  have hlo : lo ≤ σ0.length := by rcases hs with ⟨rfl, rfl, _⟩ | ⟨_, rfl, _⟩ <;> simp_all
  obtain ⟨x', σ', h1, h2⟩ := L36 (lo := lo) hl hx _ 0 (.p .nilsl) σ0 rfl (Nat.zero_le _) hlo (by simpa using Out.zero)
  refine ⟨x', σ', F36_call ?_, ?_⟩
  · rw [F36_eq]; exact h1
  · rw [h2.twAll]
    unfold ownLs
    by_cases e : L o = []
    · simp [e, eLs]
    · have e2 : ¬ (L o).length = 0 := fun h => e (List.length_eq_zero_iff.1 h)
      have e3 : (L o).map (fun x => eSl (ownX x)) = ((L o).map ownX).map eSl := by simp
      simp only [e, e2, if_false, eLs, e3, loosens_ls, List.length_map]

/-! ### Pairs of a relation -/
abbrev PR := Int × Int
def prO (q : PR) : OI := some [q.1, q.2]
def hasP (ps : List PR) (s u : Int) : Bool := ps.any fun q => decide (q.1 = s) && decide (q.2 = u)
theorem hasP_cons (q : PR) (ps : List PR) (s u : Int) : hasP (q :: ps) s u = (decide (q.1 = s) && decide (q.2 = u) || hasP ps s u) := rfl
theorem idx22_1 {o : Option (List Int)} (h : 1 < (L o).length) : indexAddr PP 22 (.p (eSl o)) (.p (.int .i64 1)) = some (.pptr (eInts (L o)) 1) := idx22 (i := 1) h
theorem pr_idx0 (q : PR) : indexAddr PP 22 (.p (eSl (prO q))) (.p (.int .i64 0)) = some (.pptr (eInts [q.1, q.2]) 0) := idx22_0 (o := prO q) (by simp [prO])
theorem pr_idx1 (q : PR) : indexAddr PP 22 (.p (eSl (prO q))) (.p (.int .i64 1)) = some (.pptr (eInts [q.1, q.2]) 1) := idx22_1 (o := prO q) (by simp [prO])
theorem pr_ld0 (q : PR) (σ : Store) : load1 (.pptr (eInts [q.1, q.2]) 0) σ = some (.p (pI q.1)) := load1_ints (l := [q.1, q.2]) (i := 0) (by simp) σ
theorem pr_ld1 (q : PR) (σ : Store) : load1 (.pptr (eInts [q.1, q.2]) 1) σ = some (.p (pI q.2)) := load1_ints (l := [q.1, q.2]) (i := 1) (by simp) σ
theorem ii_ld0 (a b : Int) (σ : Store) : load1 (.pptr (eInts [a, b]) 0) σ = some (.p (pI a)) := load1_ints (l := [a, b]) (i := 0) (by simp) σ
theorem ii_ld1 (a b : Int) (σ : Store) : load1 (.pptr (eInts [a, b]) 1) σ = some (.p (pI b)) := load1_ints (l := [a, b]) (i := 1) (by simp) σ
theorem prs_len {o : Option (List OI)} {ps : List PR} (h : L o = ps.map prO) : (L o).length = ps.length := by rw [h, List.length_map]
theorem prs_get {o : Option (List OI)} {ps : List PR} (h : L o = ps.map prO) {i : Nat} (hi : i < ps.length) : (L o).getD i none = prO ps[i] := by
  rw [h, getD_at _ (by simpa using hi), List.getElem_map]

theorem L60 {o : Option (List OI)} {ps : List PR} {s u : Int} {lo : Nat} {σ : Store} (ho : L o = ps.map prO) (hl : ps.length ≤ 1000000) :
    ∀ (k i : Nat), ps.length - i = k → i ≤ ps.length → f60_L0 guardT lo (.p (eLs o)) (.p (pI s)) (.p (pI u)) (.p (pI (i : Nat))) σ = some (.p (.bool (hasP (ps.drop i) s u)), σ)
  | 0, i, hk, hi => by
    have : i = ps.length := by omega
    rw [f60_L0_eq guardT rfl]
    subst this
    simp [len51, prs_len ho, b_lss, condK_false, hasP]
  | k + 1, i, hk, hi => by
    have h : i < ps.length := by omega
    have h0 : i < (L o).length := by rw [prs_len ho]; exact h
    have h' : (i : Int) < (ps.length : Nat) := by omega
    rw [f60_L0_eq guardT rfl]
    simp only [len51, prs_len ho, b_lss, obind, h', decide_true, condK_true, idx51 h0, load22, load1_ls h0, prs_get ho h, pr_idx0, load3, pr_ld0, b_eql]
    rw [drop_cons h]
    have ih := L60 (s := s) (u := u) (lo := lo) (σ := σ) ho hl k (i + 1) (by omega) (by omega)
    cases e1 : decide (ps[i].1 = s) with
    | true =>
      simp only [guard_tt, obind, idx51 h0, load1_ls h0, prs_get ho h, pr_idx1, load3, pr_ld1, b_eql, pickV_true, hasP_cons, e1, Bool.true_and]
      cases e2 : decide (ps[i].2 = u) with
      | true => simp only [condK_true, Bool.true_or]
      | false =>
        simp only [condK_false, b_add, obind, wrap_succ (show i ≤ 1000000 by omega), Bool.false_or]
        exact ih
    | false =>
      simp only [guard_ft, guard_sk, obind, pickV_false, condK_false, b_add, wrap_succ (show i ≤ 1000000 by omega), hasP_cons, e1, Bool.false_and, Bool.false_or]
      exact ih
theorem S60 {o : Option (List OI)} {ps : List PR} {s u : Int} {σ : Store} (ho : L o = ps.map prO) (hl : ps.length ≤ 1000000) : pureV CC 60 [.p (eLs o), .p (pI s), .p (pI u)] σ = some (.p (.bool (hasP ps s u))) := by
  refine pureV_free (by simp [ls_view]; exact ⟨rfl, rfl⟩) rfl (F60_call (r := (.p (.bool (hasP ps s u)), [])) ?_) rfl
  rw [F60_eq]
  exact L60 (lo := 0) (σ := []) ho hl _ 0 rfl (Nat.zero_le _)

/-! ### The reference: a step that is matched, a pair that is kept -/
def matchP (p : Pair) (ps : List PR) (n : Nat) (t u : Int) : Bool := anyFrom (fun v => follows p.up u (v : Nat) && hasP ps t (v : Nat)) 0 n
theorem L72 {p : Pair} {o : Option (List OI)} {ps : List PR} {t u : Int} {n lo : Nat} {σ : Store} {r : Nat} (h0 : σ[r]? = some (.mix (ePair p))) (hn : p.up.n = (n : Nat)) (hn2 : n ≤ 1000) (he : (L p.up.edges).length ≤ 10000) (ho : L o = ps.map prO) (hl : ps.length ≤ 1000000) :
    ∀ (k i : Nat), n - i = k → i ≤ n → f72_L0 guardT lo (.p (eLs o)) (.p (pI t)) (.p (pI u)) (.ptr r 0) (.p (pI (i : Nat))) σ = some (.p (.bool (anyFrom (fun v => follows p.up u (v : Nat) && hasP ps t (v : Nat)) i k)), σ)
  | 0, i, hk, hi => by
    have : ¬ (i : Int) < (n : Nat) := by omega
    rw [f72_L0_eq guardT rfl]
    simp only [fa27_1, fa25_0, shift_ptr, Nat.zero_add, Nat.add_zero, load3, pr_3 h0, obind, hn, b_lss, this, decide_false, condK_false, anyFrom]
  | k + 1, i, hk, hi => by
    have h' : (i : Int) < (n : Nat) := by omega
    rw [f72_L0_eq guardT rfl]
    have ih := L72 (t := t) (u := u) (lo := lo) h0 hn hn2 he ho hl k (i + 1) (by omega) (by omega)
    simp only [fa27_1, fa25_0, shift_ptr, Nat.zero_add, Nat.add_zero, load3, pr_3 h0, obind, hn, b_lss, h', decide_true, condK_true, load25, pr_up h0, omap, pureFn_fn, List.append_nil, S50 he]
    cases hf : follows p.up u (i : Nat) with
    | false =>
      simp only [guard_ft, guard_sk, obind, pickV_false, condK_false, b_add, wrap_succ (show i ≤ 1000000 by omega), anyFrom, hf, Bool.false_and, Bool.false_or]
      exact ih
    | true =>
      simp only [guard_tt, obind, pureFn_fn, List.append_nil, S60 ho hl, pickV_true]
      cases hh : hasP ps t (i : Nat) with
      | false =>
        simp only [condK_false, b_add, obind, wrap_succ (show i ≤ 1000000 by omega), anyFrom, hf, hh, Bool.true_and, Bool.false_or]
        exact ih
      | true => simp only [condK_true, anyFrom, hf, hh, Bool.true_and, Bool.true_or]
theorem S72 {p : Pair} {o : Option (List OI)} {ps : List PR} {t u : Int} {n : Nat} {σ : Store} (hn : p.up.n = (n : Nat)) (hn2 : n ≤ 1000) (he : (L p.up.edges).length ≤ 10000) (ho : L o = ps.map prO) (hl : ps.length ≤ 1000000) :
    pureV CC 72 [.agg (ePair p), .p (eLs o), .p (pI t), .p (pI u)] σ = some (.p (.bool (matchP p ps n t u))) := by
  refine pureV_any (by simp [pair_view, ls_view]; exact ⟨rfl, rfl⟩) fun lo σ0 hs => ⟨_, σ0 ++ [.mix (ePair p)], F72_call (r := (.p (.bool (matchP p ps n t u)), σ0 ++ [.mix (ePair p)])) ?_, rfl⟩
  rw [F72_eq]
  simp only [box_pair, obind]
  exact L72 get_snoc hn hn2 he ho hl _ 0 rfl (Nat.zero_le _)

end Go.D
end
/- Relations in the reference: pairs that are kept, the error of a relation. -/
section
set_option linter.unusedVariables false
set_option linter.unusedSimpArgs false
namespace Go.D

theorem idx22z {o : Option (List Int)} {z : Int} (h0 : 0 ≤ z) (h1 : z < ((L o).length : Nat)) : indexAddr PP 22 (.p (eSl o)) (.p (pI z)) = some (.pptr (eInts (L o)) z.toNat) := by
  have h2 : z.toNat < (L o).length := by omega
  have h3 : (z.toNat : Int) = z := by omega
  have := idx22 h2
  rw [h3] at this
  exact this

def keepE (p : Pair) (ps : List PR) (n : Nat) (s u : Int) (e : Edg) : Bool := !decide (e.f = s) || matchP p ps n e.t u
def labOk (p : Pair) (s u : Int) : Bool := decide ((L p.ll).getD s.toNat 0 = (L p.ul).getD u.toNat 0)
def keepP (p : Pair) (ps : List PR) (n : Nat) (s u : Int) : Bool := labOk p s u && (L p.lo.edges).all (keepE p ps n s u)

/-- What is needed of a pair: its sizes. -/
structure Nice (p : Pair) (n m : Nat) : Prop where
  sm : Small p
  un : p.up.n = (n : Nat)
  n2 : n ≤ 1000
  ln : p.lo.n = (m : Nat)
  m2 : m ≤ 1000
  ll : (L p.ll).length = m
  ul : (L p.ul).length = n
  us : ∀ e ∈ L p.up.edges, 0 ≤ e.f ∧ e.f < n ∧ 0 ≤ e.t ∧ e.t < n
  ls : ∀ e ∈ L p.lo.edges, 0 ≤ e.f ∧ e.f < m ∧ 0 ≤ e.t ∧ e.t < m

theorem L62 {p : Pair} {o : Option (List OI)} {ps : List PR} {s u : Int} {n m r : Nat} (hp : Nice p n m) (ho : L o = ps.map prO) (hl : ps.length ≤ 1000000) :
    ∀ (k i : Nat) (σ : Store), σ[r]? = some (.mix (ePair p)) → (L p.lo.edges).length - i = k → i ≤ (L p.lo.edges).length →
      ∃ σ', f62_L0 guardT 0 (.p (eLs o)) (.p (pI s)) (.p (pI u)) (.ptr r 0) (.p (pI (i : Nat))) σ = some (.p (.bool (((L p.lo.edges).drop i).all (keepE p ps n s u))), σ')
  | 0, i, σ, h0, hk, hi => by
    have : ¬ (i : Int) < ((L p.lo.edges).length : Nat) := by omega
    have hd : (L p.lo.edges).drop i = [] := List.drop_eq_nil_of_le (by omega)
    refine ⟨σ, ?_⟩
    rw [f62_L0_eq guardT rfl, hd]
    simp only [fa27_0, fa25_2, shift_ptr, Nat.zero_add, Nat.add_zero, load23, pr_2 h0, obind, len23, b_lss, this, decide_false, condK_false, List.all_nil]
  | k + 1, i, σ, h0, hk, hi => by
    have h : i < (L p.lo.edges).length := by omega
    have h' : (i : Int) < ((L p.lo.edges).length : Nat) := by omega
    have hle := hp.sm.le
    have h0' : (σ ++ [Row.mix (edgD (L p.lo.edges)[i])])[r]? = some (.mix (ePair p)) := get_old h0
    have hx : (σ ++ [Row.mix (edgD (L p.lo.edges)[i])])[σ.length]? = some (.mix (edgD (L p.lo.edges)[i])) := get_snoc
    obtain ⟨σ', ih⟩ := L62 (s := s) (u := u) hp ho hl k (i + 1) _ h0' (by omega) (by omega)
    rw [f62_L0_eq guardT rfl, drop_cons h]
    have w : IntKind.wrap .i64 ((i : Int) + 1) = ((i + 1 : Nat) : Int) := wrap_succ (by omega)
    simp only [fa27_0, fa25_2, shift_ptr, Nat.zero_add, Nat.add_zero, load23, pr_2 h0, obind, len23, b_lss, h', decide_true, condK_true, idx23 h, load100, load100_D h, getD_at _ h, zero100, store_new100 σ (L p.lo.edges)[i] [.p (pI 0), .p (pI 0), .p (pI 0)] rfl]
    generalize hρ : σ ++ [Row.mix (edgD (L p.lo.edges)[i])] = ρ at *
    simp only [fa100_0, fa100_1, shift_ptr, Nat.zero_add, load3, load1_ptr (off := 0) hx rfl, load1_ptr (off := 1) hx rfl, obind, b_eql, List.all_cons, keepE]
    cases e1 : decide ((L p.lo.edges)[i].f = s) with
    | false =>
      refine ⟨σ', ?_⟩
      simp only [guard_ft, guard_sk, obind, pickV_false, condK_false, b_add, w, Bool.not_false, Bool.true_or, Bool.true_and]
      exact ih
    | true =>
      simp only [guard_tt, load27, pr_all h0', omap, obind, load1_ptr (off := 1) hx rfl, pureFn_fn, List.append_nil, S72 hp.un hp.n2 hp.sm.ue ho hl, not_bool, pickV_true, Bool.not_true, Bool.false_or]
      cases e2 : matchP p ps n (L p.lo.edges)[i].t u with
      | false => exact ⟨ρ, by simp only [Bool.not_false, condK_true, Bool.false_and]⟩
      | true =>
        refine ⟨σ', ?_⟩
        simp only [Bool.not_true, condK_false, b_add, obind, w, Bool.true_and]
        exact ih

theorem S62 {p : Pair} {o : Option (List OI)} {ps : List PR} {s u : Int} {n m : Nat} {σ : Store} (hp : Nice p n m) (ho : L o = ps.map prO) (hl : ps.length ≤ 1000000) (hs : 0 ≤ s ∧ s < m) (hu : 0 ≤ u ∧ u < n) :
    pureV CC 62 [.agg (ePair p), .p (eLs o), .p (pI s), .p (pI u)] σ = some (.p (.bool (keepP p ps n s u))) := by
  refine pureV_any (by simp [pair_view, ls_view]; exact ⟨rfl, rfl⟩) fun lo σ0 hs => ?_
  rcases hs with ⟨rfl, rfl, _⟩ | ⟨_, _, h⟩
  case inr => exact absurd h (by simp [rowFree, rowFree1, ePair])
  have g0 : ([Row.mix (ePair p)] : Store)[0]? = some (.mix (ePair p)) := rfl
  have i1 : indexAddr PP 22 (.p (eSl p.ll)) (.p (pI s)) = some (.pptr (eInts (L p.ll)) s.toNat) := idx22z hs.1 (by rw [hp.ll]; exact hs.2)
  have i2 : indexAddr PP 22 (.p (eSl p.ul)) (.p (pI u)) = some (.pptr (eInts (L p.ul)) u.toNat) := idx22z hu.1 (by rw [hp.ul]; exact hu.2)
  have b1 : s.toNat < (L p.ll).length := by rw [hp.ll]; omega
  have b2 : u.toNat < (L p.ul).length := by rw [hp.ul]; omega
  have hF : ∃ σ', F62 guardT 0 (.agg (ePair p)) (.p (eLs o)) (.p (pI s)) (.p (pI u)) [] = some (.p (.bool (keepP p ps n s u)), σ') := by
    rw [F62_eq]
    simp only [box_pair, obind, List.length_nil, List.nil_append, fa27_2, fa27_3, shift_ptr, Nat.zero_add, load22, pr_6 g0, pr_7 g0, i1, i2, load3, load1_getD b1, load1_getD b2, b_neq, keepP, labOk]
    cases e1 : decide ((L p.ll).getD s.toNat 0 = (L p.ul).getD u.toNat 0) with
    | false => exact ⟨[Row.mix (ePair p)], by simp only [Bool.not_false, condK_true, Bool.false_and]⟩
    | true =>
      simp only [Bool.not_true, condK_false, Bool.true_and]
      obtain ⟨σ', h⟩ := L62 (s := s) (u := u) hp ho hl _ 0 _ g0 rfl (Nat.zero_le _)
      exact ⟨σ', h⟩
  obtain ⟨σ', h⟩ := hF
  exact ⟨_, _, F62_call h, rfl⟩

/-! ### The error of a relation -/
def cmpL : List Int → List Int → Int
  | a :: xs, b :: ys => if cmpI a b = 0 then cmpL xs ys else cmpI a b
  | [], [] => 0
  | [], _ :: _ => -1
  | _ :: _, [] => 1
theorem cmpL_first : ∀ (a b : List Int), decide (firstI a b ≥ 0) = !decide (cmpL a b < 0)
  | [], [] => by simp [firstI, cmpL]
  | [], b :: ys => by simp [firstI, cmpL]
  | a :: xs, [] => by simp [firstI, cmpL]
  | a :: xs, b :: ys => by
    have ih := cmpL_first xs ys
    by_cases h : a = b
    · simp [firstI, cmpL, cmpI, h] at ih ⊢; exact ih
    · by_cases h2 : a < b
      · simp [firstI, cmpL, cmpI, h, h2]
      · have h3 : a > b := by omega
        simp [firstI, cmpL, cmpI, h, h2, h3]

/-- The first index at which something is wrong. -/
def firstBad (f : Nat → Int) : Nat → Nat → Option (Nat × Int)
  | _, 0 => none
  | i, k + 1 => if f i = 0 then firstBad f (i + 1) k else some (i, f i)
theorem firstBad_zero {f : Nat → Int} {i k : Nat} (h : f i = 0) : firstBad f i (k + 1) = firstBad f (i + 1) k := by simp [firstBad, h]
theorem firstBad_pos {f : Nat → Int} {i k : Nat} {e : Int} (h : f i = e) (he : e ≠ 0) : firstBad f i (k + 1) = some (i, e) := by simp [firstBad, h, he]
theorem firstBad_none {f : Nat → Int} : ∀ {k i : Nat}, firstBad f i k = none → ∀ j, i ≤ j → j < i + k → f j = 0
  | 0, i, _, j, h1, h2 => by omega
  | k + 1, i, h, j, h1, h2 => by
    unfold firstBad at h
    split at h
    · rename_i h0
      rcases Nat.eq_or_lt_of_le h1 with e | e
      · rw [← e]; exact h0
      · exact firstBad_none h j e (by omega)
    · exact absurd h (by simp)

def x0 (l : List (List Int)) (i : Nat) : Int := (l.getD i []).getD 0 0
def x1 (l : List (List Int)) (i : Nat) : Int := (l.getD i []).getD 1 0
def inBoth (p : Pair) (l : List (List Int)) (i : Nat) : Bool := inR (x0 l i) 0 (pred p.lo.n) && inR (x1 l i) 0 (pred p.up.n)
def upAt (l : List (List Int)) (i : Nat) : Bool := decide (i = 0) || decide (cmpL (l.getD (i - 1) []) (l.getD i []) < 0)
def shapeAt (p : Pair) (l : List (List Int)) (i : Nat) : Int :=
  if (l.getD i []).length = 2 then orL [bif inBoth p l i then 0 else 3, bif upAt l i then 0 else 13] else 6
def psOf (l : List (List Int)) : List PR := l.map fun x => (x.getD 0 0, x.getD 1 0)
def brokenAt (p : Pair) (l : List (List Int)) (n i : Nat) : Int := bif keepP p (psOf l) n (x0 l i) (x1 l i) then 0 else 31
def pairR (o : Option (Nat × Int)) (d : Int × Int) : Int × Int := match o with
  | some r => (r.1, r.2)
  | none => d
def relRes (p : Pair) (n : Nat) (l : List (List Int)) : Int × Int := pairR (firstBad (shapeAt p l) 0 l.length) (pairR (firstBad (brokenAt p l n) 0 l.length) (0, 0))
def tup (q : Int × Int) : DV := .tuple [.p (pI q.1), .p (pI q.2)]
def listsOf (o : Option (List OI)) : List (List Int) := (L o).map L
theorem listsOf_get {o : Option (List OI)} {i : Nat} (h : i < (L o).length) : (listsOf o).getD i [] = L ((L o).getD i none) := by
  rw [getD_at _ (by simpa [listsOf] using h), getD_at _ h]; simp [listsOf]

theorem L37_1 {p : Pair} {o : Option (List OI)} {n m r : Nat} {lo : Nat} {σ : Store} (hp : Nice p n m) (h0 : σ[r]? = some (.mix (ePair p))) (ho : L o = (psOf (listsOf o)).map prO) (hl : (L o).length ≤ 1000) (hin : ∀ i, i < (L o).length → (0 ≤ x0 (listsOf o) i ∧ x0 (listsOf o) i < m) ∧ 0 ≤ x1 (listsOf o) i ∧ x1 (listsOf o) i < n) :
    ∀ (k i : Nat), (L o).length - i = k → i ≤ (L o).length → f37_L1 guardT lo (.p (eLs o)) (.ptr r 0) (.p (pI (i : Nat))) σ = some (tup (pairR (firstBad (brokenAt p (listsOf o) n) i k) (0, 0)), σ)
  | 0, i, hk, hi => by
    have : ¬ (i : Int) < ((L o).length : Nat) := by omega
    rw [f37_L1_eq guardT rfl]
    simp only [len51, b_lss, obind, this, decide_false, condK_false, firstBad, pairR, tup]
  | k + 1, i, hk, hi => by
    have h : i < (L o).length := by omega
    have h' : (i : Int) < ((L o).length : Nat) := by omega
    have hlen : (psOf (listsOf o)).length = (L o).length := by simp [psOf, listsOf]
    have h2 : i < (psOf (listsOf o)).length := by omega
    have eq : (psOf (listsOf o))[i] = (x0 (listsOf o) i, x1 (listsOf o) i) := by simp [psOf, x0, x1, listsOf, List.getD_eq_getElem?_getD, h]
    have hg : (L o).getD i none = prO (x0 (listsOf o) i, x1 (listsOf o) i) := by rw [prs_get ho h2, eq]
    rw [f37_L1_eq guardT rfl]
    have hS := fun σ => S62 (σ := σ) hp ho (by omega) (hin i h).1 (hin i h).2
    have hbr : brokenAt p (listsOf o) n i = bif keepP p (psOf (listsOf o)) n (x0 (listsOf o) i) (x1 (listsOf o) i) then 0 else 31 := rfl
    simp only [len51, b_lss, obind, h', decide_true, condK_true, load27, pr_all h0, omap, idx51 h, load22, load1_ls h, hg, pr_idx0, pr_idx1, load3, ii_ld0, ii_ld1, pureFn_fn, List.append_nil, hS, not_bool]
    cases e : keepP p (psOf (listsOf o)) n (x0 (listsOf o) i) (x1 (listsOf o) i) with
    | false =>
      rw [e] at hbr
      rw [firstBad_pos hbr (by decide)]
      simp only [Bool.not_false, condK_true]; rfl
    | true =>
      rw [e] at hbr
      rw [firstBad_zero hbr]
      simp only [Bool.not_true, condK_false, b_add, obind, wrap_succ (show i ≤ 1000000 by omega)]
      exact L37_1 hp h0 ho hl hin k (i + 1) (by omega) (by omega)

theorem L37_0 {p : Pair} {o : Option (List OI)} {n m r : Nat} {lo : Nat} {σ : Store} (hp : Nice p n m) (h0 : σ[r]? = some (.mix (ePair p))) (hl : (L o).length ≤ 1000) (hx : ∀ x ∈ L o, (L x).length ≤ 1000) :
    ∀ (k i : Nat), (L o).length - i = k → i ≤ (L o).length → f37_L0 guardT lo (.p (eLs o)) (.ptr r 0) (.p (pI (i : Nat))) σ = match firstBad (shapeAt p (listsOf o)) i k with
      | some q => some (tup (q.1, q.2), σ)
      | none => f37_L1 guardT lo (.p (eLs o)) (.ptr r 0) (.p (pI (0 : Nat))) σ
  | 0, i, hk, hi => by
    have : ¬ (i : Int) < ((L o).length : Nat) := by omega
    rw [f37_L0_eq guardT rfl]
    simp only [len51, b_lss, obind, this, decide_false, condK_false, firstBad]
    rfl
  | k + 1, i, hk, hi => by
    have h : i < (L o).length := by omega
    have h' : (i : Int) < ((L o).length : Nat) := by omega
    have ih := L37_0 (lo := lo) hp h0 hl hx k (i + 1) (by omega) (by omega)
    have hxi : (L ((L o).getD i none)).length ≤ 1000 := by rw [getD_at _ h]; exact hx _ (List.getElem_mem h)
    rw [f37_L0_eq guardT rfl]
    simp only [len51, b_lss, obind, h', decide_true, condK_true, idx51 h, load22, load1_ls h, len22, b_neq]
    by_cases e1 : (L ((L o).getD i none)).length = 2
    · have e1' : ((L ((L o).getD i none)).length : Int) = 2 := by omega
      have b0 : 0 < (L ((L o).getD i none)).length := by omega
      have b1 : 1 < (L ((L o).getD i none)).length := by omega
      have hsh : shapeAt p (listsOf o) i = orL [bif inBoth p (listsOf o) i then 0 else 3, bif upAt (listsOf o) i then 0 else 13] := by rw [shapeAt, listsOf_get h, if_pos e1]
      have ex0 : x0 (listsOf o) i = (L ((L o).getD i none)).getD 0 0 := by rw [x0, listsOf_get h]
      have ex1 : x1 (listsOf o) i = (L ((L o).getD i none)).getD 1 0 := by rw [x1, listsOf_get h]
      simp only [e1', decide_true, Bool.not_true, condK_false, idx22_0 b0, idx22_1 b1, load3, load1_getD b0, load1_getD b1, obind, fa27_0, fa27_1, fa25_0, shift_ptr, Nat.zero_add, Nat.add_zero, pr_0 h0, pr_3 h0, b_sub, pureFn_fn, List.append_nil, S22, not_bool, ← ex0, ← ex1]
      have hfin : condK (.p (.bool (!inBoth p (listsOf o) i))) (some (DV.tuple [.p (pI (i : Nat)), .p (pI 3)], σ))
          (condK (.p (.bool (!upAt (listsOf o) i))) (some (DV.tuple [.p (pI (i : Nat)), .p (pI 13)], σ)) (f37_L0 guardT lo (.p (eLs o)) (.ptr r 0) (.p (pI (i + 1 : Nat))) σ)) =
          match firstBad (shapeAt p (listsOf o)) i (k + 1) with
          | some q => some (tup (q.1, q.2), σ)
          | none => f37_L1 guardT lo (.p (eLs o)) (.ptr r 0) (.p (pI (0 : Nat))) σ := by
        cases e2 : inBoth p (listsOf o) i <;> cases e3 : upAt (listsOf o) i <;> rw [e2, e3] at hsh
        · rw [firstBad_pos hsh (by decide)]; rfl
        · rw [firstBad_pos hsh (by decide)]; rfl
        · rw [firstBad_pos hsh (by decide)]; rfl
        · rw [firstBad_zero hsh, ← ih]; rfl
      rw [← hfin]
      have hup : decide ((i : Int) > 0) = !decide (i = 0) := by by_cases e : i = 0 <;> simp [e]; omega
      have hlast : ∀ (y : DV), ((binOp PP .gtr 3 (.p (pI (i : Nat))) (.p (pI 0))).bind fun x49 =>
          guardT _ x49 true (some (.p (eLs o), σ)) σ fun x51 σ13 =>
          guardT _ x49 true (some (.p (pI (i : Nat)), σ13)) σ13 fun x52 σ14 =>
          guardT _ x49 true ((binOp PP .sub 3 x52 (DV.p (PV.int IntKind.i64 (1)))).bind fun v => some (v, σ14)) σ14 fun x53 σ15 =>
          guardT _ x49 true ((indexAddr PP 51 x51 x53).bind fun v => some (v, σ15)) σ15 fun x54 σ16 =>
          guardT _ x49 true ((load1 x54 σ16).bind fun v => some (v, σ16)) σ16 fun x55 σ17 =>
          guardT _ x49 true (some (.p (eLs o), σ17)) σ17 fun x56 σ18 =>
          guardT _ x49 true (some (.p (pI (i : Nat)), σ18)) σ18 fun x57 σ19 =>
          guardT _ x49 true ((indexAddr PP 51 x56 x57).bind fun v => some (v, σ19)) σ19 fun x58 σ20 =>
          guardT _ x49 true ((load1 x58 σ20).bind fun v => some (v, σ20)) σ20 fun x59 σ21 =>
          guardT _ x49 true ((pureV CC 70 [x55, x59] σ21).bind fun v => some (v, σ21)) σ21 fun x60 σ22 =>
          guardT _ x49 true ((binOp PP .geq 3 x60 (DV.p (PV.int IntKind.i64 (0)))).bind fun v => some (v, σ22)) σ22 fun x61 σ23 =>
          (pickV x49 x61 (DV.p (PV.bool false))).bind fun x62 =>
          condK x62 (some ((DV.tuple [.p (pI (i : Nat)), (DV.p (PV.int IntKind.i64 (13)))]), σ23))
           ((binOp PP .add 3 (.p (pI (i : Nat))) (DV.p (PV.int IntKind.i64 (1)))).bind fun x13 => f37_L0 guardT lo (.p (eLs o)) (.ptr r 0) x13 σ23)) =
          condK (.p (.bool (!upAt (listsOf o) i))) (some (DV.tuple [.p (pI (i : Nat)), .p (pI 13)], σ)) (f37_L0 guardT lo (.p (eLs o)) (.ptr r 0) (.p (pI (i + 1 : Nat))) σ) := by
        intro y
        simp only [b_gtr, obind, hup, b_add, wrap_succ (show i ≤ 1000000 by omega), upAt]
        by_cases e0 : i = 0
        · simp only [e0, decide_true, Bool.not_true, guard_ft, guard_sk, obind, pickV_false, Bool.true_or]
        · have h1 : i - 1 < (L o).length := by omega
          have hx1 : (L ((L o).getD (i - 1) none)).length ≤ 1000 := by rw [getD_at _ h1]; exact hx _ (List.getElem_mem h1)
          simp only [e0, decide_false, Bool.not_false, guard_tt, obind, b_sub, wrap_pred (show 0 < i by omega) (show i ≤ 1000000 by omega), idx51 h1, idx51 h, load1_ls h1, load1_ls h, S70 hx1 hxi, b_geq, pickV_true, Bool.false_or, cmpL_first]
          rw [listsOf_get h1, listsOf_get h]
      cases e2 : inR (x0 (listsOf o) i) 0 (pred p.lo.n) with
      | false =>
        simp only [Bool.not_false, guard_tf, guard_sk, obind, pickV_true, condK_true, inBoth, e2, Bool.false_and]
      | true =>
        simp only [Bool.not_true, guard_ff, obind, idx51 h, load1_ls h, idx22_1 b1, load3, load1_getD b1, fa27_1, fa25_0, shift_ptr, Nat.zero_add, Nat.add_zero, pr_3 h0, b_sub, S22, not_bool, pickV_false, inBoth, e2, Bool.true_and, ← ex1]
        cases e3 : inR (x1 (listsOf o) i) 0 (pred p.up.n) with
        | false => simp only [Bool.not_false, condK_true]
        | true =>
          simp only [Bool.not_true, condK_false]
          exact hlast .undef
    · have e1' : ¬ ((L ((L o).getD i none)).length : Int) = 2 := by omega
      have hsh : shapeAt p (listsOf o) i = 6 := by rw [shapeAt, listsOf_get h, if_neg e1]
      rw [firstBad_pos hsh (by decide)]
      simp only [e1', decide_false, Bool.not_false, condK_true]
      rfl

end Go.D
end
/- The error of a relation as a whole; comparisons; sets of pairs in a map. -/
section
set_option linter.unusedVariables false
set_option linter.unusedSimpArgs false
namespace Go.D

theorem shape_zero {p : Pair} {l : List (List Int)} {i : Nat} (h : shapeAt p l i = 0) : (l.getD i []).length = 2 ∧ inBoth p l i = true ∧ upAt l i = true := by
  unfold shapeAt at h
  split at h
  · rename_i h1
    refine ⟨h1, ?_⟩
    cases e1 : inBoth p l i <;> cases e2 : upAt l i <;> simp [e1, e2, orL] at h ⊢
  · exact absurd h (by decide)

theorem two_pr : ∀ {x : OI}, (L x).length = 2 → x = prO ((L x).getD 0 0, (L x).getD 1 0)
  | none, h => by simp at h
  | some [], h => by simp at h
  | some [a], h => by simp at h
  | some [a, b], h => rfl
  | some (a :: b :: c :: l), h => by simp at h

theorem prs_of {o : Option (List OI)} (h : ∀ i, i < (L o).length → ((listsOf o).getD i []).length = 2) : L o = (psOf (listsOf o)).map prO := by
  have : ∀ x ∈ L o, (L x).length = 2 := by
    intro x hx
    obtain ⟨i, hi, rfl⟩ := List.getElem_of_mem hx
    have := h i hi
    rw [listsOf_get hi, getD_at _ hi] at this
    exact this
  unfold psOf listsOf
  rw [List.map_map, List.map_map]
  refine (List.map_id _).symm.trans (List.map_congr_left fun x hx => ?_)
  exact two_pr (this x hx)

theorem in_of {p : Pair} {l : List (List Int)} {n m i : Nat} (hp : Nice p n m) (h : inBoth p l i = true) : (0 ≤ x0 l i ∧ x0 l i < m) ∧ 0 ≤ x1 l i ∧ x1 l i < n := by
  have pu : pred (n : Nat) = (n : Nat) - 1 := wrap_ok (by omega) (by have := hp.n2; omega)
  have pl : pred (m : Nat) = (m : Nat) - 1 := wrap_ok (by omega) (by have := hp.m2; omega)
  simp only [inBoth, inR, hp.un, hp.ln, pu, pl, Bool.and_eq_true, decide_eq_true_eq] at h
  omega

theorem S37 {p : Pair} {o : Option (List OI)} {n m : Nat} {σ : Store} (hp : Nice p n m) (hl : (L o).length ≤ 1000) (hx : ∀ x ∈ L o, (L x).length ≤ 1000) :
    pureV CC 37 [.agg (ePair p), .p (eLs o)] σ = some (tup (relRes p n (listsOf o))) := by
  refine pureV_any (by simp [pair_view, ls_view]) fun lo σ0 hs => ⟨tup (relRes p n (listsOf o)), σ0 ++ [.mix (ePair p)], F37_call ?_, rfl⟩
  rw [F37_eq]
  simp only [box_pair, obind]
  have h0 := L37_0 (r := σ0.length) (lo := lo) (σ := σ0 ++ [.mix (ePair p)]) hp get_snoc hl hx _ 0 rfl (Nat.zero_le _)
  have e0 : f37_L0 guardT lo (.p (eLs o)) (.ptr σ0.length 0) (.p (pI 0)) (σ0 ++ [.mix (ePair p)]) = _ := h0
  rw [e0]
  have hlen : (listsOf o).length = (L o).length := by simp [listsOf]
  unfold relRes
  rw [hlen, Nat.sub_zero]
  cases e : firstBad (shapeAt p (listsOf o)) 0 (L o).length with
  | some q => rfl
  | none =>
    have hz := fun (i : Nat) (hi : i < (L o).length) => shape_zero (firstBad_none e i (Nat.zero_le _) (by omega))
    have h1 := L37_1 (r := σ0.length) (lo := lo) (σ := σ0 ++ [.mix (ePair p)]) hp get_snoc (prs_of fun i hi => (hz i hi).1) hl (fun i hi => in_of hp (hz i hi).2.1) _ 0 rfl (Nat.zero_le _)
    rw [Nat.sub_zero] at h1
    exact h1

/-! ### Lists in order -/
theorem L73 {a b : OI} (ha : (L a).length ≤ 1000) (hb : (L b).length ≤ 1000) {lo : Nat} {σ : Store} :
    ∀ (k i : Nat), (L a).length - i = k → i ≤ (L a).length → i ≤ (L b).length →
      f73_L0 guardT lo (.p (eSl a)) (.p (eSl b)) (.p (eSl a)) (.p (pI ((L a).length : Nat))) (.p (pI (i : Nat))) σ = some (.p (pI (cmpL ((L a).drop i) ((L b).drop i))), σ)
  | 0, i, hk, hi, hj => by
    have e : i = (L a).length := by omega
    have hd : (L a).drop i = [] := List.drop_eq_nil_of_le (by omega)
    have h' : ¬ (i : Int) < ((L a).length : Nat) := by omega
    rw [f73_L0_eq guardT rfl, hd]
    simp only [b_lss, obind, h', decide_false, condK_false, len22]
    by_cases h : (L a).length < (L b).length
    · have h2 : ((L a).length : Int) < ((L b).length : Nat) := by omega
      have h3 : i < (L b).length := by omega
      simp only [h2, decide_true, condK_true, drop_cons h3, cmpL]
    · have h2 : ¬ ((L a).length : Int) < ((L b).length : Nat) := by omega
      have hd2 : (L b).drop i = [] := List.drop_eq_nil_of_le (by omega)
      simp only [h2, decide_false, condK_false, hd2, cmpL]
  | k + 1, i, hk, hi, hj => by
    have h : i < (L a).length := by omega
    have h' : (i : Int) < ((L a).length : Nat) := by omega
    rw [f73_L0_eq guardT rfl, drop_cons h]
    simp only [b_lss, obind, h', decide_true, condK_true, idx22 h, load3, load1_ints h, len22, b_geq]
    by_cases h2 : i < (L b).length
    · have h3 : ¬ (i : Int) ≥ ((L b).length : Nat) := by omega
      simp only [h3, decide_false, condK_false, idx22 h2, load1_ints h2, obind, pureFn_fn, List.append_nil, S68, b_neq, drop_cons h2, cmpL]
      by_cases e : cmpI (L a)[i] (L b)[i] = 0
      · simp only [e, decide_true, Bool.not_true, condK_false, if_true, b_add, obind, wrap_succ (show i ≤ 1000000 by omega)]
        exact L73 ha hb k (i + 1) (by omega) (by omega) (by omega)
      · simp only [e, decide_false, Bool.not_false, condK_true, if_false]
    · have h3 : (i : Int) ≥ ((L b).length : Nat) := by omega
      have hd2 : (L b).drop i = [] := List.drop_eq_nil_of_le (by omega)
      simp only [h3, decide_true, condK_true, hd2, cmpL]

theorem S73 {a b : OI} {σ : Store} (ha : (L a).length ≤ 1000) (hb : (L b).length ≤ 1000) : pureV CC 73 [.p (eSl a), .p (eSl b)] σ = some (.p (pI (cmpL (L a) (L b)))) := by
  refine pureV_any (by simp [sl_view]) fun lo σ0 hs => ⟨_, σ0, F73_call (r := (.p (pI (cmpL (L a) (L b))), σ0)) ?_, rfl⟩
  rw [F73_eq]
  simp only [len22, obind]
  have := L73 (lo := lo) (σ := σ0) ha hb _ 0 rfl (Nat.zero_le _) (Nat.zero_le _)
  simpa using this

/-! ### Sets of pairs -/
def key2 (q : PR) : DV := .agg [.p (pI q.1), .p (pI q.2)]
def ents (ks : List PR) : List (DV × DV) := ks.map fun q => (key2 q, .p (.bool true))
def addP (ks : List PR) (q : PR) : List PR := if hasP ks q.1 q.2 then ks else ks ++ [q]
theorem u115 : PP.underlying 115 = some (.map 111 4) := Eq.trans (by kernel_rfl) rfl
theorem zero115 : zeroOf PP 115 = some [.p .nilmap] := Eq.trans (by kernel_rfl) rfl
theorem zv4 : zeroVal PP 4 = some (.p (.bool false)) := Eq.trans (by kernel_rfl) rfl
theorem load115 (x : DV) (σ : Store) : load PP 115 x σ = load1 x σ := Eq.trans (by kernel_rfl) rfl
theorem build111 (a b : Int) : build PP 111 [(0, .p (pI a)), (1, .p (pI b))] = some (key2 (a, b)) := Eq.trans (by kernel_rfl) rfl
theorem keyOk_2 (q : PR) : keyOk PP 40 111 (key2 q) = true := Eq.trans (by kernel_rfl) rfl
theorem eqAt_2 (q q' : PR) : eqAt PP 40 111 (key2 q) (key2 q') = some (decide (q'.1 = q.1) && decide (q'.2 = q.2)) := by
  have h : eqAt PP 40 111 (key2 q) (key2 q') = (match some (q.1 == q'.1) with
      | some true => (match some (q.2 == q'.2) with | some true => some true | r => r)
      | r => r) := by kernel_rfl
  have a1 : ∀ x y : Int, (x == y) = decide (y = x) := by
    intro x y
    by_cases e : y = x
    · subst e; simp
    · have e' : ¬ x = y := fun h => e h.symm
      simp [e, e']
  rw [h, a1, a1]
  cases decide (q'.1 = q.1) <;> cases decide (q'.2 = q.2) <;> rfl
theorem findKey_2 (q : PR) : ∀ ks : List PR, findKey PP 111 (key2 q) (ents ks) = some (if hasP ks q.1 q.2 then some (.p (.bool true)) else none)
  | [] => rfl
  | k :: ks => by
    have ih := findKey_2 q ks
    have e : ents (k :: ks) = (key2 k, .p (.bool true)) :: ents ks := rfl
    rw [e, findKey, eqAt_2, hasP_cons]
    cases h : decide (k.1 = q.1) && decide (k.2 = q.2) with
    | true => rfl
    | false => simp only [Bool.false_or]; exact ih
theorem updKey_2 (q : PR) : ∀ ks : List PR, updKey PP 111 (key2 q) (.p (.bool true)) (ents ks) = some (ents (addP ks q))
  | [] => rfl
  | k :: ks => by
    have ih := updKey_2 q ks
    have e : ents (k :: ks) = (key2 k, .p (.bool true)) :: ents ks := rfl
    rw [e, updKey, eqAt_2]
    unfold addP
    rw [hasP_cons]
    cases h : decide (k.1 = q.1) && decide (k.2 = q.2) with
    | true =>
      have : k = q := by
        simp only [Bool.and_eq_true, decide_eq_true_eq] at h
        exact Prod.ext h.1 h.2
      subst this
      have e : sameKey (key2 k) (key2 k) = true := by simp [sameKey, key2, sameCells, sameScalar]
      simp only [e, if_true, Bool.true_or]
      rfl
    | false =>
      rw [ih]
      simp only [Bool.false_or, addP]
      by_cases e : hasP ks q.1 q.2 = true
      · simp only [e, if_true, omap]; rfl
      · simp only [e, if_false, omap, Bool.false_eq_true]; rfl
theorem hasP_app (ks : List PR) (q : PR) (s u : Int) : hasP (ks ++ [q]) s u = (hasP ks s u || (decide (q.1 = s) && decide (q.2 = u))) := by simp [hasP]
theorem hasP_add (ks : List PR) (q : PR) (s u : Int) : hasP (addP ks q) s u = hasP (ks ++ [q]) s u := by
  unfold addP
  split
  · rename_i h
    rw [hasP_app]
    by_cases e : q.1 = s ∧ q.2 = u
    · rw [e.1, e.2] at h; simp [h]
    · have : (decide (q.1 = s) && decide (q.2 = u)) = false := by
        cases h1 : decide (q.1 = s) && decide (q.2 = u) with
        | false => rfl
        | true => exact absurd (by simpa using h1) e
      rw [this, Bool.or_false]
  · rfl
theorem mapUpd_2 {σ : Store} {r : Nat} {ks : List PR} (h : σ[r]? = some (.map (ents ks))) (q : PR) : mapUpdate PP 0 115 (.map r) (key2 q) (.p (.bool true)) σ = some (σ.set r (.map (ents (addP ks q)))) := by
  simp [mapUpdate, u115, keyOk_2, h, updKey_2, DV.isUndef]
theorem lookup_2 {σ : Store} {r : Nat} {ks : List PR} (h : σ[r]? = some (.map (ents ks))) (q : PR) : lookup PP 115 (.map r) (key2 q) false σ = some (.p (.bool (hasP ks q.1 q.2))) := by
  simp only [lookup, u115, keyOk_2, if_true, h, findKey_2, zv4]
  cases hasP ks q.1 q.2 <;> rfl

/-! ### The closure that looks into the set -/
theorem S74 {σ : Store} {b r : Nat} {ks : List PR} {t v : Int} (h1 : σ[b]? = some (.mix [.map r])) (h2 : σ[r]? = some (.map (ents ks))) : pureV CC 74 [.p (pI t), .p (pI v), .ptr b 0] σ = some (.p (.bool (hasP ks t v))) := by
  refine pureV_rows rfl rfl (F74_call (r := (.p (.bool (hasP ks t v)), σ)) ?_) rfl
  rw [F74_eq]
  simp only [load115, load1_ptr (off := 0) h1 rfl, obind, build111, lookup_2 h2]

/-! ### answered, for any relation -/
theorem L66 {p : Pair} {n u : Nat} {t : Int} {f : FuncId} {caps : List DV} {lo : Nat} {σ : Store} {q : Nat → Bool} (hu : u < n) (hn : n ≤ 1000)
    (hq : ∀ v : Nat, v < n → pureV CC f (.p (pI t) :: .p (pI (v : Nat)) :: caps) σ = some (.p (.bool (q v)))) :
    ∀ (k i : Nat), n - i = k → i ≤ n → f66_L0 guardT lo (.pptr (graphsV p n) 0) (.p (pI t)) (.p (pI (u : Nat))) (.fn f caps) (.p (pI (n : Nat))) (.p (pI (i : Nat))) σ = some (.p (.bool (anyFrom (fun v => follows p.up (u : Nat) (v : Nat) && q v) i k)), σ)
  | 0, i, hk, hi => by
    have : ¬ (i : Int) < (n : Nat) := by omega
    rw [f66_L0_eq guardT rfl]
    simp only [b_lss, obind, this, decide_false, condK_false, anyFrom]
  | k + 1, i, hk, hi => by
    have h' : (i : Int) < (n : Nat) := by omega
    have h : i < n := by omega
    have ih := L66 (p := p) (lo := lo) hu hn hq k (i + 1) (by omega) (by omega)
    rw [f66_L0_eq guardT rfl]
    simp only [b_lss, obind, h', decide_true, condK_true, pureFn_fn, List.append_nil, S45 hu h, anyFrom]
    cases e1 : follows p.up (u : Nat) (i : Nat) with
    | false =>
      simp only [guard_ft, guard_sk, obind, pickV_false, condK_false, b_add, wrap_succ (show i ≤ 1000000 by omega), Bool.false_and, Bool.false_or]
      exact ih
    | true =>
      simp only [guard_tt, obind, pureFn_fn, List.cons_append, List.nil_append, hq i h, pickV_true, Bool.true_and]
      cases e2 : q i with
      | true => simp only [condK_true, Bool.true_or]
      | false =>
        simp only [condK_false, b_add, obind, wrap_succ (show i ≤ 1000000 by omega), Bool.false_or]
        exact ih

theorem S66 {p : Pair} {n u : Nat} {t : Int} {f : FuncId} {caps : List DV} {σ : Store} {q : Nat → Bool} (hpn : p.up.n = (n : Nat)) (hu : u < n) (hn : n ≤ 1000)
    (hv : caps.map view = caps) (hq : ∀ σ0, AtSt caps σ σ0 → ∀ v : Nat, v < n → pureV CC f (.p (pI t) :: .p (pI (v : Nat)) :: caps) σ0 = some (.p (.bool (q v)))) :
    pureV CC 66 [.pptr (graphsV p n) 0, .p (pI t), .p (pI (u : Nat)), .fn f caps] σ = some (.p (.bool (anyFrom (fun v => follows p.up (u : Nat) (v : Nat) && q v) 0 n))) := by
  refine pureV_any rfl fun lo σ0 hs => ⟨_, σ0, F66_call (r := (.p (.bool (anyFrom (fun v => follows p.up (u : Nat) (v : Nat) && q v) 0 n)), σ0)) ?_, rfl⟩
  have hat : AtSt caps σ σ0 := by
    rcases hs with ⟨h1, _, h3⟩ | ⟨h1, _, _⟩
    · exact .inl ⟨h1, by simpa [rowFree, rowFree1] using h3⟩
    · exact .inr h1
  have h3 : (graphsV p n)[3]? = some (pI (n : Nat)) := by simp [graphsV, ePairP, hpn]
  rw [F66_eq]
  simp only [nil_pptr, obind, fa118_0, fa27_1, fa25_0, shift_pptr, Nat.zero_add, Nat.add_zero, load3, load1_pptr h3]
  exact L66 hu hn (hq σ0 hat) _ 0 rfl (Nat.zero_le _)

end Go.D
end
/- CheckSimulation. -/
section
set_option linter.unusedVariables false
set_option linter.unusedSimpArgs false
namespace Go.D

def st35 (p : Pair) (ks : List PR) : Store := [.mix (ePair p), .map (ents ks), .mix [.map 1]]
structure RS (p : Pair) (ks : List PR) (σ : Store) : Prop where
  h0 : σ[0]? = some (.mix (ePair p))
  h1 : σ[1]? = some (.map (ents ks))
  h2 : σ[2]? = some (.mix [.map 1])
theorem RS.snoc {p : Pair} {ks : List PR} {σ : Store} (h : RS p ks σ) (r : Row) : RS p ks (σ ++ [r]) := ⟨get_old h.h0, get_old h.h1, get_old h.h2⟩
theorem rs_st (p : Pair) (ks : List PR) : RS p ks (st35 p ks) := ⟨rfl, rfl, rfl⟩

section
variable {p : Pair} {o : Option (List OI)} {n m : Nat} {ks : List PR}

theorem L35_2 (hp : Nice p n m) {i : Nat} {s : Int} {u : Nat} (hu : u < n) (hi : i ≤ 1000) :
    ∀ (k j : Nat) (b : Bool) (σ : Store), (L p.lo.edges).length - j = k → j ≤ (L p.lo.edges).length → RS p ks σ →
      ∃ σ', RS p ks σ' ∧ f35_L2 guardT 0 (.ptr 0 0) (.pptr (graphsV p n) 0) (.fn 74 [.ptr 2 0]) (.p (pI (i : Nat))) (.p (eSl (prO (s, (u : Nat))))) (.p (.bool b)) (.p (eLs o)) (.p (pI ((L o).length : Nat))) (.p (pI (i : Nat))) (.p (eEs p.lo.edges)) (.p (pI ((L p.lo.edges).length : Nat))) (.p (pI (j : Nat))) σ =
        condK (.p (.bool (!(b && ((L p.lo.edges).drop j).all (keepE p ks n s (u : Nat)))))) (some (tup ((i : Nat), 31), σ')) (f35_L1 guardT 0 (.ptr 0 0) (.pptr (graphsV p n) 0) (.fn 74 [.ptr 2 0]) (.p (eLs o)) (.p (pI ((L o).length : Nat))) (.p (pI (i + 1 : Nat))) σ')
  | 0, j, b, σ, hk, hj, h => by
    have h' : ¬ (j : Int) < ((L p.lo.edges).length : Nat) := by omega
    have hd : (L p.lo.edges).drop j = [] := List.drop_eq_nil_of_le (by omega)
    refine ⟨σ, h, ?_⟩
    rw [f35_L2_eq guardT rfl, hd]
    simp only [b_lss, obind, h', decide_false, condK_false, not_bool, List.all_nil, Bool.and_true, b_add, wrap_succ (show i ≤ 1000000 by omega)]
    rfl
  | k + 1, j, b, σ, hk, hj, h => by
    have hlt : j < (L p.lo.edges).length := by omega
    have h' : (j : Int) < ((L p.lo.edges).length : Nat) := by omega
    have hle := hp.sm.le
    have hx : (σ ++ [Row.mix (edgD (L p.lo.edges)[j])])[σ.length]? = some (.mix (edgD (L p.lo.edges)[j])) := get_snoc
    have hρ' := h.snoc (Row.mix (edgD (L p.lo.edges)[j]))
    have w : IntKind.wrap .i64 ((j : Int) + 1) = ((j + 1 : Nat) : Int) := wrap_succ (by omega)
    rw [drop_cons hlt]
    have ih := fun b' => L35_2 hp (s := s) hu hi k (j + 1) b' _ (by omega) (by omega) hρ'
    suffices hs : f35_L2 guardT 0 (.ptr 0 0) (.pptr (graphsV p n) 0) (.fn 74 [.ptr 2 0]) (.p (pI (i : Nat))) (.p (eSl (prO (s, (u : Nat))))) (.p (.bool b)) (.p (eLs o)) (.p (pI ((L o).length : Nat))) (.p (pI (i : Nat))) (.p (eEs p.lo.edges)) (.p (pI ((L p.lo.edges).length : Nat))) (.p (pI (j : Nat))) σ =
        f35_L2 guardT 0 (.ptr 0 0) (.pptr (graphsV p n) 0) (.fn 74 [.ptr 2 0]) (.p (pI (i : Nat))) (.p (eSl (prO (s, (u : Nat))))) (.p (.bool (b && keepE p ks n s (u : Nat) (L p.lo.edges)[j]))) (.p (eLs o)) (.p (pI ((L o).length : Nat))) (.p (pI (i : Nat))) (.p (eEs p.lo.edges)) (.p (pI ((L p.lo.edges).length : Nat))) (.p (pI (j + 1 : Nat))) (σ ++ [Row.mix (edgD (L p.lo.edges)[j])]) by
      obtain ⟨σ', h1, h2⟩ := ih (b && keepE p ks n s (u : Nat) (L p.lo.edges)[j])
      refine ⟨σ', h1, ?_⟩
      rw [hs, h2, List.all_cons, Bool.and_assoc]
    rw [f35_L2_eq guardT rfl]
    simp only [b_lss, obind, h', decide_true, condK_true, idx23 hlt, load100, load100_D hlt, getD_at _ hlt, zero100, store_new100 σ (L p.lo.edges)[j] [.p (pI 0), .p (pI 0), .p (pI 0)] rfl]
    generalize hρ : σ ++ [Row.mix (edgD (L p.lo.edges)[j])] = ρ at *
    cases b with
    | false => simp only [guard_ft, guard_sk, obind, pickV_false, b_add, w, Bool.false_and]
    | true =>
      simp only [guard_tt, fa100_0, fa100_1, shift_ptr, Nat.zero_add, load3, load1_ptr (off := 0) hx rfl, load1_ptr (off := 1) hx rfl, obind, pr_idx0, pr_idx1, ii_ld0, ii_ld1, b_neq, keepE, Bool.true_and]
      cases e1 : decide ((L p.lo.edges)[j].f = s) with
      | false => simp only [Bool.not_false, guard_tf, guard_sk, obind, pickV_true, b_add, w, Bool.true_or]
      | true =>
        have hS : pureV CC 66 [.pptr (graphsV p n) 0, .p (pI (L p.lo.edges)[j].t), .p (pI (u : Nat)), .fn 74 [.ptr 2 0]] ρ = some (.p (.bool (matchP p ks n (L p.lo.edges)[j].t (u : Nat)))) := by
          refine S66 hp.un hu hp.n2 rfl fun σ0 hat v _ => ?_
          rcases hat with ⟨_, hf⟩ | rfl
          · exact absurd hf (by decide)
          · exact S74 hρ'.h2 hρ'.h1
        simp only [Bool.not_true, guard_ff, load1_ptr (off := 1) hx rfl, pr_idx1, ii_ld1, obind, pureFn_fn, List.append_nil, hS, pickV_false, pickV_true, b_add, w, Bool.false_or]

theorem keepP_congr {ks' : List PR} (h : ∀ s u, hasP ks s u = hasP ks' s u) (s u : Int) : keepP p ks n s u = keepP p ks' n s u := by
  have e : ∀ t u, matchP p ks n t u = matchP p ks' n t u := by
    intro t u; unfold matchP; simp only [h]
  have e2 : ∀ e, keepE p ks n s u e = keepE p ks' n s u e := by
    intro e'; unfold keepE; rw [e]
  unfold keepP
  rw [show keepE p ks n s u = keepE p ks' n s u from funext e2]

theorem L35_1 (hp : Nice p n m) (hks : ∀ s u, hasP ks s u = hasP (psOf (listsOf o)) s u) (ho : L o = (psOf (listsOf o)).map prO) (hl : (L o).length ≤ 1000) (hin : ∀ i, i < (L o).length → (0 ≤ x0 (listsOf o) i ∧ x0 (listsOf o) i < m) ∧ 0 ≤ x1 (listsOf o) i ∧ x1 (listsOf o) i < n) :
    ∀ (k i : Nat) (σ : Store), (L o).length - i = k → i ≤ (L o).length → RS p ks σ →
      ∃ σ', f35_L1 guardT 0 (.ptr 0 0) (.pptr (graphsV p n) 0) (.fn 74 [.ptr 2 0]) (.p (eLs o)) (.p (pI ((L o).length : Nat))) (.p (pI (i : Nat))) σ = some (tup (pairR (firstBad (brokenAt p (listsOf o) n) i k) (0, 0)), σ')
  | 0, i, σ, hk, hi, h => by
    have : ¬ (i : Int) < ((L o).length : Nat) := by omega
    refine ⟨σ, ?_⟩
    rw [f35_L1_eq guardT rfl]
    simp only [b_lss, obind, this, decide_false, condK_false, firstBad, pairR, tup]
  | k + 1, i, σ, hk, hi, h => by
    have hlt : i < (L o).length := by omega
    have h' : (i : Int) < ((L o).length : Nat) := by omega
    have h2 : i < (psOf (listsOf o)).length := by simpa [psOf, listsOf] using hlt
    have eq : (psOf (listsOf o))[i] = (x0 (listsOf o) i, x1 (listsOf o) i) := by simp [psOf, x0, x1, listsOf, List.getD_eq_getElem?_getD, hlt]
    have hg : (L o).getD i none = prO (x0 (listsOf o) i, x1 (listsOf o) i) := by rw [prs_get ho h2, eq]
    obtain ⟨hs, hu⟩ := hin i hlt
    have hbr : brokenAt p (listsOf o) n i = bif keepP p (psOf (listsOf o)) n (x0 (listsOf o) i) (x1 (listsOf o) i) then 0 else 31 := rfl
    generalize es : x0 (listsOf o) i = s at *
    generalize eu : x1 (listsOf o) i = u at *
    have i1 : indexAddr PP 22 (.p (eSl p.ll)) (.p (pI s)) = some (.pptr (eInts (L p.ll)) s.toNat) := idx22z hs.1 (by rw [hp.ll]; exact hs.2)
    have i2 : indexAddr PP 22 (.p (eSl p.ul)) (.p (pI u)) = some (.pptr (eInts (L p.ul)) u.toNat) := idx22z hu.1 (by rw [hp.ul]; exact hu.2)
    have b1 : s.toNat < (L p.ll).length := by rw [hp.ll]; omega
    have b2 : u.toNat < (L p.ul).length := by rw [hp.ul]; omega
    have eu2 : u = (u.toNat : Nat) := by omega
    obtain ⟨σ', h3, h4⟩ := L35_2 (o := o) (i := i) (s := s) hp (show u.toNat < n by omega) (by omega) _ 0 (labOk p s u) σ rfl (Nat.zero_le _) h
    rw [← eu2, List.drop_zero] at h4
    have h4' : f35_L2 guardT 0 (.ptr 0 0) (.pptr (graphsV p n) 0) (.fn 74 [.ptr 2 0]) (.p (pI (i : Nat))) (.p (eSl (prO (s, u)))) (.p (.bool (labOk p s u))) (.p (eLs o)) (.p (pI ((L o).length : Nat))) (.p (pI (i : Nat))) (.p (eEs p.lo.edges)) (.p (pI ((L p.lo.edges).length : Nat))) (.p (pI 0)) σ = _ := h4
    have hbody : f35_L1 guardT 0 (.ptr 0 0) (.pptr (graphsV p n) 0) (.fn 74 [.ptr 2 0]) (.p (eLs o)) (.p (pI ((L o).length : Nat))) (.p (pI (i : Nat))) σ = condK (.p (.bool (!(labOk p s u && (L p.lo.edges).all (keepE p ks n s u))))) (some (tup ((i : Nat), 31), σ')) (f35_L1 guardT 0 (.ptr 0 0) (.pptr (graphsV p n) 0) (.fn 74 [.ptr 2 0]) (.p (eLs o)) (.p (pI ((L o).length : Nat))) (.p (pI (i + 1 : Nat))) σ') := by
      rw [f35_L1_eq guardT rfl]
      simp only [b_lss, obind, h', decide_true, condK_true, idx51 hlt, load22, load1_ls hlt, hg, fa27_0, fa27_2, fa27_3, fa25_2, shift_ptr, Nat.zero_add, Nat.add_zero, pr_6 h.h0, pr_7 h.h0, pr_idx0, pr_idx1, load3, ii_ld0, ii_ld1, i1, i2, load1_getD b1, load1_getD b2, b_eql, load23, pr_2 h.h0, len23]
      rw [← h4']
      rfl
    rw [hbody]
    have ek : (labOk p s u && (L p.lo.edges).all (keepE p ks n s u)) = keepP p (psOf (listsOf o)) n s u := keepP_congr hks s u
    rw [ek]
    cases e : keepP p (psOf (listsOf o)) n s u with
    | false =>
      rw [e] at hbr
      rw [firstBad_pos hbr (by decide)]
      exact ⟨σ', rfl⟩
    | true =>
      rw [e] at hbr
      rw [firstBad_zero hbr]
      simp only [Bool.not_true, condK_false]
      exact L35_1 hp hks ho hl hin k (i + 1) σ' (by omega) (by omega) h3

theorem bs122_2 (x y : Int) (σ : Store) : buildSlice PP none 122 2 [(0, .p (pI x)), (1, .p (pI y))] σ = some (.p (.sl true 2 (eInts [x, y])), σ) := Eq.trans (by kernel_rfl) rfl

/-- The loop over the shapes; what it goes on with. -/
noncomputable def next35 (p : Pair) (o : Option (List OI)) (n : Nat) (ks : List PR) : Option (DV × Store) :=
  f35_L1 guardT 0 (.ptr 0 0) (.pptr (graphsV p n) 0) (.fn 74 [.ptr 2 0]) (.p (eLs o)) (.p (pI ((L o).length : Nat))) (.p (pI (0 : Nat))) (st35 p ks)

theorem L35_0 (hp : Nice p n m) (hl : (L o).length ≤ 1000) (hx : ∀ x ∈ L o, (L x).length ≤ 1000) :
    ∀ (k i : Nat) (ks : List PR), (L o).length - i = k → i ≤ (L o).length → (∀ s u, hasP ks s u = hasP (psOf ((listsOf o).take i)) s u) →
      ∃ ks', ((firstBad (shapeAt p (listsOf o)) i k = none → ∀ s u, hasP ks' s u = hasP (psOf (listsOf o)) s u) ∧
        f35_L0 guardT 0 (.p (eLs o)) (.ptr 0 0) (.ptr 2 0) (.p (eLs o)) (.p (pI ((L o).length : Nat))) (.p (pI (i : Nat))) (st35 p ks) = match firstBad (shapeAt p (listsOf o)) i k with
          | some q => some (tup (q.1, q.2), st35 p ks')
          | none => next35 p o n ks')
  | 0, i, ks, hk, hi, hks => by
    have hlen : (listsOf o).length = (L o).length := by simp [listsOf]
    have : ¬ (i : Int) < ((L o).length : Nat) := by omega
    have h0 : (st35 p ks)[0]? = some (.mix (ePair p)) := rfl
    refine ⟨ks, fun _ => ?_, ?_⟩
    · intro s u
      rw [hks, List.take_of_length_le (by omega)]
    · rw [f35_L0_eq guardT rfl]
      simp only [b_lss, obind, this, decide_false, condK_false, firstBad, load27, pr_all h0, omap, pureFn_fn, List.append_nil, S43 hp.sm hp.un hp.n2 hp.us, len51]
      rfl
  | k + 1, i, ks, hk, hi, hks => by
    have h : i < (L o).length := by omega
    have h' : (i : Int) < ((L o).length : Nat) := by omega
    have hxi : (L ((L o).getD i none)).length ≤ 1000 := by rw [getD_at _ h]; exact hx _ (List.getElem_mem h)
    have h0 : (st35 p ks)[0]? = some (.mix (ePair p)) := rfl
    have h1 : (st35 p ks)[1]? = some (.map (ents ks)) := rfl
    have h2 : (st35 p ks)[2]? = some (.mix [.map 1]) := rfl
    rw [f35_L0_eq guardT rfl]
    simp only [b_lss, obind, h', decide_true, condK_true, idx51 h, load22, load1_ls h, len22, b_neq]
    by_cases e1 : (L ((L o).getD i none)).length = 2
    · have e1' : ((L ((L o).getD i none)).length : Int) = 2 := by omega
      have b0 : 0 < (L ((L o).getD i none)).length := by omega
      have b1 : 1 < (L ((L o).getD i none)).length := by omega
      have hsh : shapeAt p (listsOf o) i = orL [bif inBoth p (listsOf o) i then 0 else 3, bif upAt (listsOf o) i then 0 else 13] := by rw [shapeAt, listsOf_get h, if_pos e1]
      have ex0 : x0 (listsOf o) i = (L ((L o).getD i none)).getD 0 0 := by rw [x0, listsOf_get h]
      have ex1 : x1 (listsOf o) i = (L ((L o).getD i none)).getD 1 0 := by rw [x1, listsOf_get h]
      have hup0 : decide ((i : Int) = 0) = decide (i = 0) := by simp only [decide_eq_decide]; omega
      have hupd := mapUpd_2 h1 (x0 (listsOf o) i, x1 (listsOf o) i)
      have hset : (st35 p ks).set 1 (.map (ents (addP ks (x0 (listsOf o) i, x1 (listsOf o) i)))) = st35 p (addP ks (x0 (listsOf o) i, x1 (listsOf o) i)) := rfl
      have hks' : ∀ s u, hasP (addP ks (x0 (listsOf o) i, x1 (listsOf o) i)) s u = hasP (psOf ((listsOf o).take (i + 1))) s u := by
        intro s u
        have hlt : i < (listsOf o).length := by simpa [listsOf] using h
        rw [hasP_add, List.take_succ_eq_append_getElem hlt]
        unfold psOf at hks ⊢
        rw [List.map_append, List.map_singleton, hasP_app, hasP_app, hks]
        have : (listsOf o)[i] = (listsOf o).getD i [] := by rw [getD_at _ hlt]
        rw [this]; rfl
      obtain ⟨ks', g1, g2⟩ := L35_0 hp hl hx k (i + 1) _ (by omega) (by omega) hks'
      simp only [e1', decide_true, Bool.not_true, condK_false, idx22_0 b0, idx22_1 b1, load3, load1_getD b0, load1_getD b1, obind, fa27_0, fa27_1, fa25_0, shift_ptr, Nat.zero_add, Nat.add_zero, pr_0 h0, pr_3 h0, b_sub, b_eql, pureFn_fn, List.append_nil, S53, S56, ← ex0, ← ex1, hup0]
      have htail : ∀ bi bu : Bool, bi = inBoth p (listsOf o) i → bu = upAt (listsOf o) i →
          ∃ ks', ((firstBad (shapeAt p (listsOf o)) i (k + 1) = none → ∀ s u, hasP ks' s u = hasP (psOf (listsOf o)) s u) ∧
          ((buildSlice PP none 122 2 [(0, .p (pI (if bi then 0 else 3))), (1, .p (pI (if bu then 0 else 13)))] (st35 p ks)).bind fun r67_18 =>
            (pureV CC 54 [r67_18.1] r67_18.2).bind fun x68 =>
            (binOp PP .neq 30 x68 (DV.p (PV.int IntKind.i64 (0)))).bind fun x70 =>
            condK x70 (some ((DV.tuple [.p (pI (i : Nat)), x68]), r67_18.2))
             ((load PP 115 (.ptr 2 0) r67_18.2).bind fun x73 =>
              (build PP 111 [(0, .p (pI (x0 (listsOf o) i))), (1, .p (pI (x1 (listsOf o) i)))]).bind fun x80 =>
              (mapUpdate PP 0 115 x73 x80 (DV.p (PV.bool true)) r67_18.2).bind fun σ19 =>
              (binOp PP .add 3 (.p (pI (i : Nat))) (DV.p (PV.int IntKind.i64 (1)))).bind fun x81 =>
              f35_L0 guardT 0 (.p (eLs o)) (.ptr 0 0) (.ptr 2 0) (.p (eLs o)) (.p (pI ((L o).length : Nat))) x81 σ19)) =
          match firstBad (shapeAt p (listsOf o)) i (k + 1) with
          | some q => some (tup (q.1, q.2), st35 p ks')
          | none => next35 p o n ks') := by
        intro bi bu h3 h4
        rw [← h3, ← h4] at hsh
        have hS : ∀ (x y : Int) (σ : Store), pureV CC 54 [.p (eSl (some [x, y]))] σ = some (.p (pI (orL [x, y]))) := fun x y σ => S54 (o := some [x, y]) (by simp)
        have e54 : ∀ (x y : Int) (σ : Store), pureV CC 54 [.p (.sl true 2 (eInts [x, y]))] σ = some (.p (pI (orL [x, y]))) := by
          intro x y σ
          rw [← hS x y σ]
          exact pureV_view (by simp [view, viewCell, loosen, loosens_ints, eSl]) (by simp [sl_view])
        simp only [bs122_2, obind, e54, b_neq]
        cases bi with
        | false =>
          refine ⟨ks, ?_, ?_⟩
          · rw [firstBad_pos hsh (by cases bu <;> decide)]; intro hh; exact absurd hh (by simp)
          · rw [firstBad_pos hsh (by cases bu <;> decide)]; cases bu <;> rfl
        | true =>
          cases bu with
          | false =>
            refine ⟨ks, ?_, ?_⟩
            · rw [firstBad_pos hsh (by decide)]; intro hh; exact absurd hh (by simp)
            · rw [firstBad_pos hsh (by decide)]; rfl
          | true =>
            refine ⟨ks', ?_, ?_⟩
            · rw [firstBad_zero hsh]; exact g1
            · rw [firstBad_zero hsh, ← g2]
              have ez : orL [if True then (0 : Int) else 3, if True then (0 : Int) else 13] = 0 := by decide
              simp only [ez, decide_true, Bool.not_true, condK_false, load115, load1_ptr (off := 0) h2 rfl, obind, build111, hupd, hset, b_add, wrap_succ (show i ≤ 1000000 by omega)]
      have hlast : ∀ bi : Bool, bi = inBoth p (listsOf o) i →
          ∃ ks', ((firstBad (shapeAt p (listsOf o)) i (k + 1) = none → ∀ s u, hasP ks' s u = hasP (psOf (listsOf o)) s u) ∧
          (guardT _ (.p (.bool (decide (i = 0)))) false (some (.p (eLs o), st35 p ks)) (st35 p ks) fun x57 σ10 =>
            guardT _ (.p (.bool (decide (i = 0)))) false (some (.p (pI (i : Nat)), σ10)) σ10 fun x58 σ11 =>
            guardT _ (.p (.bool (decide (i = 0)))) false ((binOp PP .sub 3 x58 (DV.p (PV.int IntKind.i64 (1)))).bind fun v => some (v, σ11)) σ11 fun x59 σ12 =>
            guardT _ (.p (.bool (decide (i = 0)))) false ((indexAddr PP 51 x57 x59).bind fun v => some (v, σ12)) σ12 fun x60 σ13 =>
            guardT _ (.p (.bool (decide (i = 0)))) false ((load1 x60 σ13).bind fun v => some (v, σ13)) σ13 fun x61 σ14 =>
            guardT _ (.p (.bool (decide (i = 0)))) false (some (.p (eSl ((L o).getD i none)), σ14)) σ14 fun x62 σ15 =>
            guardT _ (.p (.bool (decide (i = 0)))) false ((pureV CC 73 [x61, x62] σ15).bind fun v => some (v, σ15)) σ15 fun x63 σ16 =>
            guardT _ (.p (.bool (decide (i = 0)))) false ((binOp PP .lss 3 x63 (DV.p (PV.int IntKind.i64 (0)))).bind fun v => some (v, σ16)) σ16 fun x64 σ17 =>
            (pickV (.p (.bool (decide (i = 0)))) (DV.p (PV.bool true)) x64).bind fun x65 =>
            (pureV CC 56 [x65, (DV.p (PV.int IntKind.i64 (13)))] σ17).bind fun x66 =>
            (buildSlice PP none 122 2 [(0, .p (pI (if bi then 0 else 3))), (1, x66)] σ17).bind fun r67_18 =>
            (pureV CC 54 [r67_18.1] r67_18.2).bind fun x68 =>
            (binOp PP .neq 30 x68 (DV.p (PV.int IntKind.i64 (0)))).bind fun x70 =>
            condK x70 (some ((DV.tuple [.p (pI (i : Nat)), x68]), r67_18.2))
             ((load PP 115 (.ptr 2 0) r67_18.2).bind fun x73 =>
              (build PP 111 [(0, .p (pI (x0 (listsOf o) i))), (1, .p (pI (x1 (listsOf o) i)))]).bind fun x80 =>
              (mapUpdate PP 0 115 x73 x80 (DV.p (PV.bool true)) r67_18.2).bind fun σ19 =>
              (binOp PP .add 3 (.p (pI (i : Nat))) (DV.p (PV.int IntKind.i64 (1)))).bind fun x81 =>
              f35_L0 guardT 0 (.p (eLs o)) (.ptr 0 0) (.ptr 2 0) (.p (eLs o)) (.p (pI ((L o).length : Nat))) x81 σ19)) =
          match firstBad (shapeAt p (listsOf o)) i (k + 1) with
          | some q => some (tup (q.1, q.2), st35 p ks')
          | none => next35 p o n ks') := by
        intro bi h3
        by_cases e0 : i = 0
        · have := htail bi true h3 (by simp [upAt, e0])
          refine this.imp fun ks' hh => ⟨hh.1, Eq.trans ?_ hh.2⟩
          simp only [e0, decide_true, guard_tf, guard_sk, obind, pickV_true, S56]
        · have h4 : i - 1 < (L o).length := by omega
          have hx1 : (L ((L o).getD (i - 1) none)).length ≤ 1000 := by rw [getD_at _ h4]; exact hx _ (List.getElem_mem h4)
          have := htail bi (decide (cmpL (L ((L o).getD (i - 1) none)) (L ((L o).getD i none)) < 0)) h3 (by rw [upAt, listsOf_get h4, listsOf_get h]; simp [e0])
          refine this.imp fun ks' hh => ⟨hh.1, Eq.trans ?_ hh.2⟩
          simp only [e0, decide_false, guard_ff, obind, b_sub, wrap_pred (show 0 < i by omega) (show i ≤ 1000000 by omega), idx51 h4, load1_ls h4, S73 hx1 hxi, b_lss, pickV_false, S56]
      cases e2 : inR (x0 (listsOf o) i) 0 (pred p.lo.n) with
      | false =>
        have := hlast false (by simp [inBoth, e2])
        refine this.imp fun ks' hh => ⟨hh.1, Eq.trans ?_ hh.2⟩
        simp only [guard_ft, guard_sk, obind, pickV_false, S56]
      | true =>
        have := hlast (inR (x1 (listsOf o) i) 0 (pred p.up.n)) (by simp [inBoth, e2])
        refine this.imp fun ks' hh => ⟨hh.1, Eq.trans ?_ hh.2⟩
        simp only [guard_tt, obind, idx22_1 b1, load3, load1_getD b1, fa27_1, fa25_0, shift_ptr, Nat.zero_add, Nat.add_zero, pr_3 h0, b_sub, S53, pickV_true, S56, ← ex1]
    · have e1' : ¬ ((L ((L o).getD i none)).length : Int) = 2 := by omega
      have hsh : shapeAt p (listsOf o) i = 6 := by rw [shapeAt, listsOf_get h, if_neg e1]
      refine ⟨ks, ?_, ?_⟩
      · rw [firstBad_pos hsh (by decide)]; intro hh; exact absurd hh (by simp)
      · rw [firstBad_pos hsh (by decide)]
        simp only [e1', decide_false, Bool.not_false, condK_true]
        rfl

theorem S35_ok {σ : Store} (hp : Nice p n m) (he : errP p = 0) (hl : (L o).length ≤ 1000) (hx : ∀ x ∈ L o, (L x).length ≤ 1000) :
    pureV CC 35 [.agg (ePair p), .p (eLs o)] σ = some (tup (relRes p n (listsOf o))) := by
  have hlen : (listsOf o).length = (L o).length := by simp [listsOf]
  obtain ⟨ks, h1, h2⟩ := L35_0 hp hl hx _ 0 [] rfl (Nat.zero_le _) (fun s u => rfl)
  have hF : ∃ σ', F35 guardT 0 (.agg (ePair p)) (.p (eLs o)) [] = some (tup (relRes p n (listsOf o)), σ') := by
    have g0 : ([Row.mix (ePair p)] : Store)[0]? = some (.mix (ePair p)) := rfl
    have hst : store PP 0 115 (.ptr 2 0) (.map 1) [Row.mix (ePair p), Row.map [], Row.mix [.p .nilmap]] = some (st35 p []) := by kernel_rfl
    rw [F35_eq]
    simp only [box_pair, obind, List.length_nil, List.nil_append, List.length_cons, List.cons_append, Nat.zero_add, Nat.reduceAdd, load27, pr_all g0, omap, pureFn_fn, List.append_nil, S41 hp.sm, he, b_neq, decide_true, Bool.not_true, condK_false, zero115, hst, len51]
    have h2' : f35_L0 guardT 0 (.p (eLs o)) (.ptr 0 0) (.ptr 2 0) (.p (eLs o)) (.p (pI ((L o).length : Nat))) (.p (pI 0)) (st35 p []) = _ := h2
    rw [h2']
    unfold relRes
    rw [hlen, Nat.sub_zero] at *
    cases e : firstBad (shapeAt p (listsOf o)) 0 (L o).length with
    | some q => exact ⟨_, rfl⟩
    | none =>
      have hz := fun (i : Nat) (hi : i < (L o).length) => shape_zero (firstBad_none e i (Nat.zero_le _) (by omega))
      obtain ⟨σ', h3⟩ := L35_1 hp (h1 e) (prs_of fun i hi => (hz i hi).1) hl (fun i hi => in_of hp (hz i hi).2.1) _ 0 (st35 p ks) rfl (Nat.zero_le _) (rs_st p ks)
      exact ⟨σ', by rw [Nat.sub_zero] at h3; exact h3⟩
  refine pureV_any (by simp [pair_view, ls_view]) fun lo σ0 hs => ?_
  rcases hs with ⟨rfl, rfl, _⟩ | ⟨_, _, h⟩
  case inr => exact absurd h (by simp [rowFree, rowFree1, ePair])
  obtain ⟨σ', h⟩ := hF
  exact ⟨_, _, F35_call h, rfl⟩

theorem S35_bad {σ : Store} (hp : Small p) (he : errP p ≠ 0) : pureV CC 35 [.agg (ePair p), .p (eLs o)] σ = some (tup (0, errP p)) := by
  refine pureV_any (by simp [pair_view, ls_view]) fun lo σ0 hs => ⟨tup (0, errP p), σ0 ++ [.mix (ePair p)], F35_call ?_, rfl⟩
  rw [F35_eq]
  have g0 : (σ0 ++ [Row.mix (ePair p)])[σ0.length]? = some (.mix (ePair p)) := get_snoc
  simp only [box_pair, obind, load27, pr_all g0, omap, pureFn_fn, List.append_nil, S41 hp, b_neq, he, decide_false, Bool.not_false, condK_true]
  rfl

end
end Go.D
end
/- RefineRelations: what the law answers, if awake answers true. -/
section
set_option linter.unusedVariables false
set_option linter.unusedSimpArgs false
namespace Go.D

theorem nice_of {p : Pair} (hp : Small p) (he : errP p = 0) : Nice p p.up.n.toNat p.lo.n.toNat := by
  have h1 : e1P p = 0 := orL_zero he _ (by simp)
  have h3 : e3P p = 0 := orL_zero he _ (by simp)
  have g1 : isG p.lo = true ∧ isG p.up = true := by
    unfold e1P at h1
    split at h1
    · rename_i h; simpa using h
    · omega
  have g3 : ((L p.ll).length : Int) = p.lo.n ∧ ((L p.ul).length : Int) = p.up.n := by
    unfold e3P at h3
    split at h3
    · rename_i h; simpa using h
    · omega
  have hup := g1.2
  have hlo := g1.1
  simp only [isG, Bool.and_eq_true, decide_eq_true_eq] at hup hlo
  have nu : 0 ≤ p.up.n ∧ p.up.n ≤ 400 := by simpa [inR] using hup.1.1.1
  have nl : 0 ≤ p.lo.n ∧ p.lo.n ≤ 400 := by simpa [inR] using hlo.1.1.1
  have pu : pred p.up.n = p.up.n - 1 := wrap_ok (by omega) (by omega)
  have pl : pred p.lo.n = p.lo.n - 1 := wrap_ok (by omega) (by omega)
  refine ⟨hp, by omega, by omega, by omega, by omega, by omega, by omega, ?_, ?_⟩
  · intro e hm
    obtain ⟨i, hi, rfl⟩ := List.getElem_of_mem hm
    have := (allFrom_iff _ _).1 hup.2 i (Nat.zero_le _) (by omega)
    have eg : (L p.up.edges).getD i default = (L p.up.edges)[i] := by rw [List.getD_eq_getElem?_getD, List.getElem?_eq_getElem hi]; rfl
    simp only [okE, eg, pu, inR, Bool.and_eq_true, decide_eq_true_eq] at this
    omega
  · intro e hm
    obtain ⟨i, hi, rfl⟩ := List.getElem_of_mem hm
    have := (allFrom_iff _ _).1 hlo.2 i (Nat.zero_le _) (by omega)
    have eg : (L p.lo.edges).getD i default = (L p.lo.edges)[i] := by rw [List.getD_eq_getElem?_getD, List.getElem?_eq_getElem hi]; rfl
    simp only [okE, eg, pl, inR, Bool.and_eq_true, decide_eq_true_eq] at this
    omega

theorem L_own (o : Option (List OI)) : L (ownLs o) = (L o).map ownX := by
  unfold ownLs
  split
  · rename_i h; rw [h]; rfl
  · rfl
theorem lists_own (o : Option (List OI)) : listsOf (ownLs o) = listsOf o := by
  unfold listsOf
  rw [L_own, List.map_map]
  exact List.map_congr_left fun x _ => rfl

theorem brief_len {o : Option (List OI)} (h : briefL (L o) = true) : (L o).length ≤ 1000 ∧ ∀ x ∈ L o, (L x).length ≤ 1000 := by
  simp only [briefL, Bool.and_eq_true, decide_eq_true_eq, List.all_eq_true, shortL] at h
  exact ⟨by omega, fun x hx => by have := h.2 x hx; omega⟩

/-- What CheckSimulation answers of the copies. -/
def resS (p : Pair) (o : Option (List OI)) : Int × Int := if errP p = 0 then relRes p p.up.n.toNat (listsOf o) else (0, errP p)
theorem S35 {p : Pair} {o : Option (List OI)} {σ : Store} (hp : Small p) (hl : (L o).length ≤ 1000) (hx : ∀ x ∈ L o, (L x).length ≤ 1000) :
    pureV CC 35 [.agg (ePair p), .p (eLs o)] σ = some (tup (resS p o)) := by
  unfold resS
  split
  · rename_i he; exact S35_ok (nice_of hp he) he hl hx
  · rename_i he; exact S35_bad hp he
theorem resS_own (p : Pair) (o : Option (List OI)) : resS (ownP p) (ownLs o) = resS p o := by
  unfold resS
  rw [lists_own]
  rfl

theorem ex_t0 (q : Int × Int) : extractV (tup q) 0 = some (.p (pI q.1)) := Eq.trans rfl rfl
theorem ex_t1 (q : Int × Int) : extractV (tup q) 1 = some (.p (pI q.2)) := Eq.trans rfl rfl

theorem law8 (hawake : ∀ σ, pureV CC 10 [] σ = some (.p (.bool true))) (p : Pair) (o : Option (List OI)) : ∃ σ', F8 guardT 0 (.agg (ePair p)) (.p (eLs o)) [] = some (.p (.bool true), σ') := by
  have g0 : ([Row.mix (ePair p)] : Store)[0]? = some (.mix (ePair p)) := rfl
  refine ⟨[Row.mix (ePair p)], ?_⟩
  rw [F8_eq]
  simp only [box_pair, obind, List.length_nil, List.nil_append, pureFn_fn, List.append_nil, hawake, not_bool, Bool.not_true, condK_false, load27, pr_all g0, omap, S11]
  cases hfew : fewP p with
  | false => simp only [Bool.not_false, guard_tf, guard_sk, obind, pickV_true, condK_true]
  | true =>
    have hp := small_of hfew
    simp only [Bool.not_true, guard_ff, obind, S34, not_bool, pickV_false]
    cases hb : briefL (L o) with
    | false => simp only [Bool.not_false, condK_true]
    | true =>
      obtain ⟨hl, hx⟩ := brief_len hb
      have hl2 : (L (ownLs o)).length ≤ 1000 := by rw [L_own, List.length_map]; exact hl
      have hx2 : ∀ x ∈ L (ownLs o), (L x).length ≤ 1000 := by
        intro x h
        rw [L_own] at h
        obtain ⟨y, hy, rfl⟩ := List.mem_map.1 h
        exact hx y hy
      simp only [Bool.not_true, condK_false, load27, pr_all g0, omap, obind, S13 hp, S36 hl hx, S35 (small_own hp) hl2 hx2, resS_own, ex_t0, ex_t1, S15 hp, b_neq]
      by_cases he : errP p = 0
      · simp only [resS, he, if_true, decide_true, Bool.not_true, condK_false, S37 (nice_of hp he) hl hx, obind, ex_t0, ex_t1, b_eql, guard_tt, pickV_true]
      · simp only [resS, he, if_false, decide_false, Bool.not_false, condK_true, b_eql, obind, decide_true, guard_tt, pickV_true]

theorem call8 (hawake : ∀ σ, pureV CC 10 [] σ = some (.p (.bool true))) (p : Pair) (o : Option (List OI)) : ∃ σ', CC 0 8 [.agg (ePair p), .p (eLs o)] [] = some (.p (.bool true), σ') := by
  obtain ⟨σ', h⟩ := law8 hawake p o
  exact ⟨σ', F8_call h⟩

end Go.D
end
/- ranked: rows of ranks, and one round. -/
section
set_option linter.unusedVariables false
set_option linter.unusedSimpArgs false
namespace Go.D

theorem u101 : PP.underlying 101 = some (.slice 22) := Eq.trans (by kernel_rfl) rfl
theorem zero101 : zeroOf PP 101 = some [.p .nilsl] := Eq.trans (by kernel_rfl) rfl
theorem src101 : srcType PP 101 = true := Eq.trans (by kernel_rfl) rfl
theorem s101 : size? PP 101 = some 1 := Eq.trans (by kernel_rfl) rfl
theorem load101 (x : DV) (σ : Store) : load PP 101 x σ = load1 x σ := Eq.trans (by kernel_rfl) rfl
theorem idx101_r {R off n i : Nat} (h : i < n) : indexAddr PP 101 (.rsl R 1 off n) (.p (pI (i : Nat))) = some (.ptr R (off + i)) := by
  have h2 : (0 : Int) ≤ (i : Int) ∧ (i : Int) < (n : Nat) := by omega
  simp [indexAddr, u101, s22, h2, h]
theorem idx22_r {R off n i : Nat} (h : i < n) : indexAddr PP 22 (.rsl R 1 off n) (.p (pI (i : Nat))) = some (.ptr R (off + i)) := by
  have h2 : (0 : Int) ≤ (i : Int) ∧ (i : Int) < (n : Nat) := by omega
  simp [indexAddr, u22, s3, h2, h]
theorem pures_ints (n : Nat) : pures (List.replicate n (.p (pI 0))) = some (eInts (List.replicate n 0)) := by
  have := pures_map (eInts (List.replicate n 0))
  simpa [eInts] using this
theorem mk22 {n : Nat} (h : n ≤ 1000) (σ : Store) : makeSlice PP false 22 (.p (pI (n : Nat))) (.p (pI (n : Nat))) σ = some (.rsl σ.length 1 0 n, σ ++ [.arr (eInts (List.replicate n 0))]) := by
  have h1 : (n : Int) ≤ 140737488355328 := by omega
  have h2 : 8 * (n : Int) ≤ 140737488355328 := by omega
  simp [makeSlice, u22, s3, bytes3, zero3, h1, h2, newRow, dups_one, pures_ints]
theorem len22_r (r sz off n : Nat) (σ : Store) : len PP 22 (.rsl r sz off n) σ = some (.p (pI (n : Nat))) := by simp [len, u22]
theorem bs101_1 (r sz off n : Nat) (σ : Store) : buildSlice PP (some true) 101 1 [(0, .rsl r sz off n)] σ = some (.rsl σ.length 1 0 1, σ ++ [.mix [.rsl r sz off n]]) := Eq.trans (by kernel_rfl) rfl
theorem app101_nil {σ : Store} {q : Nat} {v : DV} (h : σ[q]? = some (.mix [v])) : append PP 0 true 101 101 (.p .nilsl) (.rsl q 1 0 1) σ = some (.rsl σ.length 1 0 1, σ ++ [.mix [v]]) := by
  simp [append, src101, u101, s22, bytes22, zero22, source, loadN, h, appNil]
theorem app101_row {σ : Store} {q R k : Nat} {v : DV} {cs : List DV} (h : σ[q]? = some (.mix [v])) (hR : σ[R]? = some (.mix cs)) (hk : cs.length = k) (hk2 : k ≤ 1000) (hv : v.one = true) :
    append PP 0 true 101 101 (.rsl R 1 0 k) (.rsl q 1 0 1) σ = some (.rsl σ.length 1 0 (k + 1), σ.set R .dead ++ [.mix (cs ++ [v])]) := by
  have h1 : (k + 1) * 24 ≤ 140737488355328 := by omega
  have h2 : k + 1 ≤ 140737488355328 := by omega
  have h3 : ¬ k + 1 ≤ k := by omega
  simp only [append, src101, u101, s22, bytes22, zero22, source, loadN, h]
  simp [appRow, hR, h1, h2, hk, hv]
  intro hh
  omega
theorem st101_0 {σ : Store} {x v : DV} (h : σ[0]? = some (.mix [x])) (hv : v.one = true) (hc : v.cells = [v]) : store PP 0 101 (.ptr 0 0) v σ = some (σ.set 0 (.mix [v])) := by
  simp [store, s101, hc, storeN, h, hv, splice]
theorem st3i {σ : Store} {r t : Nat} {l : List Int} {b : Int} (h : σ[r]? = some (.arr (eInts l))) (ht : t < l.length) : store PP 0 3 (.ptr r t) (.p (pI b)) σ = some (σ.set r (.arr (eInts (l.set t b)))) := by
  have h1 : t + 1 ≤ (eInts l).length := by rw [ints_length]; omega
  have h2 : splice (eInts l) t [pI b] = eInts (l.set t b) := by
    unfold splice eInts
    rw [List.set_eq_take_append_cons_drop]
    simp [ht]
  simp [store, s3, DV.cells, storeN, h, pures, DV.pure?, h1, h2]
theorem load1_arrI {σ : Store} {r t : Nat} {l : List Int} (h : σ[r]? = some (.arr (eInts l))) (ht : t < l.length) : load1 (.ptr r t) σ = some (.p (pI (l.getD t 0))) := by
  have h1 : t + 1 ≤ (eInts l).length := by rw [ints_length]; omega
  have h2 : (eInts l)[t]? = some (pI (l.getD t 0)) := by
    simp [eInts, List.getD_eq_getElem?_getD, ht]
  obtain ⟨h3, h4⟩ := drop_one h2
  simp [load1, loadN, h, h1, h4]
theorem st3_new (σ : Store) (a b : Int) : store PP 0 3 (.ptr σ.length 0) (.p (pI a)) (σ ++ [.mix [.p (pI b)]]) = some (σ ++ [.mix [.p (pI a)]]) := by
  have h1 : (σ ++ [Row.mix [.p (pI b)]])[σ.length]? = some (.mix [.p (pI b)]) := by simp
  simp only [store, s3, DV.cells, storeN, h1]
  simp [DV.one, splice]

/-! ### Rows as functions -/
def rowF (n : Nat) (g : Nat → Int) : List Int := (List.range n).map g
theorem rowF_len (n : Nat) (g : Nat → Int) : (rowF n g).length = n := by simp [rowF]
theorem rowF_get {n : Nat} {g : Nat → Int} {u : Nat} (h : u < n) : (rowF n g).getD u 0 = g u := by simp [rowF, h]
theorem rowF_set (n : Nat) (g : Nat → Int) (t : Nat) (x : Int) : (rowF n g).set t x = rowF n (fun v => if v = t then x else g v) := by
  apply List.ext_getElem
  · simp [rowF]
  · intro v h1 h2
    by_cases e : v = t
    · subst e; simp [rowF]
    · have : ¬ t = v := fun h => e h.symm
      rw [List.getElem_set_ne this]
      simp [rowF, e]
theorem rowF_congr {n : Nat} {g g' : Nat → Int} (h : ∀ u, u < n → g u = g' u) : rowF n g = rowF n g' :=
  List.map_congr_left fun u hu => h u (List.mem_range.1 hu)
theorem rowF_zero (n : Nat) : List.replicate n (0 : Int) = rowF n (fun _ => 0) := by simp [rowF, List.map_const']

abbrev RF := Nat → Nat → Int
def upd (f : RF) (s u : Nat) (x : Int) : RF := fun a b => if a = s ∧ b = u then x else f a b
/-- The rows of ranks in the store. -/
structure RInv (n : Nat) (σ : Store) (R : Nat) (rs : List Nat) (f : RF) : Prop where
  h0 : σ[0]? = some (.mix [if rs = [] then .p .nilsl else .rsl R 1 0 rs.length])
  hR : rs ≠ [] → σ[R]? = some (.mix (rs.map (rowV n))) ∧ 1 ≤ R
  row : ∀ j (h : j < rs.length), σ[rs[j]]? = some (.arr (eInts (rowF n (f j))))
  nodup : rs.Nodup
  ge : ∀ r ∈ rs, 1 ≤ r
  nR : rs ≠ [] → R ∉ rs
theorem RInv.congr {n : Nat} {σ : Store} {R : Nat} {rs : List Nat} {f f' : RF} (hI : RInv n σ R rs f) (h : ∀ j u, j < rs.length → u < n → f j u = f' j u) : RInv n σ R rs f' :=
  ⟨hI.h0, hI.hR, fun j hj => by rw [hI.row j hj, rowF_congr fun u hu => h j u hj hu], hI.nodup, hI.ge, hI.nR⟩
theorem RInv.snoc {n : Nat} {σ : Store} {R : Nat} {rs : List Nat} {f : RF} (hI : RInv n σ R rs f) (r : Row) : RInv n (σ ++ [r]) R rs f :=
  ⟨get_old hI.h0, fun h => ⟨get_old (hI.hR h).1, (hI.hR h).2⟩, fun j h => get_old (hI.row j h), hI.nodup, hI.ge, hI.nR⟩
theorem RInv.set {n : Nat} {σ : Store} {R : Nat} {rs : List Nat} {f : RF} (hI : RInv n σ R rs f) {s u : Nat} (hs : s < rs.length) (x : Int) :
    RInv n (σ.set rs[s] (.arr (eInts ((rowF n (f s)).set u x)))) R rs (upd f s u x) := by
  have hne : rs ≠ [] := by intro e; rw [e] at hs; simp at hs
  have hge := hI.ge _ (List.getElem_mem hs)
  refine ⟨get_set_ne hI.h0 (by omega), fun _ => ⟨get_set_ne (hI.hR hne).1 (fun e => hI.nR hne (e ▸ List.getElem_mem hs)), (hI.hR hne).2⟩, fun j hj => ?_, hI.nodup, hI.ge, hI.nR⟩
  by_cases e : j = s
  · subst e
    rw [List.getElem?_set_self (get_lt (hI.row j hj)), rowF_set]
    have : rowF n (upd f j u x j) = rowF n (fun v => if v = u then x else f j v) := by congr 1; funext b; simp [upd]
    rw [this]
  · have : upd f s u x j = f j := by funext b; simp [upd, e]
    rw [this]
    exact get_set_ne (hI.row j hj) fun e2 => e ((List.getElem_inj hI.nodup).1 e2)
theorem RInv.ne {n : Nat} {σ : Store} {R : Nat} {rs : List Nat} {f : RF} (hI : RInv n σ R rs f) {s q : Nat} (hs : s < rs.length) {c : List DV} (hq : σ[q]? = some (.mix c)) : q ≠ rs[s] := by
  intro e
  have := hI.row s hs
  rw [← e, hq] at this
  exact absurd this (by simp)
theorem RInv.load {n : Nat} {σ : Store} {R : Nat} {rs : List Nat} {f : RF} (hI : RInv n σ R rs f) {s u : Nat} (hs : s < rs.length) (hu : u < n) :
    load1 (.ptr 0 0) σ = some (.rsl R 1 0 rs.length) ∧ load1 (.ptr R s) σ = some (rowV n rs[s]) ∧ load1 (.ptr rs[s] u) σ = some (.p (pI (f s u))) := by
  have hne : rs ≠ [] := by intro e; rw [e] at hs; simp at hs
  have h0 := hI.h0
  rw [if_neg hne] at h0
  refine ⟨load1_ptr h0 rfl, load1_ptr (hI.hR hne).1 (by simp [hs]), ?_⟩
  rw [load1_arrI (hI.row s hs) (by rw [rowF_len]; exact hu), rowF_get hu]

/-! ### Ranks -/
def rk0 (p : Pair) : RF := fun s u => if (L p.ll).getD s 0 = (L p.ul).getD u 0 then -1 else 0
def openAt (f : RF) (k : Int) (t v : Nat) : Bool := decide (f t v = -1) || decide (f t v ≥ k)
def ansF (p : Pair) (n : Nat) (f : RF) (k : Int) (t u : Nat) : Bool := anyFrom (fun v => follows p.up (u : Nat) (v : Nat) && openAt f k t v) 0 n

/-! ### Cells of the pair -/
theorem gv_0 (p : Pair) (n : Nat) : (graphsV p n)[0]? = some (pI p.lo.n) := by simp [graphsV, ePairP]
theorem gv_2 (p : Pair) (n : Nat) : (graphsV p n)[2]? = some (eEs p.lo.edges) := by simp [graphsV, ePairP]
theorem gv_3 (p : Pair) (n : Nat) : (graphsV p n)[3]? = some (pI p.up.n) := by simp [graphsV, ePairP]
theorem gv_6 (p : Pair) (n : Nat) : (graphsV p n)[6]? = some (eSl p.ll) := by simp [graphsV, ePairP]
theorem gv_7 (p : Pair) (n : Nat) : (graphsV p n)[7]? = some (eSl p.ul) := by simp [graphsV, ePairP]

section
variable {p : Pair} {n m : Nat}

/-- One row is filled. -/
theorem L58_1 (hp : Nice p n m) {s q : Nat} (hs : s < m) :
    ∀ (d u : Nat) (σ : Store), n - u = d → u ≤ n → σ[q]? = some (.arr (eInts (rowF n (fun v => if v < u then rk0 p s v else 0)))) →
      f58_L1 guardT 0 (.pptr (graphsV p n) 0) (.ptr 0 0) (.p (pI (s : Nat))) (.rsl q 1 0 n) (.p (pI (m : Nat))) (.p (pI (s : Nat))) (.p (pI (n : Nat))) (.p (pI (u : Nat))) σ =
      f58_L1 guardT 0 (.pptr (graphsV p n) 0) (.ptr 0 0) (.p (pI (s : Nat))) (.rsl q 1 0 n) (.p (pI (m : Nat))) (.p (pI (s : Nat))) (.p (pI (n : Nat))) (.p (pI (n : Nat))) (σ.set q (.arr (eInts (rowF n (rk0 p s)))))
  | 0, u, σ, hd, hu, hq => by
    have : u = n := by omega
    subst this
    have : rowF u (fun v => if v < u then rk0 p s v else 0) = rowF u (rk0 p s) := rowF_congr fun v hv => by simp [hv]
    rw [this] at hq
    rw [set_same hq]
  | d + 1, u, σ, hd, hu, hq => by
    have h : u < n := by omega
    have h' : (u : Int) < (n : Nat) := by omega
    have hn2 := hp.n2
    have w : IntKind.wrap .i64 ((u : Int) + 1) = ((u + 1 : Nat) : Int) := wrap_succ (by omega)
    have hlen : u < (rowF n (fun v => if v < u then rk0 p s v else 0)).length := by rw [rowF_len]; exact h
    have hs1 : s < (L p.ll).length := by rw [hp.ll]; exact hs
    have hu1 : u < (L p.ul).length := by rw [hp.ul]; exact h
    have hq1 := get_lt hq
    have hst := fun b => st3i (b := b) hq hlen
    have hq2 : (σ.set q (.arr (eInts ((rowF n (fun v => if v < u then rk0 p s v else 0)).set u (-1)))))[q]? = some (.arr (eInts ((rowF n (fun v => if v < u then rk0 p s v else 0)).set u (-1)))) := List.getElem?_set_self hq1
    have hst2 := fun b => st3i (b := b) (t := u) hq2 (by rw [List.length_set]; exact hlen)
    have hrow : ∀ x, x = rk0 p s u → (rowF n (fun v => if v < u then rk0 p s v else 0)).set u x = rowF n (fun v => if v < u + 1 then rk0 p s v else 0) := by
      intro x hx
      rw [rowF_set, hx]
      congr 1
      funext v
      by_cases e : v = u
      · subst e; simp
      · by_cases e2 : v < u
        · have : v < u + 1 := by omega
          simp [e, e2, this]
        · have : ¬ v < u + 1 := by omega
          simp [e, e2, this]
    rw [f58_L1_eq guardT rfl]
    simp only [b_lss, obind, h', decide_true, condK_true, idx22_r h, Nat.zero_add, hst, nil_pptr, fa118_0, fa27_2, fa27_3, shift_pptr, load22, load1_pptr (gv_6 p n), load1_pptr (gv_7 p n), idx22 hs1, idx22 hu1, load3, load1_getD hs1, load1_getD hu1, b_neq, f58_J0_eq, b_add, w]
    by_cases e : (L p.ll).getD s 0 = (L p.ul).getD u 0
    · simp only [e, decide_true, Bool.not_true, condK_false]
      have hr := hrow (-1) (by unfold rk0; rw [if_pos e])
      rw [hr] at hq2 ⊢
      rw [L58_1 hp hs d (u + 1) _ (by omega) (by omega) hq2, List.set_set]
    · simp only [e, decide_false, Bool.not_false, condK_true, hst2, obind]
      have hr := hrow 0 (by unfold rk0; rw [if_neg e])
      rw [List.set_set, List.set_set, hr]
      have hq3 : (σ.set q (.arr (eInts (rowF n (fun v => if v < u + 1 then rk0 p s v else 0)))))[q]? = some (.arr (eInts (rowF n (fun v => if v < u + 1 then rk0 p s v else 0)))) := List.getElem?_set_self hq1
      rw [L58_1 hp hs d (u + 1) _ (by omega) (by omega) hq3, List.set_set]

theorem L58_0 (hp : Nice p n m) :
    ∀ (d k : Nat) (σ : Store) (R : Nat) (rs : List Nat), m - k = d → rs.length = k → k ≤ m → RInv n σ R rs (rk0 p) →
      ∃ σ' R' rs' q, rs'.length = m ∧ RInv n σ' R' rs' (rk0 p) ∧ σ'[q]? = some (.mix [.p (pI 1)]) ∧
        f58_L0 guardT 0 (.pptr (graphsV p n) 0) (.ptr 0 0) (.p (pI (m : Nat))) (.p (pI (k : Nat))) σ = f58_L2 guardT 0 (.pptr (graphsV p n) 0) (.ptr 0 0) (.ptr q 0) (.p (.bool true)) σ'
  | 0, k, σ, R, rs, hd, hk, hkn, hI => by
    have : k = m := by omega
    subst this
    have hlt : ¬ (k : Int) < (k : Nat) := by omega
    refine ⟨σ ++ [.mix [.p (pI 1)]], R, rs, σ.length, hk, hI.snoc _, get_snoc, ?_⟩
    rw [f58_L0_eq guardT rfl]
    simp only [b_lss, obind, hlt, decide_false, condK_false, zero3, st3_new]
  | d + 1, k, σ, R, rs, hd, hk, hkn, hI => by
    have hlt : (k : Int) < (m : Nat) := by omega
    have hkm : k < m := by omega
    have hm2 := hp.m2
    have w : IntKind.wrap .i64 ((k : Int) + 1) = ((k + 1 : Nat) : Int) := wrap_succ (by omega)
    have l0 := get_lt hI.h0
    have hmk : ∀ σ, makeSlice PP false 22 (.p (pI p.up.n)) (.p (pI p.up.n)) σ = some (.rsl σ.length 1 0 n, σ ++ [.arr (eInts (List.replicate n 0))]) := by rw [hp.un]; exact mk22 hp.n2
    have hnew : (σ ++ [Row.arr (eInts (List.replicate n 0))])[σ.length]? = some (.arr (eInts (rowF n (fun v => if v < 0 then rk0 p k v else 0)))) := by
      rw [get_snoc, rowF_zero]
      simp
    have hfill := L58_1 hp hkm (q := σ.length) n 0 _ (by omega) (Nat.zero_le _) hnew
    have hset : (σ ++ [Row.arr (eInts (List.replicate n 0))]).set σ.length (.arr (eInts (rowF n (rk0 p k)))) = σ ++ [.arr (eInts (rowF n (rk0 p k)))] := by
      rw [List.set_append_right _ _ (Nat.le_refl _)]; simp
    rw [hset] at hfill
    rw [f58_L0_eq guardT rfl]
    simp only [b_lss, obind, hlt, decide_true, condK_true, nil_pptr, fa118_0, fa27_1, fa25_0, shift_pptr, Nat.zero_add, Nat.add_zero, load3, load1_pptr (gv_3 p n), hmk, len22_r]
    have hfill' : f58_L1 guardT 0 (.pptr (graphsV p n) 0) (.ptr 0 0) (.p (pI (k : Nat))) (.rsl σ.length 1 0 n) (.p (pI (m : Nat))) (.p (pI (k : Nat))) (.p (pI (n : Nat))) (.p (pI 0)) (σ ++ [Row.arr (eInts (List.replicate n 0))]) = _ := hfill
    rw [hfill', f58_L1_eq guardT rfl]
    have hnn : ¬ (n : Int) < (n : Nat) := by omega
    generalize hX : Row.arr (eInts (rowF n (rk0 p k))) = X at *
    have hI1 := hI.snoc X
    have l1 := get_lt hI1.h0
    simp only [b_lss, obind, hnn, decide_false, condK_false, load101, load1_ptr (off := 0) hI1.h0 rfl, bs101_1, b_add, w]
    have hq : ((σ ++ [X]) ++ [Row.mix [DV.rsl σ.length 1 0 n]])[(σ ++ [X]).length]? = some (.mix [DV.rsl σ.length 1 0 n]) := get_snoc
    by_cases he : rs = []
    · subst he
      have hk0 : k = 0 := by simpa using hk.symm
      subst hk0
      have hs1 : (((σ ++ [X]) ++ [Row.mix [DV.rsl σ.length 1 0 n]]) ++ [Row.mix [DV.rsl σ.length 1 0 n]])[0]? = some (.mix [.p .nilsl]) := get_old (get_old (by simpa using hI1.h0))
      simp only [if_true, app101_nil hq, obind, st101_0 hs1 (v := .rsl ((σ ++ [X]) ++ [Row.mix [DV.rsl σ.length 1 0 n]]).length 1 0 1) rfl rfl]
      refine L58_0 hp d 1 _ ((σ ++ [X]) ++ [Row.mix [DV.rsl σ.length 1 0 n]]).length [σ.length] (by omega) rfl (by omega) ⟨?_, ?_, ?_, ?_, ?_, ?_⟩
      · simp
      · intro _
        refine ⟨get_set_ne (by rw [get_snoc]; rfl) (by simp), by simp⟩
      · intro j h
        have : j = 0 := by simpa using h
        subst this
        rw [hX]
        exact get_set_ne (get_old (get_old (by simp))) (by show σ.length ≠ 0; omega)
      · simp
      · simp; omega
      · simp
    · obtain ⟨hR, hR2⟩ := hI.hR he
      have lR := get_lt hR
      have hRq : ((σ ++ [X]) ++ [Row.mix [DV.rsl σ.length 1 0 n]])[R]? = some (.mix (rs.map (rowV n))) := get_old (get_old hR)
      have hs1 : ((((σ ++ [X]) ++ [Row.mix [DV.rsl σ.length 1 0 n]]).set R .dead) ++ [Row.mix (rs.map (rowV n) ++ [DV.rsl σ.length 1 0 n])])[0]? = some (.mix [if rs = [] then .p .nilsl else .rsl R 1 0 rs.length]) := get_old (get_set_ne (get_old hI1.h0) (by omega))
      simp only [he, if_false] at hs1 ⊢
      simp only [app101_row hq hRq (by simp) (show rs.length ≤ 1000 by omega) rfl, obind, st101_0 hs1 (v := .rsl ((σ ++ [X]) ++ [Row.mix [DV.rsl σ.length 1 0 n]]).length 1 0 (rs.length + 1)) rfl rfl]
      have hkeep : ∀ i x d, σ[i]? = some x → i ≠ 0 → i ≠ R → (((((σ ++ [X]) ++ [Row.mix [DV.rsl σ.length 1 0 n]]).set R .dead) ++ [Row.mix (rs.map (rowV n) ++ [DV.rsl σ.length 1 0 n])]).set 0 d)[i]? = some x :=
        fun i x d h h1 h2 => get_set_ne (get_old (get_set_ne (get_old (get_old h)) h2)) h1
      refine L58_0 hp d (k + 1) _ ((σ ++ [X]) ++ [Row.mix [DV.rsl σ.length 1 0 n]]).length (rs ++ [σ.length]) (by omega) (by simp [hk]) (by omega) ⟨?_, ?_, ?_, ?_, ?_, ?_⟩
      · simp
      · intro _
        refine ⟨get_set_ne ?_ (by simp), by simp⟩
        have : (((σ ++ [X]) ++ [Row.mix [DV.rsl σ.length 1 0 n]]).set R .dead).length = ((σ ++ [X]) ++ [Row.mix [DV.rsl σ.length 1 0 n]]).length := by simp
        rw [← this, get_snoc]
        simp [rowV]
      · intro j h
        simp only [List.length_append, List.length_cons, List.length_nil, Nat.zero_add] at h
        rcases Nat.lt_or_ge j rs.length with h3 | h3
        · rw [List.getElem_append_left h3]
          exact hkeep _ _ _ (hI.row j h3) (by have := hI.ge _ (List.getElem_mem h3); omega) (fun e => hI.nR he (e ▸ List.getElem_mem h3))
        · have : j = rs.length := by omega
          subst this
          simp only [List.getElem_append_right (Nat.le_refl _), Nat.sub_self, List.getElem_cons_zero]
          rw [hk, hX]
          exact get_set_ne (get_old (get_set_ne (get_old (by simp)) (by omega))) (by omega)
      · rw [List.nodup_append]
        refine ⟨hI.nodup, by simp, ?_⟩
        intro a ha' b hb e
        simp at hb
        subst hb; subst e
        obtain ⟨j, hj, e⟩ := List.getElem_of_mem ha'
        have := get_lt (hI.row j hj)
        omega
      · intro r hr
        simp at hr
        rcases hr with hr | hr
        · exact hI.ge r hr
        · omega
      · intro _ hm
        simp at hm
        obtain ⟨j, hj, e⟩ := List.getElem_of_mem hm
        have := get_lt (hI.row j hj)
        omega

end
end Go.D
end
