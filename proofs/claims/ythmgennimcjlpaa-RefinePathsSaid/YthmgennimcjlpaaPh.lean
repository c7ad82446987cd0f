/- RefinePaths: for every pair and every path the law answers true and leaves its arguments as they were: the given statement, without conditions. -/
import Derived.Test.YthmgennimcjlpaaPg
import Derived.Test.YthmgennimcjlpaaPd
import Derived.Test.YthmgennimcjlpaaPe
import Derived.Test.YthmgennimcjlpaaPc
import Derived.Test.YthmgennimcjlpaaRows
import Derived.ProofKit
import Derived.SizedLaws
/- awake answers true. -/
section
set_option linter.unusedVariables false
set_option linter.unusedSimpArgs false
set_option maxRecDepth 100000
namespace Go.D

theorem neq_self (t : TypeId) (a : Int) : binOp PP .neq t (.p (.int .i64 a)) (.p (.int .i64 a)) = some (.p (.bool false)) := by rw [b_neq]; simp
theorem eql_self (t : TypeId) (a : Int) : binOp PP .eql t (.p (.int .i64 a)) (.p (.int .i64 a)) = some (.p (.bool true)) := by rw [b_eql]; simp
theorem bs22_2 (x y : Int) (σ : Store) : buildSlice PP none 22 2 [(0, .p (pI x)), (1, .p (pI y))] σ = some (.p (.sl true 2 (eInts [x, y])), σ) := Eq.trans (by kernel_rfl) rfl
theorem bs51_3 (a b c : PV) (σ : Store) : buildSlice PP none 51 3 [(0, .p a), (1, .p b), (2, .p c)] σ = some (.p (.sl true 3 [a, b, c]), σ) := Eq.trans (by kernel_rfl) rfl
theorem bld47 (a b c : PV) : build PP 47 [(0, .p a), (1, .p b), (2, .p c)] = some (.agg [.p a, .p b, .p c]) := Eq.trans (by kernel_rfl) rfl
theorem zero47 : zeroOf PP 47 = some [.p (pI 0), .p (pI 0), .p .nilsl] := Eq.trans (by kernel_rfl) rfl
theorem st47_0 (a b c : PV) (x y z : DV) : store PP 0 47 (.ptr 0 0) (.agg [.p a, .p b, .p c]) [.mix [x, y, z]] = some [.mix [.p a, .p b, .p c]] := Eq.trans (by kernel_rfl) rfl
theorem st47_1 (a b c : PV) (x y z : DV) (m : Row) : store PP 0 47 (.ptr 1 0) (.agg [.p a, .p b, .p c]) [m, .mix [x, y, z]] = some [m, .mix [.p a, .p b, .p c]] := Eq.trans (by kernel_rfl) rfl
theorem ld47_1 (a b c : DV) (m : Row) : load PP 47 (.ptr 1 0) [m, .mix [a, b, c]] = some (.agg [a, b, c]) := Eq.trans (by kernel_rfl) rfl
def rcs : List PV := eInts [0, 0, 3, 0, 0, 1, 0, -1, 1, 0, 2, 1, 1, 1, 0, -1, 2, 0, 0, -1, 2, 1, 1, 2]
theorem len61 (σ : Store) : len PP 61 (.p (.sl false 6 rcs)) σ = some (.p (.int .i64 6)) := Eq.trans (by kernel_rfl) rfl
theorem ix61_0 : indexAddr PP 61 (.p (.sl false 6 rcs)) (.p (.int .i64 0)) = some (.pptr rcs 0) := Eq.trans (by kernel_rfl) rfl
theorem ix61_2 : indexAddr PP 61 (.p (.sl false 6 rcs)) (.p (.int .i64 2)) = some (.pptr rcs 8) := Eq.trans (by kernel_rfl) rfl
theorem ix61_5 : indexAddr PP 61 (.p (.sl false 6 rcs)) (.p (.int .i64 5)) = some (.pptr rcs 20) := Eq.trans (by kernel_rfl) rfl
theorem fa77_2 (x : DV) : fieldAddr PP 77 x 2 = shiftPtr x 2 := Eq.trans (by kernel_rfl) rfl
theorem lr0 (σ : Store) : load1 (.pptr rcs (0 + 2)) σ = some (.p (.int .i64 3)) := load1_pptr rfl σ
theorem lr2 (σ : Store) : load1 (.pptr rcs (8 + 2)) σ = some (.p (.int .i64 2)) := load1_pptr rfl σ
theorem lr5 (σ : Store) : load1 (.pptr rcs (20 + 2)) σ = some (.p (.int .i64 1)) := load1_pptr rfl σ
theorem xt0 (a b : DV) : extractV (.tuple [a, b]) 0 = some a := Eq.trans rfl rfl
theorem xt1 (a b : DV) : extractV (.tuple [a, b]) 1 = some b := Eq.trans rfl rfl

theorem E38 (σ : Store) : pureV CC 38 [] σ = some (.agg (ePair exP)) := pureV_run run38 rfl rfl
theorem E39 (σ : Store) : pureV CC 39 [] σ = some (.agg (ePair exB)) := pureV_run run39 rfl rfl
theorem E23a (σ : Store) : pureV CC 23 [.agg (ePair exP), .p (.sl true 3 (eInts [0, 0, 1]))] σ = some (.tuple [.agg [.p (pI 0), .p (pI 0), .p .nilsl], .p (.int .i64 0)]) := by
  rw [pureV_view (args' := [.agg (ePair exP), slI [0, 0, 1]]) rfl rfl]
  exact pureV_run run23a rfl rfl
theorem E23b (σ : Store) : pureV CC 23 [.agg (ePair exP), .p (.sl true 3 (eInts [0, 1, 1]))] σ = some (.tuple [.agg [.p (pI 0), .p (pI 1), .p (.sl false 2 [pI 0, pI 1])], .p (.int .i64 31)]) := by
  rw [pureV_view (args' := [.agg (ePair exP), slI [0, 1, 1]]) rfl rfl]
  exact pureV_run run23b rfl rfl
theorem E24 (σ : Store) : pureV CC 24 [.agg (ePair exP)] σ = some (.tuple [.p sim0, .p (.int .i64 0)]) := pureV_run run24 rfl rfl
theorem E29 (σ : Store) : pureV CC 29 [.agg (ePair exB)] σ = some (.tuple [.p (.sl false 6 rcs), .p (.int .i64 0)]) := pureV_run run29 rfl rfl
theorem E12 (σ : Store) : pureV CC 12 [.agg (ePair exP), .p (.sl true 3 (eInts [0, 1, 2]))] σ = some (.tuple [.p (eSl (some [0, 0, 1])), .p (.int .i64 0)]) := by
  rw [pureV_view (args' := [.agg (ePair exP), slI [0, 1, 2]]) rfl rfl]
  exact pureV_run run12 rfl rfl
theorem E40 (σ : Store) : pureV CC 40 [.agg [.p (pI 0), .p (pI 1), .p (.sl false 2 [pI 0, pI 1])], .agg [.p (.int .i64 0), .p (.int .i64 1), .p (.sl true 2 (eInts [0, 1]))]] σ = some (.p (.bool true)) := by
  rw [pureV_view (args' := [flt2, flt2]) rfl rfl]
  exact pureV_run run40 rfl rfl
theorem E27 (σ : Store) : pureV CC 27 [.p sim0, .p (.sl true 3 [.sl true 2 (eInts [0, 0]), .sl true 2 (eInts [1, 0]), .sl true 2 (eInts [2, 1])])] σ = some (.p (.bool true)) := by
  rw [pureV_view (args' := [.p sim0, .p sim0]) rfl rfl]
  exact pureV_run run27 rfl rfl
theorem E18 (σ : Store) : pureV CC 18 [.p (eSl (some [0, 0, 1])), .p (.sl true 3 (eInts [0, 0, 1]))] σ = some (.p (.bool true)) := by
  rw [pureV_view (args' := [.p (eSl (some [0, 0, 1])), .p (eSl (some [0, 0, 1]))]) rfl rfl]
  exact S18 rfl (by decide)

theorem F10_true : ∃ σ', F10 guardT 0 [] = some (.p (.bool true), σ') := by
  refine ⟨[.mix [.p (pI 0), .p (pI 0), .p .nilsl], .mix [.p (pI 0), .p (pI 1), .p (.sl false 2 [pI 0, pI 1])]], ?_⟩
  rw [F10_eq]
  simp only [pureFn_fn, List.append_nil, E38, E39, obind, bs22_3, E23a, xt0, xt1, zero47, List.length_nil, List.nil_append, st47_0, List.length_cons, List.cons_append, Nat.zero_add, E23b, st47_1, E24, E29, E12, neq_self, guard_ff, pickV_false, len61, condK_false, ld47_1, bs22_2, bld47, E40, guard_tt, bs51_3, E27, pickV_true, ix61_0, ix61_2, ix61_5, fa77_2, shift_pptr, load3, lr0, lr2, lr5, eql_self, E18]

theorem awake_true (σ : Store) : pureV CC 10 [] σ = some (.p (.bool true)) := by
  obtain ⟨σ', h⟩ := F10_true
  exact pureV_free rfl rfl (F10_call h) rfl

end Go.D
end
/- What a call's arguments are, as values of D: whatever reads as a pair and a path. -/
section
set_option linter.unusedVariables false
set_option linter.unusedSimpArgs false
set_option maxRecDepth 100000
namespace Go.D
open Go.ChangeShapes Go.WideShapes Go.ChangeAt Go.RowKit

/-- All cells that can be read. -/
def memOf (W : World) : Mem := fun b o => W.cell? ⟨b, o, none⟩

variable {H : Type} {enc : TypeId × Value → H} {W : World} {base : Nat}

theorem ul3 : PP.underlying 3 = some (.int .i64) := by kernel_rfl
theorem cells3 : PP.cellsOf 3 = 1 := by kernel_rfl
theorem cells22 : PP.cellsOf 22 = 1 := by kernel_rfl
theorem cells23 : PP.cellsOf 23 = 1 := by kernel_rfl
theorem cells25 : PP.cellsOf 25 = 3 := by kernel_rfl
theorem cells27 : PP.cellsOf 27 = 8 := by kernel_rfl
theorem cells100 : PP.cellsOf 100 = 3 := by kernel_rfl

theorem read_int {sp : Nat → Bool} {hd : Bool} {fuel : Nat} {c : Value} {x : DataW H × List MemPlace} (h : DataW.trod enc PP W 0 sp hd fuel 3 [c] = some x) : ∃ n, c = .int .i64 n := by
  cases fuel with
  | zero => simp [DataW.trod] at h
  | succ n =>
    unfold DataW.trod at h
    rw [ul3] at h
    cases c <;> simp at h
    exact ⟨_, by rw [h.1.1]⟩

theorem spot_of {r : Reach} {b0 : Nat} {t e : TypeId} {a : Addr} {len cap : Nat} (ht : PP.underlying t = some (.slice e)) (h : Cell.okWide PP W r b0 t (.slice (some a) len cap)) : a.spot = none := by
  simp only [Cell.okWide, ht, Cell.ok] at h
  exact h.2.2.2.1

theorem read_sl {r : Reach} {b0 : Nat} {hd : Bool} {fuel : Nat} {c : Value} {x : DataW H × List MemPlace} (hok : Cell.okWide PP W r b0 22 c) (h : DataW.trod enc PP W 0 (fun _ => true) hd fuel 22 [c] = some x) : ∃ o, PRel (memOf W) (eSl o) c := by
  rcases open_ints u22 ul3 cells3 h with ⟨hc, _⟩ | ⟨a, len, cap, zs, hc, _, hl, hm, hz, _, hcell, _⟩
  · injection hc with hc; subst hc
    exact ⟨none, .nilsl⟩
  · injection hc with hc; subst hc
    have hs := spot_of u22 hok
    simp only [if_true] at hz
    have hlen : (zs.take len).length = len := by rw [List.length_take]; omega
    refine ⟨some (zs.take len), ?_⟩
    have e : eSl (some (zs.take len)) = .sl false len (eInts (zs.take len)) := by simp only [eSl, hlen]
    rw [e]
    refine .sl (fun j => .int .i64 (zs.getD j 0)) hs hl (by simp) (fun j hj => ?_) (fun j hj => ?_)
    · rw [ints_length, hlen] at hj
      have := hcell j (by omega)
      rwa [addr_add hs] at this
    · rw [ints_length, hlen] at hj
      have : (eInts (zs.take len))[j] = pI (zs.getD j 0) := by
        simp only [eInts, List.getElem_map, List.getElem_take]
        rw [List.getD_eq_getElem?_getD, List.getElem?_eq_getElem (by omega)]
        rfl
      rw [this]
      exact .int _ _

theorem read_edg {sp : Nat → Bool} {hd : Bool} {fuel : Nat} {cs : List Value} {x : DataW H × List MemPlace} (h : DataW.trod enc PP W 0 sp hd fuel 100 cs = some x) : ∃ e : Edg, cs = [.int .i64 e.f, .int .i64 e.t, .int .i64 e.a] := by
  obtain ⟨xs, n, _, _, hl, hlen, hf⟩ := DataW.trod_struct Go.Proofs.Try.underlying100 h
  rw [cells100] at hl
  match cs, hl with
  | [a, b, c], _ =>
    match xs, hlen with
    | [y0, y1, y2], _ =>
      have h0 : DataW.trod enc PP W 0 sp hd n 3 (List.take (PP.cellsOf 3) (List.drop 0 [a, b, c])) = some y0 := hf 0 _ rfl
      have h1 : DataW.trod enc PP W 0 sp hd n 3 (List.take (PP.cellsOf 3) (List.drop 1 [a, b, c])) = some y1 := hf 1 _ rfl
      have h2 : DataW.trod enc PP W 0 sp hd n 3 (List.take (PP.cellsOf 3) (List.drop 2 [a, b, c])) = some y2 := hf 2 _ rfl
      rw [cells3] at h0 h1 h2
      obtain ⟨p, rfl⟩ := read_int h0
      obtain ⟨q, rfl⟩ := read_int h1
      obtain ⟨r, rfl⟩ := read_int h2
      exact ⟨⟨p, q, r⟩, rfl⟩

theorem read_es {r : Reach} {b0 : Nat} {hd : Bool} {fuel : Nat} {c : Value} {x : DataW H × List MemPlace} (hok : Cell.okWide PP W r b0 23 c) (h : DataW.trod enc PP W 0 (fun _ => true) hd fuel 23 [c] = some x) : ∃ o, PRel (memOf W) (eEs o) c := by
  rcases DataW.trod_slice u23 h with ⟨hc, _⟩ | ⟨a, len, cap, elems, rest, n, _, hc, _, _, hl, hm, hlen, hel, _, _⟩
  · injection hc with hc; subst hc
    exact ⟨none, .nilsl⟩
  · injection hc with hc; subst hc
    have hs := spot_of u23 hok
    rw [cells100] at hel
    have each : ∀ i, ∃ e : Edg, i < len → W.cell? ⟨a.block, a.off + i * 3, none⟩ = some (.int .i64 e.f) ∧ W.cell? ⟨a.block, a.off + i * 3 + 1, none⟩ = some (.int .i64 e.t) ∧ W.cell? ⟨a.block, a.off + i * 3 + 2, none⟩ = some (.int .i64 e.a) := by
      intro i
      by_cases hi : i < len
      · have h1 := hel i hi
        rw [List.getElem?_eq_getElem (by omega)] at h1
        obtain ⟨cs, h2, h3⟩ := Option.bind_eq_some_iff.1 h1
        obtain ⟨e, rfl⟩ := read_edg h3
        obtain ⟨_, _, h4⟩ := World.cells?_some h2
        refine ⟨e, fun _ => ⟨?_, ?_, ?_⟩⟩
        · have := h4 0 (by omega); rw [addr_add hs, addr_add rfl] at this; exact this
        · have := h4 1 (by omega); rw [addr_add hs, addr_add rfl] at this; exact this
        · have := h4 2 (by omega); rw [addr_add hs, addr_add rfl] at this; exact this
      · exact ⟨default, fun h => absurd h hi⟩
    obtain ⟨f, hf⟩ := Classical.axiomOfChoice each
    have hll : ((List.range len).map f).length = len := by simp
    refine ⟨some ((List.range len).map f), ?_⟩
    have e : eEs (some ((List.range len).map f)) = .sl false len (eEdgs ((List.range len).map f)) := by simp only [eEs, hll]
    rw [e]
    have hget : ∀ i, i < len → (eEdgs ((List.range len).map f))[i * 3]? = some (pI (f i).f) ∧ (eEdgs ((List.range len).map f))[i * 3 + 1]? = some (pI (f i).t) ∧ (eEdgs ((List.range len).map f))[i * 3 + 2]? = some (pI (f i).a) := by
      intro i hi
      have := edgs_get ((List.range len).map f) i (by rw [hll]; exact hi)
      simpa using this
    refine .sl (fun j => .int .i64 (if j % 3 = 0 then (f (j / 3)).f else if j % 3 = 1 then (f (j / 3)).t else (f (j / 3)).a)) hs hl (by simp) (fun j hj => ?_) (fun j hj => ?_)
    · rw [edgs_length, hll] at hj
      obtain ⟨h0, h1, h2⟩ := hf (j / 3) (by omega)
      have hj3 : j = j / 3 * 3 + j % 3 := by omega
      show W.cell? _ = _
      by_cases c0 : j % 3 = 0
      · have : a.off + j = a.off + j / 3 * 3 := by omega
        rw [this]; simpa [c0] using h0
      · by_cases c1 : j % 3 = 1
        · have : a.off + j = a.off + j / 3 * 3 + 1 := by omega
          rw [this]; simpa [c1] using h1
        · have : a.off + j = a.off + j / 3 * 3 + 2 := by omega
          rw [this]; simpa [c0, c1] using h2
    · have hj' := hj
      rw [edgs_length, hll] at hj
      obtain ⟨h0, h1, h2⟩ := hget (j / 3) (by omega)
      have hx := List.getElem?_eq_getElem hj'
      by_cases c0 : j % 3 = 0
      · have : j / 3 * 3 = j := by omega
        rw [this, hx] at h0
        injection h0 with h0
        rw [h0]; simp only [c0, if_true]; exact .int _ _
      · by_cases c1 : j % 3 = 1
        · have : j / 3 * 3 + 1 = j := by omega
          rw [this, hx] at h1
          injection h1 with h1
          rw [h1]; simp only [c1, if_true, if_neg (show ¬ (1 = 0) by decide)]; exact .int _ _
        · have : j / 3 * 3 + 2 = j := by omega
          rw [this, hx] at h2
          injection h2 with h2
          rw [h2]; simp only [c0, c1, if_false]; exact .int _ _

theorem read_gr {hd : Bool} {fuel : Nat} {c0 c1 c2 : Value} {x : DataW H × List MemPlace} {r : Reach} {b0 : Nat} (h1 : Cell.okWide PP W r b0 22 c1) (h2 : Cell.okWide PP W r b0 23 c2)
    (h : DataW.trod enc PP W 0 (fun _ => true) hd fuel 25 [c0, c1, c2] = some x) : ∃ g : Gr, PRel (memOf W) (pI g.n) c0 ∧ PRel (memOf W) (eSl g.init) c1 ∧ PRel (memOf W) (eEs g.edges) c2 := by
  obtain ⟨xs, n, _, _, hl, hlen, hf⟩ := DataW.trod_struct Go.Proofs.Try.underlying25 h
  match xs, hlen with
  | [y0, y1, y2], _ =>
    have e0 : DataW.trod enc PP W 0 (fun _ => true) hd n 3 (List.take (PP.cellsOf 3) (List.drop 0 [c0, c1, c2])) = some y0 := hf 0 _ rfl
    have e1 : DataW.trod enc PP W 0 (fun _ => true) hd n 22 (List.take (PP.cellsOf 22) (List.drop 1 [c0, c1, c2])) = some y1 := hf 1 _ rfl
    have e2 : DataW.trod enc PP W 0 (fun _ => true) hd n 23 (List.take (PP.cellsOf 23) (List.drop 2 [c0, c1, c2])) = some y2 := hf 2 _ rfl
    rw [cells3] at e0
    rw [cells22] at e1
    rw [cells23] at e2
    obtain ⟨m, rfl⟩ := read_int e0
    obtain ⟨o1, r1⟩ := read_sl h1 e1
    obtain ⟨o2, r2⟩ := read_es h2 e2
    exact ⟨⟨m, o1, o2⟩, .int _ _, r1, r2⟩

theorem types27 : PP.cellTypes PP.depth 27 = some [3, 22, 23, 3, 22, 23, 22, 22] := by kernel_rfl

theorem read_pair {hd : Bool} {r : Reach} {b0 : Nat} {v : Value} {d : DataW H} {ps : List MemPlace} (hok : Value.okWide PP W r b0 27 v) (h : DataW.Trod enc PP W 0 (fun _ => true) hd 27 v d ps) :
    ∃ p : Pair, VRel (fun _ _ => none) (memOf W) (.agg (ePair p)) v := by
  simp only [Value.okWide, Go.Proofs.Try.underlying27] at hok
  obtain ⟨cs, rfl, hsz, ts, hts, _, hcell⟩ := hok
  rw [types27] at hts
  injection hts with hts; subst hts
  rw [cells27] at hsz
  obtain ⟨fuel, h⟩ := h
  obtain ⟨l⟩ := cs
  simp only [List.size_toArray] at hsz
  match l, hsz with
  | [c0, c1, c2, c3, c4, c5, c6, c7], _ =>
    have k1 : Cell.okWide PP W r b0 22 c1 := by obtain ⟨u, hu, hk⟩ := hcell 1 c1 rfl; cases hu; exact hk
    have k2 : Cell.okWide PP W r b0 23 c2 := by obtain ⟨u, hu, hk⟩ := hcell 2 c2 rfl; cases hu; exact hk
    have k4 : Cell.okWide PP W r b0 22 c4 := by obtain ⟨u, hu, hk⟩ := hcell 4 c4 rfl; cases hu; exact hk
    have k5 : Cell.okWide PP W r b0 23 c5 := by obtain ⟨u, hu, hk⟩ := hcell 5 c5 rfl; cases hu; exact hk
    have k6 : Cell.okWide PP W r b0 22 c6 := by obtain ⟨u, hu, hk⟩ := hcell 6 c6 rfl; cases hu; exact hk
    have k7 : Cell.okWide PP W r b0 22 c7 := by obtain ⟨u, hu, hk⟩ := hcell 7 c7 rfl; cases hu; exact hk
    obtain ⟨xs, n, _, _, hl, hlen, hf⟩ := DataW.trod_struct Go.Proofs.Try.underlying27 h
    match xs, hlen with
    | [y0, y1, y2, y3], _ =>
      have e0 : DataW.trod enc PP W 0 (fun _ => true) hd n 25 (List.take (PP.cellsOf 25) (List.drop 0 [c0, c1, c2, c3, c4, c5, c6, c7])) = some y0 := hf 0 _ rfl
      have e1 : DataW.trod enc PP W 0 (fun _ => true) hd n 25 (List.take (PP.cellsOf 25) (List.drop 3 [c0, c1, c2, c3, c4, c5, c6, c7])) = some y1 := hf 1 _ rfl
      have e2 : DataW.trod enc PP W 0 (fun _ => true) hd n 22 (List.take (PP.cellsOf 22) (List.drop 6 [c0, c1, c2, c3, c4, c5, c6, c7])) = some y2 := hf 2 _ rfl
      have e3 : DataW.trod enc PP W 0 (fun _ => true) hd n 22 (List.take (PP.cellsOf 22) (List.drop 7 [c0, c1, c2, c3, c4, c5, c6, c7])) = some y3 := hf 3 _ rfl
      rw [cells25] at e0 e1
      rw [cells22] at e2 e3
      obtain ⟨g0, a0, a1, a2⟩ := read_gr k1 k2 e0
      obtain ⟨g1, b0, b1, b2⟩ := read_gr k4 k5 e1
      obtain ⟨o6, r6⟩ := read_sl k6 e2
      obtain ⟨o7, r7⟩ := read_sl k7 e3
      refine ⟨⟨g0, g1, o6, o7⟩, .agg rfl fun j h1 h2 => ?_⟩
      match j, h1 with
      | 0, _ => exact .p a0
      | 1, _ => exact .p a1
      | 2, _ => exact .p a2
      | 3, _ => exact .p b0
      | 4, _ => exact .p b1
      | 5, _ => exact .p b2
      | 6, _ => exact .p r6
      | 7, _ => exact .p r7

theorem read_path {hd : Bool} {r : Reach} {b0 : Nat} {v : Value} {d : DataW H} {ps : List MemPlace} (hok : Value.okWide PP W r b0 22 v) (h : DataW.Trod enc PP W 0 (fun _ => true) hd 22 v d ps) :
    ∃ o, VRel (fun _ _ => none) (memOf W) (.p (eSl o)) v := by
  obtain ⟨a0, len, cap, rfl⟩ := okWide_slice u22 hok
  have hk : Cell.okWide PP W r b0 22 (.slice a0 len cap) := by simpa only [Value.okWide, u22] using hok
  obtain ⟨fuel, h⟩ := h
  obtain ⟨o, ho⟩ := read_sl hk (by simpa [Value.cells] using h)
  exact ⟨o, .p ho⟩

/-! ### What a call leaves of what was there -/
theorem below_of {C : Nat → Nat → Prop} {m : Nat → Prop} {w w' : World} (h : Frm C m w w') (hC : ∀ b o, ¬ C b o) (hm : ∀ b, ¬ m b) : Below w.heap.size w w' := by
  refine ⟨h.os, h.tape, h.output, h.size, fun k hk => ?_⟩
  have := h.obj k hk
  rw [Array.getElem?_eq_getElem hk] at this ⊢
  cases ho : w.heap[k] with
  | cells c e f =>
    rw [ho] at this
    cases hx : w'.heap[k]? with
    | none => rw [hx] at this; simp [ObjKept] at this
    | some o =>
      rw [hx] at this
      cases o with
      | cells c' e' f' =>
        obtain ⟨h1, h2, h3, h4⟩ := this
        subst h1; subst h2
        have : c' = c := Array.ext_getElem? fun i => by rw [h4 i (hC k i)]
        rw [this]
      | _ => simp [ObjKept] at this
  | map es c =>
    rw [ho] at this
    cases hx : w'.heap[k]? with
    | none => rw [hx] at this; simp [ObjKept] at this
    | some o =>
      rw [hx] at this
      cases o with
      | map es' c' =>
        rcases this with h1 | ⟨h1, h2⟩
        · exact absurd h1 (hm k)
        · rw [h1, h2]
      | _ => simp [ObjKept] at this
  | _ =>
    rw [ho] at this
    cases hx : w'.heap[k]? with
    | none => rw [hx] at this; simp [ObjKept] at this
    | some o => rw [hx] at this; cases o <;> simp [ObjKept] at this <;> simp_all

end Go.D
end
/- RefinePaths: the row, if awake answers true. -/
section
set_option linter.unusedVariables false
set_option linter.unusedSimpArgs false
set_option maxRecDepth 100000
namespace Go.D
open Go.ChangeShapes Go.WideShapes Go.ChangeAt Go.RowKit

theorem mixed_ok : PP.follows .mixedOrders = true := by kernel_rfl
theorem body80 : Go.Proofs.Try.f80.body = some (backCode 22 3 89 3 4 0 "iter.go:28" "iter.go:29") := by kernel_rfl
theorem back80 : SeqOk PP 80 (.backward false 1) :=
  back_ok Go.Proofs.Try.func80 (by decide +kernel) body80 (by kernel_rfl) (by kernel_rfl) ⟨by kernel_rfl, by kernel_rfl, ⟨1, by kernel_rfl⟩, by kernel_rfl, by kernel_rfl⟩

theorem seqs_ok : ∀ g f kind, (pol g).seq f = some kind → SeqOk PP f kind := by
  intro g f kind h
  by_cases hg : g = 12
  · subst hg
    have h1 : (pol 12).seq f = if f = 80 then some (.backward false 1) else none := rfl
    rw [h1] at h
    split at h
    · rename_i hf
      subst hf
      injection h with h; subst h
      exact back80
    · exact absurd h (by simp)
  · have h1 : (pol g).seq = fun _ => none := by
      unfold pol
      split <;> first | rfl | exact absurd rfl hg
    rw [h1] at h
    exact absurd h (by simp)

/-- What D answers at the empty store, the program answers in any world. -/
theorem calls_of {f : FuncId} {args : List DV} {σ' : Store} {b : Bool} (h : CC 0 f args [] = some (.p (.bool b), σ')) {W : World} {vs : Array Value} (hv : Vals (fun _ _ => none) (memOf W) args vs) :
    Calls PP f vs W fun e W' => e = .returned (.bool b) ∧ Below W.heap.size W W' := by
  obtain ⟨k, hk⟩ := lim_some h
  have hs : SRel [] (fun _ _ => none) (memOf W) W := srel_bare fun b o v h => h
  obtain ⟨_, hc⟩ := callK_ok mixed_ok seqs_ok k _ _ _ _ _ _ (hk k (Nat.le_refl _)) (Nat.zero_le _) _ _ _ _ hs hv
  have hw := callsIn_wide.1 (hc Fence.wide 0 Free.wide)
  refine hw.mono ?_
  rintro e W' ⟨v', rfl, L', M', hp, hr⟩
  refine ⟨by rw [bool_of hr], below_of hp.frm ?_ ?_⟩
  · rintro b o ⟨r, row, l, _, ⟨h, _⟩, _⟩
    exact absurd h (by simp)
  · rintro b ⟨r, es, l, _, ⟨h, _⟩, _⟩
    exact absurd h (by simp)

theorem own_ok : ownKnob PP.godebug = none := by kernel_rfl
theorem laidOut_ok : laidOutB PP = true := by kernel_rfl
theorem ul4 : PP.underlying 4 = some .bool := by kernel_rfl

/-- The awake call. -/
def Awake : Prop := ∀ σ, pureV CC 10 [] σ = some (.p (.bool true))

theorem refinePaths_calls (hawake : Awake) {H : Type} {enc : TypeId × Value → H} {W : World} {base : Nat} {args : Array Value} {ds : List (DataW H)} {ps : List MemPlace}
    (hval : ∀ (j : Nat) t v, ([27, 22] : List TypeId).toArray[j]? = some t → args[j]? = some v → Value.okWide PP W .any base t v)
    (hA : DataW.TrodAll enc PP W 0 (fun _ => true) true [27, 22] args.toList ds ps) :
    Calls PP 3 args W fun e W' => e = .returned (.bool true) ∧ Below W.heap.size W W' := by
  obtain ⟨v0, v1, d0, d1, p0, p1, rfl, rfl, rfl, h0, h1⟩ := trodAll_two hA
  obtain ⟨p, hp⟩ := read_pair (hval 0 27 v0 rfl rfl) h0
  obtain ⟨o, ho⟩ := read_path (hval 1 22 v1 rfl rfl) h1
  obtain ⟨σ', hc⟩ := call3 hawake p o
  refine calls_of hc ⟨rfl, fun j h1 h2 => ?_⟩
  match j, h1 with
  | 0, _ => exact hp
  | 1, _ => exact ho

end Go.D
end
/- RefinePaths: for every pair and every path the law answers true and leaves its arguments as they were: the given statement, without conditions. -/
section
set_option linter.unusedVariables false
set_option linter.unusedSimpArgs false
namespace Go.Proofs.Ythmgennimcjlpaa
open Go.D Go.ChangeShapes Go.WideShapes Go.ChangeAt Go.RowKit

set_option maxRecDepth 100000 in
theorem refinePaths_lifted (hawake : Awake) (os : Os) (started : os.Started) (H : Type) (enc : TypeId × Value → H) :
    ReturnsInHanded {} Try.checked os 3 .any (Rows.refinePathsSpec.pre6 enc Try.prog Try.f3 Rows.refinePathsRow.domain false) (Rows.refinePathsSpec.post enc Try.prog Try.f3 false true false false) := by
  refine returnsInHanded_of_change_sized (C := Try.checked) own_ok started (by kernel_rfl) Try.func3
    (ChangeSpec.witness6 (enc := enc) (C := Try.checked) false ⟨#[], #[.agg #[.int .i64 0, .slice none 0 0, .slice none 0 0, .int .i64 0, .slice none 0 0, .slice none 0 0, .slice none 0 0, .slice none 0 0], .slice none 0 0], []⟩ 8 (by kernel_rfl) (by kernel_rfl) (by kernel_rfl) (by kernel_rfl)) ?_
  intro W base args ds gs before hval0 hW _ hsz0 _
  have hval : ∀ (j : Nat) t v, Try.f3.params[j]? = some t → args[j]? = some v → Value.okWide Try.prog W .any base t v := hval0
  have hW' := hW
  obtain ⟨p, q, hA0, hV, rfl, _, _⟩ := hW
  have hA : DataW.TrodAll enc Try.prog W 0 (fun _ => true) true Try.f3.params.toList args.toList ds p := hA0
  rw [Try.params3] at hA hval
  have hA2 := hA
  obtain ⟨v0, v1, d0, d1, p0, p1, rfl, rfl, rfl, h0, h1⟩ := trodAll_two hA
  obtain ⟨rfl, rfl⟩ := trodVars_none hV
  have hlt : ∀ x ∈ p0 ++ p1, x.block < W.heap.size := fun x hx => by
    have := hW'.lt x (by simpa using hx)
    exact this
  refine (refinePaths_calls hawake (base := base) hval hA2).mono ?_
  rintro e W2 ⟨rfl, hnx⟩
  refine ⟨_, rfl, _, _, _, [], p0 ++ p1, [], hW', ?_, ?_, rfl, hnx.frame _, fun h => by cases h⟩
  · exact trodAll_mk1 (shut_bool ul4 true)
  · exact trodAll_mk2 (Below.trod laidOut_ok (by kernel_rfl) (of_decide_eq_true (by kernel_rfl)) h0 hnx fun x hx => hlt x (List.mem_append_left _ hx)) (Below.trod laidOut_ok (by kernel_rfl) (of_decide_eq_true (by kernel_rfl)) h1 hnx fun x hx => hlt x (List.mem_append_right _ hx))

theorem refinePaths_holds : Rows.RefinePathsSaid :=
  OpenClaim.holds_of_wide 3 Try.f3 rfl rfl rfl rfl rfl rfl rfl ⟨rfl, rfl, rfl, rfl, rfl⟩ rfl rfl rfl rfl rfl (by kernel_rfl) Try.func3 (by kernel_rfl)
    (of_decide_eq_true (by kernel_rfl)) (by unfold Func.isWrapper; first | (rw [if_pos (by decide +kernel)]; kernel_rfl) | (rw [if_neg (by decide +kernel)]; exact ⟨rfl, rfl⟩))
    (fun os started H enc _ => refinePaths_lifted awake_true os started H enc)

end Go.Proofs.Ythmgennimcjlpaa
end
