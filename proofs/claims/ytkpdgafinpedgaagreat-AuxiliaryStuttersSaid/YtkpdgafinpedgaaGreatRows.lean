/-
  No cell of these rows narrows 'for every input' (looked for: loops, veiled, ifaces, maps, wideKeys, modest, calm, conditions, laid).
  DERIVED. THE GIVEN ROWS OF THIS SEAT. 6 by the template 'for every input the law returns true; each argument reads behind the call as it read before'; 0 by the template 'total and deterministic' (their statements: YtkpdgafinpedgaaGreatTotals.lean).
  GIVEN WITH THE SEED: the statements are not yours to turn. If you find one false, say at which input.
  Laid BY PROGRAM, IN A SANDBOX (cutbox-rows.mjs): the forced cells as the released guide's own fill.sh prints them over the translation e2ad834e6a8e7ce7… (all of the seat's roots in one cut). By AI agents, Wed Nov 11 2026. No macro, syntax, notation, axiom, sorry.
-/
import Derived.Test.YtkpdgafinpedgaaGreatChecked
import GoSem.Claim
import GoSem.ClaimJoined
import GoSem.ClaimMapViews
import Derived.JoinedTies
import Derived.KernelRfl
namespace Go.Proofs.YtkpdgafinpedgaaGreat
/- THE CELL 'sum', in the pinned program and in every row, IS THE sha256 OF THE DUMP (.gsa) THAT YtkpdgafinpedgaaGreatProg.lean LOADS. Nothing in Lean hashes anything: it is a label: what it is worth is what the hold of that sum in a sandbox is worth. -/
noncomputable def Tryz.pinned : Pinned := { name := "ytkpdgafinpedgaagreat", sum := "e2ad834e6a8e7ce7e7c526b5e320478f0cfd847923f5008b04c01852ad2e9dbb", checked := Tryz.checked }
namespace Rows
def none {H : Type} : Left H := { results := [], args := [] }

/-- 'stutterlaw22.AuxiliaryHistories': WHATEVER THE INPUT: true; the input reads as it did. -/
def auxiliaryHistoriesSpec : ChangeSpec := { name := "auxiliaryHistories", fn := fun _ => fun
  | [d1, d2, d3] => { results := [.lit (.bool true)], args := [d1, d2, d3] }
  | _ => none }
def auxiliaryHistoriesRow : OpenClaim := { program := "ytkpdgafinpedgaagreat", sum := "e2ad834e6a8e7ce7e7c526b5e320478f0cfd847923f5008b04c01852ad2e9dbb", func := "stutter/stutterlaw22.AuxiliaryHistories", spec := "auxiliaryHistories", unfollowed := true, recurses := true, plainKeys := false, apart := false }
def AuxiliaryHistoriesSaid : Prop := auxiliaryHistoriesRow.holds Tryz.pinned (OpenSpec.ofChange auxiliaryHistoriesSpec)

/-- ITS FALSE NEIGHBOUR: 'it returns false'. Refute it at one input. -/
def auxiliaryHistoriesWrong : ChangeSpec := { name := "auxiliaryHistories", fn := fun _ => fun
  | [d1, d2, d3] => { results := [.lit (.bool false)], args := [d1, d2, d3] }
  | _ => none }
def AuxiliaryHistoriesWrongFalsely : Prop := auxiliaryHistoriesRow.holds Tryz.pinned (OpenSpec.ofChange auxiliaryHistoriesWrong)

/-- 'stutterlaw22.AuxiliaryStutters': WHATEVER THE INPUT: true; the input reads as it did. -/
def auxiliaryStuttersSpec : ChangeSpec := { name := "auxiliaryStutters", fn := fun _ => fun
  | [d1, d2, d3] => { results := [.lit (.bool true)], args := [d1, d2, d3] }
  | _ => none }
def auxiliaryStuttersRow : OpenClaim := { program := "ytkpdgafinpedgaagreat", sum := "e2ad834e6a8e7ce7e7c526b5e320478f0cfd847923f5008b04c01852ad2e9dbb", func := "stutter/stutterlaw22.AuxiliaryStutters", spec := "auxiliaryStutters", unfollowed := true, recurses := true, plainKeys := false, apart := false }
def AuxiliaryStuttersSaid : Prop := auxiliaryStuttersRow.holds Tryz.pinned (OpenSpec.ofChange auxiliaryStuttersSpec)

/-- ITS FALSE NEIGHBOUR: 'it returns false'. Refute it at one input. -/
def auxiliaryStuttersWrong : ChangeSpec := { name := "auxiliaryStutters", fn := fun _ => fun
  | [d1, d2, d3] => { results := [.lit (.bool false)], args := [d1, d2, d3] }
  | _ => none }
def AuxiliaryStuttersWrongFalsely : Prop := auxiliaryStuttersRow.holds Tryz.pinned (OpenSpec.ofChange auxiliaryStuttersWrong)

/-- 'stutterlaw22.AuxiliaryHides': WHATEVER THE INPUT: true; the input reads as it did. -/
def auxiliaryHidesSpec : ChangeSpec := { name := "auxiliaryHides", fn := fun _ => fun
  | [d1, d2] => { results := [.lit (.bool true)], args := [d1, d2] }
  | _ => none }
def auxiliaryHidesRow : OpenClaim := { program := "ytkpdgafinpedgaagreat", sum := "e2ad834e6a8e7ce7e7c526b5e320478f0cfd847923f5008b04c01852ad2e9dbb", func := "stutter/stutterlaw22.AuxiliaryHides", spec := "auxiliaryHides", unfollowed := true, recurses := true, plainKeys := false, apart := false }
def AuxiliaryHidesSaid : Prop := auxiliaryHidesRow.holds Tryz.pinned (OpenSpec.ofChange auxiliaryHidesSpec)

/-- ITS FALSE NEIGHBOUR: 'it returns false'. Refute it at one input. -/
def auxiliaryHidesWrong : ChangeSpec := { name := "auxiliaryHides", fn := fun _ => fun
  | [d1, d2] => { results := [.lit (.bool false)], args := [d1, d2] }
  | _ => none }
def AuxiliaryHidesWrongFalsely : Prop := auxiliaryHidesRow.holds Tryz.pinned (OpenSpec.ofChange auxiliaryHidesWrong)

/-- 'stutterlaw22.AuxiliaryDetermined': WHATEVER THE INPUT: true; the input reads as it did. -/
def auxiliaryDeterminedSpec : ChangeSpec := { name := "auxiliaryDetermined", fn := fun _ => fun
  | [d1, d2] => { results := [.lit (.bool true)], args := [d1, d2] }
  | _ => none }
def auxiliaryDeterminedRow : OpenClaim := { program := "ytkpdgafinpedgaagreat", sum := "e2ad834e6a8e7ce7e7c526b5e320478f0cfd847923f5008b04c01852ad2e9dbb", func := "stutter/stutterlaw22.AuxiliaryDetermined", spec := "auxiliaryDetermined", unfollowed := true, recurses := true, plainKeys := false, apart := false }
def AuxiliaryDeterminedSaid : Prop := auxiliaryDeterminedRow.holds Tryz.pinned (OpenSpec.ofChange auxiliaryDeterminedSpec)

/-- ITS FALSE NEIGHBOUR: 'it returns false'. Refute it at one input. -/
def auxiliaryDeterminedWrong : ChangeSpec := { name := "auxiliaryDetermined", fn := fun _ => fun
  | [d1, d2] => { results := [.lit (.bool false)], args := [d1, d2] }
  | _ => none }
def AuxiliaryDeterminedWrongFalsely : Prop := auxiliaryDeterminedRow.holds Tryz.pinned (OpenSpec.ofChange auxiliaryDeterminedWrong)

/-- 'stutterlaw22.AuxiliaryAnyEnd': WHATEVER THE INPUT: true; the input reads as it did. -/
def auxiliaryAnyEndSpec : ChangeSpec := { name := "auxiliaryAnyEnd", fn := fun _ => fun
  | [d1, d2, d3] => { results := [.lit (.bool true)], args := [d1, d2, d3] }
  | _ => none }
def auxiliaryAnyEndRow : OpenClaim := { program := "ytkpdgafinpedgaagreat", sum := "e2ad834e6a8e7ce7e7c526b5e320478f0cfd847923f5008b04c01852ad2e9dbb", func := "stutter/stutterlaw22.AuxiliaryAnyEnd", spec := "auxiliaryAnyEnd", unfollowed := true, recurses := true, plainKeys := false, apart := false }
def AuxiliaryAnyEndSaid : Prop := auxiliaryAnyEndRow.holds Tryz.pinned (OpenSpec.ofChange auxiliaryAnyEndSpec)

/-- ITS FALSE NEIGHBOUR: 'it returns false'. Refute it at one input. -/
def auxiliaryAnyEndWrong : ChangeSpec := { name := "auxiliaryAnyEnd", fn := fun _ => fun
  | [d1, d2, d3] => { results := [.lit (.bool false)], args := [d1, d2, d3] }
  | _ => none }
def AuxiliaryAnyEndWrongFalsely : Prop := auxiliaryAnyEndRow.holds Tryz.pinned (OpenSpec.ofChange auxiliaryAnyEndWrong)

/-- 'stutterlaw22.AuxiliaryProphecies': WHATEVER THE INPUT: true; the input reads as it did. -/
def auxiliaryPropheciesSpec : ChangeSpec := { name := "auxiliaryProphecies", fn := fun _ => fun
  | [d1, d2, d3] => { results := [.lit (.bool true)], args := [d1, d2, d3] }
  | _ => none }
def auxiliaryPropheciesRow : OpenClaim := { program := "ytkpdgafinpedgaagreat", sum := "e2ad834e6a8e7ce7e7c526b5e320478f0cfd847923f5008b04c01852ad2e9dbb", func := "stutter/stutterlaw22.AuxiliaryProphecies", spec := "auxiliaryProphecies", unfollowed := true, recurses := true, plainKeys := false, apart := false }
def AuxiliaryPropheciesSaid : Prop := auxiliaryPropheciesRow.holds Tryz.pinned (OpenSpec.ofChange auxiliaryPropheciesSpec)

/-- ITS FALSE NEIGHBOUR: 'it returns false'. Refute it at one input. -/
def auxiliaryPropheciesWrong : ChangeSpec := { name := "auxiliaryProphecies", fn := fun _ => fun
  | [d1, d2, d3] => { results := [.lit (.bool false)], args := [d1, d2, d3] }
  | _ => none }
def AuxiliaryPropheciesWrongFalsely : Prop := auxiliaryPropheciesRow.holds Tryz.pinned (OpenSpec.ofChange auxiliaryPropheciesWrong)

/- THE SECOND FORM. 'bulk': how many values and letters a reading holds, each counted each time it is reached (what is shared counts as often as it is met; a slice's spare places count too). A statement '..UptoSaid' is the law's where the arguments, and the package variables that the reading takes, are together of bulk at most 1048576: NARROWER than '..Said'. Prove '..Said' where nothing that the law and all that it calls make is longer than what came in: it says more and counts as full. Else prove '..UptoSaid'. A law counts once. -/
mutual
def uptoBulk {H : Type} : DataW H → Nat
  | .lit (.string bytes) => bytes.length + 1
  | .lit _ => 1
  | .nil => 1
  | .ptr d => uptoBulk d + 1
  | .slice elems spare => uptoBulkAll elems + uptoBulkAll spare + 1
  | .agg parts => uptoBulkAll parts + 1
  | .iface _ d => uptoBulk d + 1
  | .map entries => uptoBulkEntries entries + 1
  | .held _ => 1
def uptoBulkAll {H : Type} : List (DataW H) → Nat
  | [] => 0
  | d :: r => uptoBulk d + uptoBulkAll r
def uptoBulkEntries {H : Type} : List (Lit × DataW H) → Nat
  | [] => 0
  | x :: r => uptoBulkEntry x + uptoBulkEntries r
def uptoBulkEntry {H : Type} : Lit × DataW H → Nat
  | (.string bytes, d) => bytes.length + uptoBulk d + 1
  | (_, d) => uptoBulk d + 1
 end
def uptoSmall : (H : Type) → List (DataW H) → Bool := fun _ ds => decide (uptoBulkAll ds ≤ 1048576)
def OpenSpec.upto (s : _root_.Go.ChangeSpec) : _root_.Go.OpenSpec := { _root_.Go.OpenSpec.ofChange s with cond := some uptoSmall }

/-- 'stutterlaw22.AuxiliaryHistories', WHERE WHAT IT READS IS OF BULK AT MOST 1048576: true; the input reads as it did. -/
def auxiliaryHistoriesUptoRow : OpenClaim := { program := "ytkpdgafinpedgaagreat", sum := "e2ad834e6a8e7ce7e7c526b5e320478f0cfd847923f5008b04c01852ad2e9dbb", func := "stutter/stutterlaw22.AuxiliaryHistories", spec := "auxiliaryHistories", unfollowed := true, recurses := true, plainKeys := false, apart := false, narrowed := true }
def AuxiliaryHistoriesUptoSaid : Prop := auxiliaryHistoriesUptoRow.holds Tryz.pinned (OpenSpec.upto auxiliaryHistoriesSpec)

/-- 'stutterlaw22.AuxiliaryStutters', WHERE WHAT IT READS IS OF BULK AT MOST 1048576: true; the input reads as it did. -/
def auxiliaryStuttersUptoRow : OpenClaim := { program := "ytkpdgafinpedgaagreat", sum := "e2ad834e6a8e7ce7e7c526b5e320478f0cfd847923f5008b04c01852ad2e9dbb", func := "stutter/stutterlaw22.AuxiliaryStutters", spec := "auxiliaryStutters", unfollowed := true, recurses := true, plainKeys := false, apart := false, narrowed := true }
def AuxiliaryStuttersUptoSaid : Prop := auxiliaryStuttersUptoRow.holds Tryz.pinned (OpenSpec.upto auxiliaryStuttersSpec)

/-- 'stutterlaw22.AuxiliaryHides', WHERE WHAT IT READS IS OF BULK AT MOST 1048576: true; the input reads as it did. -/
def auxiliaryHidesUptoRow : OpenClaim := { program := "ytkpdgafinpedgaagreat", sum := "e2ad834e6a8e7ce7e7c526b5e320478f0cfd847923f5008b04c01852ad2e9dbb", func := "stutter/stutterlaw22.AuxiliaryHides", spec := "auxiliaryHides", unfollowed := true, recurses := true, plainKeys := false, apart := false, narrowed := true }
def AuxiliaryHidesUptoSaid : Prop := auxiliaryHidesUptoRow.holds Tryz.pinned (OpenSpec.upto auxiliaryHidesSpec)

/-- 'stutterlaw22.AuxiliaryDetermined', WHERE WHAT IT READS IS OF BULK AT MOST 1048576: true; the input reads as it did. -/
def auxiliaryDeterminedUptoRow : OpenClaim := { program := "ytkpdgafinpedgaagreat", sum := "e2ad834e6a8e7ce7e7c526b5e320478f0cfd847923f5008b04c01852ad2e9dbb", func := "stutter/stutterlaw22.AuxiliaryDetermined", spec := "auxiliaryDetermined", unfollowed := true, recurses := true, plainKeys := false, apart := false, narrowed := true }
def AuxiliaryDeterminedUptoSaid : Prop := auxiliaryDeterminedUptoRow.holds Tryz.pinned (OpenSpec.upto auxiliaryDeterminedSpec)

/-- 'stutterlaw22.AuxiliaryAnyEnd', WHERE WHAT IT READS IS OF BULK AT MOST 1048576: true; the input reads as it did. -/
def auxiliaryAnyEndUptoRow : OpenClaim := { program := "ytkpdgafinpedgaagreat", sum := "e2ad834e6a8e7ce7e7c526b5e320478f0cfd847923f5008b04c01852ad2e9dbb", func := "stutter/stutterlaw22.AuxiliaryAnyEnd", spec := "auxiliaryAnyEnd", unfollowed := true, recurses := true, plainKeys := false, apart := false, narrowed := true }
def AuxiliaryAnyEndUptoSaid : Prop := auxiliaryAnyEndUptoRow.holds Tryz.pinned (OpenSpec.upto auxiliaryAnyEndSpec)

/-- 'stutterlaw22.AuxiliaryProphecies', WHERE WHAT IT READS IS OF BULK AT MOST 1048576: true; the input reads as it did. -/
def auxiliaryPropheciesUptoRow : OpenClaim := { program := "ytkpdgafinpedgaagreat", sum := "e2ad834e6a8e7ce7e7c526b5e320478f0cfd847923f5008b04c01852ad2e9dbb", func := "stutter/stutterlaw22.AuxiliaryProphecies", spec := "auxiliaryProphecies", unfollowed := true, recurses := true, plainKeys := false, apart := false, narrowed := true }
def AuxiliaryPropheciesUptoSaid : Prop := auxiliaryPropheciesUptoRow.holds Tryz.pinned (OpenSpec.upto auxiliaryPropheciesSpec)

end Rows
end Go.Proofs.YtkpdgafinpedgaaGreat
