/-
  No cell of these rows narrows 'for every input' (looked for: loops, veiled, ifaces, maps, wideKeys, modest, calm, conditions, laid).
  DERIVED. THE GIVEN ROWS OF THIS SEAT. 7 by the template 'for every input the law returns true; each argument reads behind the call as it read before'; 0 by the template 'total and deterministic' (their statements: YthmgennimcjlpaaTotals.lean).
  GIVEN WITH THE SEED: the statements are not yours to turn. If you find one false, say at which input.
  Laid BY PROGRAM, IN A SANDBOX (cutbox-rows.mjs): the forced cells as the released guide's own fill.sh prints them over the translation dde648ab21f066f6… (all of the seat's roots in one cut). By AI agents, Wed Nov 11 2026. No macro, syntax, notation, axiom, sorry.
-/
import Derived.Test.YthmgennimcjlpaaChecked
import GoSem.Claim
import GoSem.ClaimJoined
import GoSem.ClaimMapViews
import Derived.JoinedTies
import Derived.KernelRfl
namespace Go.Proofs.Ythmgennimcjlpaa
/- THE CELL 'sum', in the pinned program and in every row, IS THE sha256 OF THE DUMP (.gsa) THAT YthmgennimcjlpaaProg.lean LOADS. Nothing in Lean hashes anything: it is a label: what it is worth is what the hold of that sum in a sandbox is worth. -/
noncomputable def Try.pinned : Pinned := { name := "ythmgennimcjlpaa", sum := "dde648ab21f066f65c893f29784ff6b73bbbef5ca3b8fba5f30bff096200d965", checked := Try.checked }
namespace Rows
def none {H : Type} : Left H := { results := [], args := [] }

/-- 'stutterlaw21.RefinePaths': WHATEVER THE INPUT: true; the input reads as it did. -/
def refinePathsSpec : ChangeSpec := { name := "refinePaths", fn := fun _ => fun
  | [d1, d2] => { results := [.lit (.bool true)], args := [d1, d2] }
  | _ => none }
def refinePathsRow : OpenClaim := { program := "ythmgennimcjlpaa", sum := "dde648ab21f066f65c893f29784ff6b73bbbef5ca3b8fba5f30bff096200d965", func := "stutter/stutterlaw21.RefinePaths", spec := "refinePaths", unfollowed := true, recurses := true, plainKeys := false, apart := false }
def RefinePathsSaid : Prop := refinePathsRow.holds Try.pinned (OpenSpec.ofChange refinePathsSpec)

/-- ITS FALSE NEIGHBOUR: 'it returns false'. Refute it at one input. -/
def refinePathsWrong : ChangeSpec := { name := "refinePaths", fn := fun _ => fun
  | [d1, d2] => { results := [.lit (.bool false)], args := [d1, d2] }
  | _ => none }
def RefinePathsWrongFalsely : Prop := refinePathsRow.holds Try.pinned (OpenSpec.ofChange refinePathsWrong)

/-- 'stutterlaw21.RefineComposes': WHATEVER THE INPUT: true; the input reads as it did. -/
def refineComposesSpec : ChangeSpec := { name := "refineComposes", fn := fun _ => fun
  | [d1, d2, d3] => { results := [.lit (.bool true)], args := [d1, d2, d3] }
  | _ => none }
def refineComposesRow : OpenClaim := { program := "ythmgennimcjlpaa", sum := "dde648ab21f066f65c893f29784ff6b73bbbef5ca3b8fba5f30bff096200d965", func := "stutter/stutterlaw21.RefineComposes", spec := "refineComposes", unfollowed := true, recurses := true, plainKeys := false, apart := false }
def RefineComposesSaid : Prop := refineComposesRow.holds Try.pinned (OpenSpec.ofChange refineComposesSpec)

/-- ITS FALSE NEIGHBOUR: 'it returns false'. Refute it at one input. -/
def refineComposesWrong : ChangeSpec := { name := "refineComposes", fn := fun _ => fun
  | [d1, d2, d3] => { results := [.lit (.bool false)], args := [d1, d2, d3] }
  | _ => none }
def RefineComposesWrongFalsely : Prop := refineComposesRow.holds Try.pinned (OpenSpec.ofChange refineComposesWrong)

/-- 'stutterlaw21.RefineSimulations': WHATEVER THE INPUT: true; the input reads as it did. -/
def refineSimulationsSpec : ChangeSpec := { name := "refineSimulations", fn := fun _ => fun
  | [d] => { results := [.lit (.bool true)], args := [d] }
  | _ => none }
def refineSimulationsRow : OpenClaim := { program := "ythmgennimcjlpaa", sum := "dde648ab21f066f65c893f29784ff6b73bbbef5ca3b8fba5f30bff096200d965", func := "stutter/stutterlaw21.RefineSimulations", spec := "refineSimulations", unfollowed := true, recurses := true, plainKeys := false, apart := false }
def RefineSimulationsSaid : Prop := refineSimulationsRow.holds Try.pinned (OpenSpec.ofChange refineSimulationsSpec)

/-- ITS FALSE NEIGHBOUR: 'it returns false'. Refute it at one input. -/
def refineSimulationsWrong : ChangeSpec := { name := "refineSimulations", fn := fun _ => fun
  | [d] => { results := [.lit (.bool false)], args := [d] }
  | _ => none }
def RefineSimulationsWrongFalsely : Prop := refineSimulationsRow.holds Try.pinned (OpenSpec.ofChange refineSimulationsWrong)

/-- 'stutterlaw21.RefineLeads': WHATEVER THE INPUT: true; the input reads as it did. -/
def refineLeadsSpec : ChangeSpec := { name := "refineLeads", fn := fun _ => fun
  | [d1, d2, d3] => { results := [.lit (.bool true)], args := [d1, d2, d3] }
  | _ => none }
def refineLeadsRow : OpenClaim := { program := "ythmgennimcjlpaa", sum := "dde648ab21f066f65c893f29784ff6b73bbbef5ca3b8fba5f30bff096200d965", func := "stutter/stutterlaw21.RefineLeads", spec := "refineLeads", unfollowed := true, recurses := true, plainKeys := false, apart := false }
def RefineLeadsSaid : Prop := refineLeadsRow.holds Try.pinned (OpenSpec.ofChange refineLeadsSpec)

/-- ITS FALSE NEIGHBOUR: 'it returns false'. Refute it at one input. -/
def refineLeadsWrong : ChangeSpec := { name := "refineLeads", fn := fun _ => fun
  | [d1, d2, d3] => { results := [.lit (.bool false)], args := [d1, d2, d3] }
  | _ => none }
def RefineLeadsWrongFalsely : Prop := refineLeadsRow.holds Try.pinned (OpenSpec.ofChange refineLeadsWrong)

/-- 'stutterlaw21.RefineRanks': WHATEVER THE INPUT: true; the input reads as it did. -/
def refineRanksSpec : ChangeSpec := { name := "refineRanks", fn := fun _ => fun
  | [d1, d2] => { results := [.lit (.bool true)], args := [d1, d2] }
  | _ => none }
def refineRanksRow : OpenClaim := { program := "ythmgennimcjlpaa", sum := "dde648ab21f066f65c893f29784ff6b73bbbef5ca3b8fba5f30bff096200d965", func := "stutter/stutterlaw21.RefineRanks", spec := "refineRanks", unfollowed := true, recurses := true, plainKeys := false, apart := false }
def RefineRanksSaid : Prop := refineRanksRow.holds Try.pinned (OpenSpec.ofChange refineRanksSpec)

/-- ITS FALSE NEIGHBOUR: 'it returns false'. Refute it at one input. -/
def refineRanksWrong : ChangeSpec := { name := "refineRanks", fn := fun _ => fun
  | [d1, d2] => { results := [.lit (.bool false)], args := [d1, d2] }
  | _ => none }
def RefineRanksWrongFalsely : Prop := refineRanksRow.holds Try.pinned (OpenSpec.ofChange refineRanksWrong)

/-- 'stutterlaw21.RefineRelations': WHATEVER THE INPUT: true; the input reads as it did. -/
def refineRelationsSpec : ChangeSpec := { name := "refineRelations", fn := fun _ => fun
  | [d1, d2] => { results := [.lit (.bool true)], args := [d1, d2] }
  | _ => none }
def refineRelationsRow : OpenClaim := { program := "ythmgennimcjlpaa", sum := "dde648ab21f066f65c893f29784ff6b73bbbef5ca3b8fba5f30bff096200d965", func := "stutter/stutterlaw21.RefineRelations", spec := "refineRelations", unfollowed := true, recurses := true, plainKeys := false, apart := false }
def RefineRelationsSaid : Prop := refineRelationsRow.holds Try.pinned (OpenSpec.ofChange refineRelationsSpec)

/-- ITS FALSE NEIGHBOUR: 'it returns false'. Refute it at one input. -/
def refineRelationsWrong : ChangeSpec := { name := "refineRelations", fn := fun _ => fun
  | [d1, d2] => { results := [.lit (.bool false)], args := [d1, d2] }
  | _ => none }
def RefineRelationsWrongFalsely : Prop := refineRelationsRow.holds Try.pinned (OpenSpec.ofChange refineRelationsWrong)

/-- 'stutterlaw21.RefineBothSides': WHATEVER THE INPUT: true; the input reads as it did. -/
def refineBothSidesSpec : ChangeSpec := { name := "refineBothSides", fn := fun _ => fun
  | [d] => { results := [.lit (.bool true)], args := [d] }
  | _ => none }
def refineBothSidesRow : OpenClaim := { program := "ythmgennimcjlpaa", sum := "dde648ab21f066f65c893f29784ff6b73bbbef5ca3b8fba5f30bff096200d965", func := "stutter/stutterlaw21.RefineBothSides", spec := "refineBothSides", unfollowed := true, recurses := true, plainKeys := false, apart := false }
def RefineBothSidesSaid : Prop := refineBothSidesRow.holds Try.pinned (OpenSpec.ofChange refineBothSidesSpec)

/-- ITS FALSE NEIGHBOUR: 'it returns false'. Refute it at one input. -/
def refineBothSidesWrong : ChangeSpec := { name := "refineBothSides", fn := fun _ => fun
  | [d] => { results := [.lit (.bool false)], args := [d] }
  | _ => none }
def RefineBothSidesWrongFalsely : Prop := refineBothSidesRow.holds Try.pinned (OpenSpec.ofChange refineBothSidesWrong)

/- THE SECOND FORM. 'bulk': how many values and letters a reading holds, each counted each time it is reached (what is shared counts as often as it is met; a slice's spare places count too). A statement '..UptoSaid' is the law's where the arguments, and the package variables that the reading takes, are together of bulk at most 1048576: NARROWER than '..Said'. Prove '..Said' where nothing that the law and all that it calls make is longer than what came in: it says more and counts as full. Else prove '..UptoSaid'. A law counts once. -/
mutual
def uptoBulk {H : Type} : DataW H → Nat
  | .lit (.string bytes) => bytes.length + 1
  | .lit _ => 1
  | .nil => 1
  | .ptr d => uptoBulk d + 1
  | .slice elems spare => uptoBulkAll elems + uptoBulkAll spare + 1
  | .agg parts => uptoBulkAll parts + 1
  | .iface _ d => uptoBulk d + 1
  | .map entries => uptoBulkEntries entries + 1
  | .held _ => 1
def uptoBulkAll {H : Type} : List (DataW H) → Nat
  | [] => 0
  | d :: r => uptoBulk d + uptoBulkAll r
def uptoBulkEntries {H : Type} : List (Lit × DataW H) → Nat
  | [] => 0
  | x :: r => uptoBulkEntry x + uptoBulkEntries r
def uptoBulkEntry {H : Type} : Lit × DataW H → Nat
  | (.string bytes, d) => bytes.length + uptoBulk d + 1
  | (_, d) => uptoBulk d + 1
 end
def uptoSmall : (H : Type) → List (DataW H) → Bool := fun _ ds => decide (uptoBulkAll ds ≤ 1048576)
def OpenSpec.upto (s : _root_.Go.ChangeSpec) : _root_.Go.OpenSpec := { _root_.Go.OpenSpec.ofChange s with cond := some uptoSmall }

/-- 'stutterlaw21.RefinePaths', WHERE WHAT IT READS IS OF BULK AT MOST 1048576: true; the input reads as it did. -/
def refinePathsUptoRow : OpenClaim := { program := "ythmgennimcjlpaa", sum := "dde648ab21f066f65c893f29784ff6b73bbbef5ca3b8fba5f30bff096200d965", func := "stutter/stutterlaw21.RefinePaths", spec := "refinePaths", unfollowed := true, recurses := true, plainKeys := false, apart := false, narrowed := true }
def RefinePathsUptoSaid : Prop := refinePathsUptoRow.holds Try.pinned (OpenSpec.upto refinePathsSpec)

/-- 'stutterlaw21.RefineComposes', WHERE WHAT IT READS IS OF BULK AT MOST 1048576: true; the input reads as it did. -/
def refineComposesUptoRow : OpenClaim := { program := "ythmgennimcjlpaa", sum := "dde648ab21f066f65c893f29784ff6b73bbbef5ca3b8fba5f30bff096200d965", func := "stutter/stutterlaw21.RefineComposes", spec := "refineComposes", unfollowed := true, recurses := true, plainKeys := false, apart := false, narrowed := true }
def RefineComposesUptoSaid : Prop := refineComposesUptoRow.holds Try.pinned (OpenSpec.upto refineComposesSpec)

/-- 'stutterlaw21.RefineSimulations', WHERE WHAT IT READS IS OF BULK AT MOST 1048576: true; the input reads as it did. -/
def refineSimulationsUptoRow : OpenClaim := { program := "ythmgennimcjlpaa", sum := "dde648ab21f066f65c893f29784ff6b73bbbef5ca3b8fba5f30bff096200d965", func := "stutter/stutterlaw21.RefineSimulations", spec := "refineSimulations", unfollowed := true, recurses := true, plainKeys := false, apart := false, narrowed := true }
def RefineSimulationsUptoSaid : Prop := refineSimulationsUptoRow.holds Try.pinned (OpenSpec.upto refineSimulationsSpec)

/-- 'stutterlaw21.RefineLeads', WHERE WHAT IT READS IS OF BULK AT MOST 1048576: true; the input reads as it did. -/
def refineLeadsUptoRow : OpenClaim := { program := "ythmgennimcjlpaa", sum := "dde648ab21f066f65c893f29784ff6b73bbbef5ca3b8fba5f30bff096200d965", func := "stutter/stutterlaw21.RefineLeads", spec := "refineLeads", unfollowed := true, recurses := true, plainKeys := false, apart := false, narrowed := true }
def RefineLeadsUptoSaid : Prop := refineLeadsUptoRow.holds Try.pinned (OpenSpec.upto refineLeadsSpec)

/-- 'stutterlaw21.RefineRanks', WHERE WHAT IT READS IS OF BULK AT MOST 1048576: true; the input reads as it did. -/
def refineRanksUptoRow : OpenClaim := { program := "ythmgennimcjlpaa", sum := "dde648ab21f066f65c893f29784ff6b73bbbef5ca3b8fba5f30bff096200d965", func := "stutter/stutterlaw21.RefineRanks", spec := "refineRanks", unfollowed := true, recurses := true, plainKeys := false, apart := false, narrowed := true }
def RefineRanksUptoSaid : Prop := refineRanksUptoRow.holds Try.pinned (OpenSpec.upto refineRanksSpec)

/-- 'stutterlaw21.RefineRelations', WHERE WHAT IT READS IS OF BULK AT MOST 1048576: true; the input reads as it did. -/
def refineRelationsUptoRow : OpenClaim := { program := "ythmgennimcjlpaa", sum := "dde648ab21f066f65c893f29784ff6b73bbbef5ca3b8fba5f30bff096200d965", func := "stutter/stutterlaw21.RefineRelations", spec := "refineRelations", unfollowed := true, recurses := true, plainKeys := false, apart := false, narrowed := true }
def RefineRelationsUptoSaid : Prop := refineRelationsUptoRow.holds Try.pinned (OpenSpec.upto refineRelationsSpec)

/-- 'stutterlaw21.RefineBothSides', WHERE WHAT IT READS IS OF BULK AT MOST 1048576: true; the input reads as it did. -/
def refineBothSidesUptoRow : OpenClaim := { program := "ythmgennimcjlpaa", sum := "dde648ab21f066f65c893f29784ff6b73bbbef5ca3b8fba5f30bff096200d965", func := "stutter/stutterlaw21.RefineBothSides", spec := "refineBothSides", unfollowed := true, recurses := true, plainKeys := false, apart := false, narrowed := true }
def RefineBothSidesUptoSaid : Prop := refineBothSidesUptoRow.holds Try.pinned (OpenSpec.upto refineBothSidesSpec)

end Rows
end Go.Proofs.Ythmgennimcjlpaa
