/-
  No cell of these rows narrows 'for every input' (looked for: loops, veiled, ifaces, maps, wideKeys, modest, calm, conditions, laid).
  DERIVED. THE GIVEN ROWS OF THIS SEAT. 7 by the template 'for every input the law returns true; each argument reads behind the call as it read before'; 0 by the template 'total and deterministic' (their statements: YthddgnfaaccgjaaTotals.lean).
  GIVEN WITH THE SEED: the statements are not yours to turn. If you find one false, say at which input.
  Laid BY PROGRAM, IN A SANDBOX (cutbox-rows.mjs): the forced cells as the released guide's own fill.sh prints them over the translation 739a5b870bc0b641… (all of the seat's roots in one cut). By AI agents, Wed Nov 11 2026. No macro, syntax, notation, axiom, sorry.
-/
import Derived.Test.YthddgnfaaccgjaaChecked
import GoSem.Claim
import GoSem.ClaimJoined
import GoSem.ClaimMapViews
import Derived.JoinedTies
import Derived.KernelRfl
namespace Go.Proofs.Ythddgnfaaccgjaa
/- THE CELL 'sum', in the pinned program and in every row, IS THE sha256 OF THE DUMP (.gsa) THAT YthddgnfaaccgjaaProg.lean LOADS. Nothing in Lean hashes anything: it is a label: what it is worth is what the hold of that sum in a sandbox is worth. -/
noncomputable def Try.pinned : Pinned := { name := "ythddgnfaaccgjaa", sum := "739a5b870bc0b641becd5ccaad86d9d47b321447a1dd5db7c1f74904d66ecce3", checked := Try.checked }
namespace Rows
def none {H : Type} : Left H := { results := [], args := [] }

/-- 'stutterlaw24.OpenViolations': WHATEVER THE INPUT: true; the input reads as it did. -/
def openViolationsSpec : ChangeSpec := { name := "openViolations", fn := fun _ => fun
  | [d1, d2, d3] => { results := [.lit (.bool true)], args := [d1, d2, d3] }
  | _ => none }
def openViolationsRow : OpenClaim := { program := "ythddgnfaaccgjaa", sum := "739a5b870bc0b641becd5ccaad86d9d47b321447a1dd5db7c1f74904d66ecce3", func := "stutter/stutterlaw24.OpenViolations", spec := "openViolations", unfollowed := true, recurses := true, plainKeys := false, apart := false }
def OpenViolationsSaid : Prop := openViolationsRow.holds Try.pinned (OpenSpec.ofChange openViolationsSpec)

/-- ITS FALSE NEIGHBOUR: 'it returns false'. Refute it at one input. -/
def openViolationsWrong : ChangeSpec := { name := "openViolations", fn := fun _ => fun
  | [d1, d2, d3] => { results := [.lit (.bool false)], args := [d1, d2, d3] }
  | _ => none }
def OpenViolationsWrongFalsely : Prop := openViolationsRow.holds Try.pinned (OpenSpec.ofChange openViolationsWrong)

/-- 'stutterlaw24.OpenComposes': WHATEVER THE INPUT: true; the input reads as it did. -/
def openComposesSpec : ChangeSpec := { name := "openComposes", fn := fun _ => fun
  | [d1, d2] => { results := [.lit (.bool true)], args := [d1, d2] }
  | _ => none }
def openComposesRow : OpenClaim := { program := "ythddgnfaaccgjaa", sum := "739a5b870bc0b641becd5ccaad86d9d47b321447a1dd5db7c1f74904d66ecce3", func := "stutter/stutterlaw24.OpenComposes", spec := "openComposes", unfollowed := true, recurses := true, plainKeys := false, apart := false }
def OpenComposesSaid : Prop := openComposesRow.holds Try.pinned (OpenSpec.ofChange openComposesSpec)

/-- ITS FALSE NEIGHBOUR: 'it returns false'. Refute it at one input. -/
def openComposesWrong : ChangeSpec := { name := "openComposes", fn := fun _ => fun
  | [d1, d2] => { results := [.lit (.bool false)], args := [d1, d2] }
  | _ => none }
def OpenComposesWrongFalsely : Prop := openComposesRow.holds Try.pinned (OpenSpec.ofChange openComposesWrong)

/-- 'stutterlaw24.OpenUnimplied': WHATEVER THE INPUT: true; the input reads as it did. -/
def openUnimpliedSpec : ChangeSpec := { name := "openUnimplied", fn := fun _ => fun
  | [d1, d2] => { results := [.lit (.bool true)], args := [d1, d2] }
  | _ => none }
def openUnimpliedRow : OpenClaim := { program := "ythddgnfaaccgjaa", sum := "739a5b870bc0b641becd5ccaad86d9d47b321447a1dd5db7c1f74904d66ecce3", func := "stutter/stutterlaw24.OpenUnimplied", spec := "openUnimplied", unfollowed := true, recurses := true, plainKeys := false, apart := false }
def OpenUnimpliedSaid : Prop := openUnimpliedRow.holds Try.pinned (OpenSpec.ofChange openUnimpliedSpec)

/-- ITS FALSE NEIGHBOUR: 'it returns false'. Refute it at one input. -/
def openUnimpliedWrong : ChangeSpec := { name := "openUnimplied", fn := fun _ => fun
  | [d1, d2] => { results := [.lit (.bool false)], args := [d1, d2] }
  | _ => none }
def OpenUnimpliedWrongFalsely : Prop := openUnimpliedRow.holds Try.pinned (OpenSpec.ofChange openUnimpliedWrong)

/-- 'stutterlaw24.OpenChecks': WHATEVER THE INPUT: true; the input reads as it did. -/
def openChecksSpec : ChangeSpec := { name := "openChecks", fn := fun _ => fun
  | [d1, d2] => { results := [.lit (.bool true)], args := [d1, d2] }
  | _ => none }
def openChecksRow : OpenClaim := { program := "ythddgnfaaccgjaa", sum := "739a5b870bc0b641becd5ccaad86d9d47b321447a1dd5db7c1f74904d66ecce3", func := "stutter/stutterlaw24.OpenChecks", spec := "openChecks", unfollowed := true, recurses := true, plainKeys := false, apart := false }
def OpenChecksSaid : Prop := openChecksRow.holds Try.pinned (OpenSpec.ofChange openChecksSpec)

/-- ITS FALSE NEIGHBOUR: 'it returns false'. Refute it at one input. -/
def openChecksWrong : ChangeSpec := { name := "openChecks", fn := fun _ => fun
  | [d1, d2] => { results := [.lit (.bool false)], args := [d1, d2] }
  | _ => none }
def OpenChecksWrongFalsely : Prop := openChecksRow.holds Try.pinned (OpenSpec.ofChange openChecksWrong)

/-- 'stutterlaw24.OpenWatches': WHATEVER THE INPUT: true; the input reads as it did. -/
def openWatchesSpec : ChangeSpec := { name := "openWatches", fn := fun _ => fun
  | [d1, d2] => { results := [.lit (.bool true)], args := [d1, d2] }
  | _ => none }
def openWatchesRow : OpenClaim := { program := "ythddgnfaaccgjaa", sum := "739a5b870bc0b641becd5ccaad86d9d47b321447a1dd5db7c1f74904d66ecce3", func := "stutter/stutterlaw24.OpenWatches", spec := "openWatches", unfollowed := true, recurses := true, plainKeys := false, apart := false }
def OpenWatchesSaid : Prop := openWatchesRow.holds Try.pinned (OpenSpec.ofChange openWatchesSpec)

/-- ITS FALSE NEIGHBOUR: 'it returns false'. Refute it at one input. -/
def openWatchesWrong : ChangeSpec := { name := "openWatches", fn := fun _ => fun
  | [d1, d2] => { results := [.lit (.bool false)], args := [d1, d2] }
  | _ => none }
def OpenWatchesWrongFalsely : Prop := openWatchesRow.holds Try.pinned (OpenSpec.ofChange openWatchesWrong)

/-- 'stutterlaw24.OpenViolates': WHATEVER THE INPUT: true; the input reads as it did. -/
def openViolatesSpec : ChangeSpec := { name := "openViolates", fn := fun _ => fun
  | [d1, d2, d3] => { results := [.lit (.bool true)], args := [d1, d2, d3] }
  | _ => none }
def openViolatesRow : OpenClaim := { program := "ythddgnfaaccgjaa", sum := "739a5b870bc0b641becd5ccaad86d9d47b321447a1dd5db7c1f74904d66ecce3", func := "stutter/stutterlaw24.OpenViolates", spec := "openViolates", unfollowed := true, recurses := true, plainKeys := false, apart := false }
def OpenViolatesSaid : Prop := openViolatesRow.holds Try.pinned (OpenSpec.ofChange openViolatesSpec)

/-- ITS FALSE NEIGHBOUR: 'it returns false'. Refute it at one input. -/
def openViolatesWrong : ChangeSpec := { name := "openViolates", fn := fun _ => fun
  | [d1, d2, d3] => { results := [.lit (.bool false)], args := [d1, d2, d3] }
  | _ => none }
def OpenViolatesWrongFalsely : Prop := openViolatesRow.holds Try.pinned (OpenSpec.ofChange openViolatesWrong)

/-- 'stutterlaw24.OpenCircular': WHATEVER THE INPUT: true; the input reads as it did. -/
def openCircularSpec : ChangeSpec := { name := "openCircular", fn := fun _ => fun
  | [d] => { results := [.lit (.bool true)], args := [d] }
  | _ => none }
def openCircularRow : OpenClaim := { program := "ythddgnfaaccgjaa", sum := "739a5b870bc0b641becd5ccaad86d9d47b321447a1dd5db7c1f74904d66ecce3", func := "stutter/stutterlaw24.OpenCircular", spec := "openCircular", unfollowed := true, recurses := true, plainKeys := false, apart := false }
def OpenCircularSaid : Prop := openCircularRow.holds Try.pinned (OpenSpec.ofChange openCircularSpec)

/-- ITS FALSE NEIGHBOUR: 'it returns false'. Refute it at one input. -/
def openCircularWrong : ChangeSpec := { name := "openCircular", fn := fun _ => fun
  | [d] => { results := [.lit (.bool false)], args := [d] }
  | _ => none }
def OpenCircularWrongFalsely : Prop := openCircularRow.holds Try.pinned (OpenSpec.ofChange openCircularWrong)

/- THE SECOND FORM. 'bulk': how many values and letters a reading holds, each counted each time it is reached (what is shared counts as often as it is met; a slice's spare places count too). A statement '..UptoSaid' is the law's where the arguments, and the package variables that the reading takes, are together of bulk at most 1048576: NARROWER than '..Said'. Prove '..Said' where nothing that the law and all that it calls make is longer than what came in: it says more and counts as full. Else prove '..UptoSaid'. A law counts once. -/
mutual
def uptoBulk {H : Type} : DataW H → Nat
  | .lit (.string bytes) => bytes.length + 1
  | .lit _ => 1
  | .nil => 1
  | .ptr d => uptoBulk d + 1
  | .slice elems spare => uptoBulkAll elems + uptoBulkAll spare + 1
  | .agg parts => uptoBulkAll parts + 1
  | .iface _ d => uptoBulk d + 1
  | .map entries => uptoBulkEntries entries + 1
  | .held _ => 1
def uptoBulkAll {H : Type} : List (DataW H) → Nat
  | [] => 0
  | d :: r => uptoBulk d + uptoBulkAll r
def uptoBulkEntries {H : Type} : List (Lit × DataW H) → Nat
  | [] => 0
  | x :: r => uptoBulkEntry x + uptoBulkEntries r
def uptoBulkEntry {H : Type} : Lit × DataW H → Nat
  | (.string bytes, d) => bytes.length + uptoBulk d + 1
  | (_, d) => uptoBulk d + 1
 end
def uptoSmall : (H : Type) → List (DataW H) → Bool := fun _ ds => decide (uptoBulkAll ds ≤ 1048576)
def OpenSpec.upto (s : _root_.Go.ChangeSpec) : _root_.Go.OpenSpec := { _root_.Go.OpenSpec.ofChange s with cond := some uptoSmall }

/-- 'stutterlaw24.OpenViolations', WHERE WHAT IT READS IS OF BULK AT MOST 1048576: true; the input reads as it did. -/
def openViolationsUptoRow : OpenClaim := { program := "ythddgnfaaccgjaa", sum := "739a5b870bc0b641becd5ccaad86d9d47b321447a1dd5db7c1f74904d66ecce3", func := "stutter/stutterlaw24.OpenViolations", spec := "openViolations", unfollowed := true, recurses := true, plainKeys := false, apart := false, narrowed := true }
def OpenViolationsUptoSaid : Prop := openViolationsUptoRow.holds Try.pinned (OpenSpec.upto openViolationsSpec)

/-- 'stutterlaw24.OpenComposes', WHERE WHAT IT READS IS OF BULK AT MOST 1048576: true; the input reads as it did. -/
def openComposesUptoRow : OpenClaim := { program := "ythddgnfaaccgjaa", sum := "739a5b870bc0b641becd5ccaad86d9d47b321447a1dd5db7c1f74904d66ecce3", func := "stutter/stutterlaw24.OpenComposes", spec := "openComposes", unfollowed := true, recurses := true, plainKeys := false, apart := false, narrowed := true }
def OpenComposesUptoSaid : Prop := openComposesUptoRow.holds Try.pinned (OpenSpec.upto openComposesSpec)

/-- 'stutterlaw24.OpenUnimplied', WHERE WHAT IT READS IS OF BULK AT MOST 1048576: true; the input reads as it did. -/
def openUnimpliedUptoRow : OpenClaim := { program := "ythddgnfaaccgjaa", sum := "739a5b870bc0b641becd5ccaad86d9d47b321447a1dd5db7c1f74904d66ecce3", func := "stutter/stutterlaw24.OpenUnimplied", spec := "openUnimplied", unfollowed := true, recurses := true, plainKeys := false, apart := false, narrowed := true }
def OpenUnimpliedUptoSaid : Prop := openUnimpliedUptoRow.holds Try.pinned (OpenSpec.upto openUnimpliedSpec)

/-- 'stutterlaw24.OpenChecks', WHERE WHAT IT READS IS OF BULK AT MOST 1048576: true; the input reads as it did. -/
def openChecksUptoRow : OpenClaim := { program := "ythddgnfaaccgjaa", sum := "739a5b870bc0b641becd5ccaad86d9d47b321447a1dd5db7c1f74904d66ecce3", func := "stutter/stutterlaw24.OpenChecks", spec := "openChecks", unfollowed := true, recurses := true, plainKeys := false, apart := false, narrowed := true }
def OpenChecksUptoSaid : Prop := openChecksUptoRow.holds Try.pinned (OpenSpec.upto openChecksSpec)

/-- 'stutterlaw24.OpenWatches', WHERE WHAT IT READS IS OF BULK AT MOST 1048576: true; the input reads as it did. -/
def openWatchesUptoRow : OpenClaim := { program := "ythddgnfaaccgjaa", sum := "739a5b870bc0b641becd5ccaad86d9d47b321447a1dd5db7c1f74904d66ecce3", func := "stutter/stutterlaw24.OpenWatches", spec := "openWatches", unfollowed := true, recurses := true, plainKeys := false, apart := false, narrowed := true }
def OpenWatchesUptoSaid : Prop := openWatchesUptoRow.holds Try.pinned (OpenSpec.upto openWatchesSpec)

/-- 'stutterlaw24.OpenViolates', WHERE WHAT IT READS IS OF BULK AT MOST 1048576: true; the input reads as it did. -/
def openViolatesUptoRow : OpenClaim := { program := "ythddgnfaaccgjaa", sum := "739a5b870bc0b641becd5ccaad86d9d47b321447a1dd5db7c1f74904d66ecce3", func := "stutter/stutterlaw24.OpenViolates", spec := "openViolates", unfollowed := true, recurses := true, plainKeys := false, apart := false, narrowed := true }
def OpenViolatesUptoSaid : Prop := openViolatesUptoRow.holds Try.pinned (OpenSpec.upto openViolatesSpec)

/-- 'stutterlaw24.OpenCircular', WHERE WHAT IT READS IS OF BULK AT MOST 1048576: true; the input reads as it did. -/
def openCircularUptoRow : OpenClaim := { program := "ythddgnfaaccgjaa", sum := "739a5b870bc0b641becd5ccaad86d9d47b321447a1dd5db7c1f74904d66ecce3", func := "stutter/stutterlaw24.OpenCircular", spec := "openCircular", unfollowed := true, recurses := true, plainKeys := false, apart := false, narrowed := true }
def OpenCircularUptoSaid : Prop := openCircularUptoRow.holds Try.pinned (OpenSpec.upto openCircularSpec)

end Rows
end Go.Proofs.Ythddgnfaaccgjaa
