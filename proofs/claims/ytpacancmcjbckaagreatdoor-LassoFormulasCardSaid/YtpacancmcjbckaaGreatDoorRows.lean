/-
  NARROWER THAN 'FOR EVERY INPUT', by the rows' own cells (each row's printed sentence says how): LassoTruths: laid · LassoFirst: laid · LassoWords: laid · LassoDuals: laid · LassoGraphs: laid · LassoFormulas: laid · LassoGuards: laid · LassoBehaviours: laid · LassoStutters: laid.
  DERIVED. THE GIVEN ROWS OF THIS SEAT. 9 by the template 'for every input the law returns true; each argument reads behind the call as it read before'; 0 by the template 'total and deterministic' (their statements: YtpacancmcjbckaaGreatDoorTotals.lean).
  GIVEN WITH THE SEED: the statements are not yours to turn. If you find one false, say at which input.
  Laid BY PROGRAM, IN A SANDBOX (cutbox-rows.mjs): the forced cells as the released guide's own fill.sh prints them over the translation a8357c76f946ddea… (all of the seat's roots in one cut). By AI agents, Wed Nov 11 2026. No macro, syntax, notation, axiom, sorry.
-/
import Derived.Test.YtpacancmcjbckaaGreatDoorChecked
import GoSem.Claim
import GoSem.ClaimJoined
import GoSem.ClaimMapViews
import Derived.JoinedTies
import Derived.KernelRfl
namespace Go.Proofs.YtpacancmcjbckaaGreatDoor
/- THE CELL 'sum', in the pinned program and in every row, IS THE sha256 OF THE DUMP (.gsa) THAT YtpacancmcjbckaaGreatDoorProg.lean LOADS. Nothing in Lean hashes anything: it is a label: what it is worth is what the hold of that sum in a sandbox is worth. -/
noncomputable def Tryz.pinned : Pinned := { name := "ytpacancmcjbckaagreatdoor", sum := "a8357c76f946ddea18913877d3410328641e4135fc54c19fe8b39b97c5139b95", checked := Tryz.checked }
namespace Rows
def none {H : Type} : Left H := { results := [], args := [] }

/- WHAT THE LISTED PACKAGE-LEVEL VARIABLES READ AS WHEN THE CALL BEGINS. Each datum BY PROGRAM (the guide's laid-datum.mjs) off the statement by which the dump's own 'gosem.cut.vars' lays the variable. In a bare row this is a premise. The card (YtpacancmcjbckaaGreatDoorCards.lean) ties it to the program's text. -/
def laid_math_bits_deBruijn32tab {H : Type} : DataW H := .agg [.lit (.int .u8 0), .lit (.int .u8 1), .lit (.int .u8 28), .lit (.int .u8 2), .lit (.int .u8 29), .lit (.int .u8 14), .lit (.int .u8 24), .lit (.int .u8 3), .lit (.int .u8 30), .lit (.int .u8 22), .lit (.int .u8 20), .lit (.int .u8 15), .lit (.int .u8 25), .lit (.int .u8 17), .lit (.int .u8 4), .lit (.int .u8 8), .lit (.int .u8 31), .lit (.int .u8 27), .lit (.int .u8 13), .lit (.int .u8 23), .lit (.int .u8 21), .lit (.int .u8 19), .lit (.int .u8 16), .lit (.int .u8 7), .lit (.int .u8 26), .lit (.int .u8 12), .lit (.int .u8 18), .lit (.int .u8 6), .lit (.int .u8 11), .lit (.int .u8 5), .lit (.int .u8 10), .lit (.int .u8 9)]
def laid_math_bits_deBruijn64tab {H : Type} : DataW H := .agg [.lit (.int .u8 0), .lit (.int .u8 1), .lit (.int .u8 56), .lit (.int .u8 2), .lit (.int .u8 57), .lit (.int .u8 49), .lit (.int .u8 28), .lit (.int .u8 3), .lit (.int .u8 61), .lit (.int .u8 58), .lit (.int .u8 42), .lit (.int .u8 50), .lit (.int .u8 38), .lit (.int .u8 29), .lit (.int .u8 17), .lit (.int .u8 4), .lit (.int .u8 62), .lit (.int .u8 47), .lit (.int .u8 59), .lit (.int .u8 36), .lit (.int .u8 45), .lit (.int .u8 43), .lit (.int .u8 51), .lit (.int .u8 22), .lit (.int .u8 53), .lit (.int .u8 39), .lit (.int .u8 33), .lit (.int .u8 30), .lit (.int .u8 24), .lit (.int .u8 18), .lit (.int .u8 12), .lit (.int .u8 5), .lit (.int .u8 63), .lit (.int .u8 55), .lit (.int .u8 48), .lit (.int .u8 27), .lit (.int .u8 60), .lit (.int .u8 41), .lit (.int .u8 37), .lit (.int .u8 16), .lit (.int .u8 46), .lit (.int .u8 35), .lit (.int .u8 44), .lit (.int .u8 21), .lit (.int .u8 52), .lit (.int .u8 32), .lit (.int .u8 23), .lit (.int .u8 11), .lit (.int .u8 54), .lit (.int .u8 26), .lit (.int .u8 40), .lit (.int .u8 15), .lit (.int .u8 34), .lit (.int .u8 20), .lit (.int .u8 31), .lit (.int .u8 10), .lit (.int .u8 25), .lit (.int .u8 14), .lit (.int .u8 19), .lit (.int .u8 9), .lit (.int .u8 13), .lit (.int .u8 8), .lit (.int .u8 7), .lit (.int .u8 6)]
def laid_internal_strconv_uint64pow10 {H : Type} : DataW H := .agg [.lit (.int .u64 1), .lit (.int .u64 10), .lit (.int .u64 100), .lit (.int .u64 1000), .lit (.int .u64 10000), .lit (.int .u64 100000), .lit (.int .u64 1000000), .lit (.int .u64 10000000), .lit (.int .u64 100000000), .lit (.int .u64 1000000000), .lit (.int .u64 10000000000), .lit (.int .u64 100000000000), .lit (.int .u64 1000000000000), .lit (.int .u64 10000000000000), .lit (.int .u64 100000000000000), .lit (.int .u64 1000000000000000), .lit (.int .u64 10000000000000000), .lit (.int .u64 100000000000000000), .lit (.int .u64 1000000000000000000), .lit (.int .u64 10000000000000000000)]
def laid_strconv_ErrRange {H : Type} : DataW H := .iface "*errors.errorString" (.ptr (.agg [.lit (.string [118, 97, 108, 117, 101, 32, 111, 117, 116, 32, 111, 102, 32, 114, 97, 110, 103, 101])]))
def laid_strconv_ErrSyntax {H : Type} : DataW H := .iface "*errors.errorString" (.ptr (.agg [.lit (.string [105, 110, 118, 97, 108, 105, 100, 32, 115, 121, 110, 116, 97, 120])]))

/-- 'stutterlaw13.LassoTruths': WHATEVER THE INPUT: true; the input reads as it did. -/
def lassoTruthsSpec : ChangeSpec := { name := "lassoTruths", fn := fun _ => fun
  | [d1, d2] => { results := [.lit (.bool true)], args := [d1, d2] }
  | _ => none }
def lassoTruthsRow : OpenClaim := { program := "ytpacancmcjbckaagreatdoor", sum := "a8357c76f946ddea18913877d3410328641e4135fc54c19fe8b39b97c5139b95", func := "stutter/stutterlaw13.LassoTruths", spec := "lassoTruths", unfollowed := true, recurses := true, named := ["strconv.ErrSyntax", "strconv.ErrRange", "internal/strconv.uint64pow10", "math/bits.deBruijn32tab", "math/bits.deBruijn64tab"], apart := false, laid := [("math/bits.deBruijn32tab", laid_math_bits_deBruijn32tab), ("math/bits.deBruijn64tab", laid_math_bits_deBruijn64tab), ("internal/strconv.uint64pow10", laid_internal_strconv_uint64pow10), ("strconv.ErrRange", laid_strconv_ErrRange), ("strconv.ErrSyntax", laid_strconv_ErrSyntax)] }
def LassoTruthsSaid : Prop := lassoTruthsRow.holds Tryz.pinned (OpenSpec.ofChange lassoTruthsSpec)

/-- ITS FALSE NEIGHBOUR: 'it returns false'. Refute it at one input. -/
def lassoTruthsWrong : ChangeSpec := { name := "lassoTruths", fn := fun _ => fun
  | [d1, d2] => { results := [.lit (.bool false)], args := [d1, d2] }
  | _ => none }
def LassoTruthsWrongFalsely : Prop := lassoTruthsRow.holds Tryz.pinned (OpenSpec.ofChange lassoTruthsWrong)

/-- 'stutterlaw13.LassoFirst': WHATEVER THE INPUT: true; the input reads as it did. -/
def lassoFirstSpec : ChangeSpec := { name := "lassoFirst", fn := fun _ => fun
  | [d1, d2, d3] => { results := [.lit (.bool true)], args := [d1, d2, d3] }
  | _ => none }
def lassoFirstRow : OpenClaim := { program := "ytpacancmcjbckaagreatdoor", sum := "a8357c76f946ddea18913877d3410328641e4135fc54c19fe8b39b97c5139b95", func := "stutter/stutterlaw13.LassoFirst", spec := "lassoFirst", unfollowed := true, recurses := true, named := ["strconv.ErrSyntax", "strconv.ErrRange", "internal/strconv.uint64pow10", "math/bits.deBruijn32tab", "math/bits.deBruijn64tab"], apart := false, laid := [("math/bits.deBruijn32tab", laid_math_bits_deBruijn32tab), ("math/bits.deBruijn64tab", laid_math_bits_deBruijn64tab), ("internal/strconv.uint64pow10", laid_internal_strconv_uint64pow10), ("strconv.ErrRange", laid_strconv_ErrRange), ("strconv.ErrSyntax", laid_strconv_ErrSyntax)] }
def LassoFirstSaid : Prop := lassoFirstRow.holds Tryz.pinned (OpenSpec.ofChange lassoFirstSpec)

/-- ITS FALSE NEIGHBOUR: 'it returns false'. Refute it at one input. -/
def lassoFirstWrong : ChangeSpec := { name := "lassoFirst", fn := fun _ => fun
  | [d1, d2, d3] => { results := [.lit (.bool false)], args := [d1, d2, d3] }
  | _ => none }
def LassoFirstWrongFalsely : Prop := lassoFirstRow.holds Tryz.pinned (OpenSpec.ofChange lassoFirstWrong)

/-- 'stutterlaw13.LassoWords': WHATEVER THE INPUT: true; the input reads as it did. -/
def lassoWordsSpec : ChangeSpec := { name := "lassoWords", fn := fun _ => fun
  | [d] => { results := [.lit (.bool true)], args := [d] }
  | _ => none }
def lassoWordsRow : OpenClaim := { program := "ytpacancmcjbckaagreatdoor", sum := "a8357c76f946ddea18913877d3410328641e4135fc54c19fe8b39b97c5139b95", func := "stutter/stutterlaw13.LassoWords", spec := "lassoWords", unfollowed := true, recurses := true, named := ["strconv.ErrSyntax", "strconv.ErrRange", "internal/strconv.uint64pow10", "math/bits.deBruijn32tab", "math/bits.deBruijn64tab"], apart := false, laid := [("math/bits.deBruijn32tab", laid_math_bits_deBruijn32tab), ("math/bits.deBruijn64tab", laid_math_bits_deBruijn64tab), ("internal/strconv.uint64pow10", laid_internal_strconv_uint64pow10), ("strconv.ErrRange", laid_strconv_ErrRange), ("strconv.ErrSyntax", laid_strconv_ErrSyntax)] }
def LassoWordsSaid : Prop := lassoWordsRow.holds Tryz.pinned (OpenSpec.ofChange lassoWordsSpec)

/-- ITS FALSE NEIGHBOUR: 'it returns false'. Refute it at one input. -/
def lassoWordsWrong : ChangeSpec := { name := "lassoWords", fn := fun _ => fun
  | [d] => { results := [.lit (.bool false)], args := [d] }
  | _ => none }
def LassoWordsWrongFalsely : Prop := lassoWordsRow.holds Tryz.pinned (OpenSpec.ofChange lassoWordsWrong)

/-- 'stutterlaw13.LassoDuals': WHATEVER THE INPUT: true; the input reads as it did. -/
def lassoDualsSpec : ChangeSpec := { name := "lassoDuals", fn := fun _ => fun
  | [d1, d2, d3] => { results := [.lit (.bool true)], args := [d1, d2, d3] }
  | _ => none }
def lassoDualsRow : OpenClaim := { program := "ytpacancmcjbckaagreatdoor", sum := "a8357c76f946ddea18913877d3410328641e4135fc54c19fe8b39b97c5139b95", func := "stutter/stutterlaw13.LassoDuals", spec := "lassoDuals", unfollowed := true, recurses := true, named := ["strconv.ErrSyntax", "strconv.ErrRange", "internal/strconv.uint64pow10", "math/bits.deBruijn32tab", "math/bits.deBruijn64tab"], apart := false, laid := [("math/bits.deBruijn32tab", laid_math_bits_deBruijn32tab), ("math/bits.deBruijn64tab", laid_math_bits_deBruijn64tab), ("internal/strconv.uint64pow10", laid_internal_strconv_uint64pow10), ("strconv.ErrRange", laid_strconv_ErrRange), ("strconv.ErrSyntax", laid_strconv_ErrSyntax)] }
def LassoDualsSaid : Prop := lassoDualsRow.holds Tryz.pinned (OpenSpec.ofChange lassoDualsSpec)

/-- ITS FALSE NEIGHBOUR: 'it returns false'. Refute it at one input. -/
def lassoDualsWrong : ChangeSpec := { name := "lassoDuals", fn := fun _ => fun
  | [d1, d2, d3] => { results := [.lit (.bool false)], args := [d1, d2, d3] }
  | _ => none }
def LassoDualsWrongFalsely : Prop := lassoDualsRow.holds Tryz.pinned (OpenSpec.ofChange lassoDualsWrong)

/-- 'stutterlaw13.LassoGraphs': WHATEVER THE INPUT: true; the input reads as it did. -/
def lassoGraphsSpec : ChangeSpec := { name := "lassoGraphs", fn := fun _ => fun
  | [d1, d2] => { results := [.lit (.bool true)], args := [d1, d2] }
  | _ => none }
def lassoGraphsRow : OpenClaim := { program := "ytpacancmcjbckaagreatdoor", sum := "a8357c76f946ddea18913877d3410328641e4135fc54c19fe8b39b97c5139b95", func := "stutter/stutterlaw13.LassoGraphs", spec := "lassoGraphs", unfollowed := true, recurses := true, named := ["strconv.ErrSyntax", "strconv.ErrRange", "internal/strconv.uint64pow10", "math/bits.deBruijn32tab", "math/bits.deBruijn64tab"], apart := false, laid := [("math/bits.deBruijn32tab", laid_math_bits_deBruijn32tab), ("math/bits.deBruijn64tab", laid_math_bits_deBruijn64tab), ("internal/strconv.uint64pow10", laid_internal_strconv_uint64pow10), ("strconv.ErrRange", laid_strconv_ErrRange), ("strconv.ErrSyntax", laid_strconv_ErrSyntax)] }
def LassoGraphsSaid : Prop := lassoGraphsRow.holds Tryz.pinned (OpenSpec.ofChange lassoGraphsSpec)

/-- ITS FALSE NEIGHBOUR: 'it returns false'. Refute it at one input. -/
def lassoGraphsWrong : ChangeSpec := { name := "lassoGraphs", fn := fun _ => fun
  | [d1, d2] => { results := [.lit (.bool false)], args := [d1, d2] }
  | _ => none }
def LassoGraphsWrongFalsely : Prop := lassoGraphsRow.holds Tryz.pinned (OpenSpec.ofChange lassoGraphsWrong)

/-- 'stutterlaw13.LassoFormulas': WHATEVER THE INPUT: true; the input reads as it did. -/
def lassoFormulasSpec : ChangeSpec := { name := "lassoFormulas", fn := fun _ => fun
  | [d1, d2] => { results := [.lit (.bool true)], args := [d1, d2] }
  | _ => none }
def lassoFormulasRow : OpenClaim := { program := "ytpacancmcjbckaagreatdoor", sum := "a8357c76f946ddea18913877d3410328641e4135fc54c19fe8b39b97c5139b95", func := "stutter/stutterlaw13.LassoFormulas", spec := "lassoFormulas", unfollowed := true, recurses := true, named := ["strconv.ErrSyntax", "strconv.ErrRange", "internal/strconv.uint64pow10", "math/bits.deBruijn32tab", "math/bits.deBruijn64tab"], apart := false, laid := [("math/bits.deBruijn32tab", laid_math_bits_deBruijn32tab), ("math/bits.deBruijn64tab", laid_math_bits_deBruijn64tab), ("internal/strconv.uint64pow10", laid_internal_strconv_uint64pow10), ("strconv.ErrRange", laid_strconv_ErrRange), ("strconv.ErrSyntax", laid_strconv_ErrSyntax)] }
def LassoFormulasSaid : Prop := lassoFormulasRow.holds Tryz.pinned (OpenSpec.ofChange lassoFormulasSpec)

/-- ITS FALSE NEIGHBOUR: 'it returns false'. Refute it at one input. -/
def lassoFormulasWrong : ChangeSpec := { name := "lassoFormulas", fn := fun _ => fun
  | [d1, d2] => { results := [.lit (.bool false)], args := [d1, d2] }
  | _ => none }
def LassoFormulasWrongFalsely : Prop := lassoFormulasRow.holds Tryz.pinned (OpenSpec.ofChange lassoFormulasWrong)

/-- 'stutterlaw13.LassoGuards': WHATEVER THE INPUT: true; the input reads as it did. -/
def lassoGuardsSpec : ChangeSpec := { name := "lassoGuards", fn := fun _ => fun
  | [d1, d2] => { results := [.lit (.bool true)], args := [d1, d2] }
  | _ => none }
def lassoGuardsRow : OpenClaim := { program := "ytpacancmcjbckaagreatdoor", sum := "a8357c76f946ddea18913877d3410328641e4135fc54c19fe8b39b97c5139b95", func := "stutter/stutterlaw13.LassoGuards", spec := "lassoGuards", unfollowed := true, recurses := true, named := ["strconv.ErrSyntax", "strconv.ErrRange", "internal/strconv.uint64pow10", "math/bits.deBruijn32tab", "math/bits.deBruijn64tab"], apart := false, laid := [("math/bits.deBruijn32tab", laid_math_bits_deBruijn32tab), ("math/bits.deBruijn64tab", laid_math_bits_deBruijn64tab), ("internal/strconv.uint64pow10", laid_internal_strconv_uint64pow10), ("strconv.ErrRange", laid_strconv_ErrRange), ("strconv.ErrSyntax", laid_strconv_ErrSyntax)] }
def LassoGuardsSaid : Prop := lassoGuardsRow.holds Tryz.pinned (OpenSpec.ofChange lassoGuardsSpec)

/-- ITS FALSE NEIGHBOUR: 'it returns false'. Refute it at one input. -/
def lassoGuardsWrong : ChangeSpec := { name := "lassoGuards", fn := fun _ => fun
  | [d1, d2] => { results := [.lit (.bool false)], args := [d1, d2] }
  | _ => none }
def LassoGuardsWrongFalsely : Prop := lassoGuardsRow.holds Tryz.pinned (OpenSpec.ofChange lassoGuardsWrong)

/-- 'stutterlaw13.LassoBehaviours': WHATEVER THE INPUT: true; the input reads as it did. -/
def lassoBehavioursSpec : ChangeSpec := { name := "lassoBehaviours", fn := fun _ => fun
  | [d1, d2] => { results := [.lit (.bool true)], args := [d1, d2] }
  | _ => none }
def lassoBehavioursRow : OpenClaim := { program := "ytpacancmcjbckaagreatdoor", sum := "a8357c76f946ddea18913877d3410328641e4135fc54c19fe8b39b97c5139b95", func := "stutter/stutterlaw13.LassoBehaviours", spec := "lassoBehaviours", unfollowed := true, recurses := true, named := ["strconv.ErrSyntax", "strconv.ErrRange", "internal/strconv.uint64pow10", "math/bits.deBruijn32tab", "math/bits.deBruijn64tab"], apart := false, laid := [("math/bits.deBruijn32tab", laid_math_bits_deBruijn32tab), ("math/bits.deBruijn64tab", laid_math_bits_deBruijn64tab), ("internal/strconv.uint64pow10", laid_internal_strconv_uint64pow10), ("strconv.ErrRange", laid_strconv_ErrRange), ("strconv.ErrSyntax", laid_strconv_ErrSyntax)] }
def LassoBehavioursSaid : Prop := lassoBehavioursRow.holds Tryz.pinned (OpenSpec.ofChange lassoBehavioursSpec)

/-- ITS FALSE NEIGHBOUR: 'it returns false'. Refute it at one input. -/
def lassoBehavioursWrong : ChangeSpec := { name := "lassoBehaviours", fn := fun _ => fun
  | [d1, d2] => { results := [.lit (.bool false)], args := [d1, d2] }
  | _ => none }
def LassoBehavioursWrongFalsely : Prop := lassoBehavioursRow.holds Tryz.pinned (OpenSpec.ofChange lassoBehavioursWrong)

/-- 'stutterlaw13.LassoStutters': WHATEVER THE INPUT: true; the input reads as it did. -/
def lassoStuttersSpec : ChangeSpec := { name := "lassoStutters", fn := fun _ => fun
  | [d1, d2, d3] => { results := [.lit (.bool true)], args := [d1, d2, d3] }
  | _ => none }
def lassoStuttersRow : OpenClaim := { program := "ytpacancmcjbckaagreatdoor", sum := "a8357c76f946ddea18913877d3410328641e4135fc54c19fe8b39b97c5139b95", func := "stutter/stutterlaw13.LassoStutters", spec := "lassoStutters", unfollowed := true, recurses := true, named := ["strconv.ErrSyntax", "strconv.ErrRange", "internal/strconv.uint64pow10", "math/bits.deBruijn32tab", "math/bits.deBruijn64tab"], apart := false, laid := [("math/bits.deBruijn32tab", laid_math_bits_deBruijn32tab), ("math/bits.deBruijn64tab", laid_math_bits_deBruijn64tab), ("internal/strconv.uint64pow10", laid_internal_strconv_uint64pow10), ("strconv.ErrRange", laid_strconv_ErrRange), ("strconv.ErrSyntax", laid_strconv_ErrSyntax)] }
def LassoStuttersSaid : Prop := lassoStuttersRow.holds Tryz.pinned (OpenSpec.ofChange lassoStuttersSpec)

/-- ITS FALSE NEIGHBOUR: 'it returns false'. Refute it at one input. -/
def lassoStuttersWrong : ChangeSpec := { name := "lassoStutters", fn := fun _ => fun
  | [d1, d2, d3] => { results := [.lit (.bool false)], args := [d1, d2, d3] }
  | _ => none }
def LassoStuttersWrongFalsely : Prop := lassoStuttersRow.holds Tryz.pinned (OpenSpec.ofChange lassoStuttersWrong)

/- THE SECOND FORM. 'bulk': how many values and letters a reading holds, each counted each time it is reached (what is shared counts as often as it is met; a slice's spare places count too). A statement '..UptoSaid' is the law's where the arguments, and the package variables that the reading takes, are together of bulk at most 1048576: NARROWER than '..Said'. Prove '..Said' where nothing that the law and all that it calls make is longer than what came in: it says more and counts as full. Else prove '..UptoSaid'. A law counts once. -/
mutual
def uptoBulk {H : Type} : DataW H → Nat
  | .lit (.string bytes) => bytes.length + 1
  | .lit _ => 1
  | .nil => 1
  | .ptr d => uptoBulk d + 1
  | .slice elems spare => uptoBulkAll elems + uptoBulkAll spare + 1
  | .agg parts => uptoBulkAll parts + 1
  | .iface _ d => uptoBulk d + 1
  | .map entries => uptoBulkEntries entries + 1
  | .held _ => 1
def uptoBulkAll {H : Type} : List (DataW H) → Nat
  | [] => 0
  | d :: r => uptoBulk d + uptoBulkAll r
def uptoBulkEntries {H : Type} : List (Lit × DataW H) → Nat
  | [] => 0
  | x :: r => uptoBulkEntry x + uptoBulkEntries r
def uptoBulkEntry {H : Type} : Lit × DataW H → Nat
  | (.string bytes, d) => bytes.length + uptoBulk d + 1
  | (_, d) => uptoBulk d + 1
 end
def uptoSmall : (H : Type) → List (DataW H) → Bool := fun _ ds => decide (uptoBulkAll ds ≤ 1048576)
def OpenSpec.upto (s : _root_.Go.ChangeSpec) : _root_.Go.OpenSpec := { _root_.Go.OpenSpec.ofChange s with cond := some uptoSmall }

/-- 'stutterlaw13.LassoTruths', WHERE WHAT IT READS IS OF BULK AT MOST 1048576: true; the input reads as it did. -/
def lassoTruthsUptoRow : OpenClaim := { program := "ytpacancmcjbckaagreatdoor", sum := "a8357c76f946ddea18913877d3410328641e4135fc54c19fe8b39b97c5139b95", func := "stutter/stutterlaw13.LassoTruths", spec := "lassoTruths", unfollowed := true, recurses := true, named := ["strconv.ErrSyntax", "strconv.ErrRange", "internal/strconv.uint64pow10", "math/bits.deBruijn32tab", "math/bits.deBruijn64tab"], apart := false, laid := [("math/bits.deBruijn32tab", laid_math_bits_deBruijn32tab), ("math/bits.deBruijn64tab", laid_math_bits_deBruijn64tab), ("internal/strconv.uint64pow10", laid_internal_strconv_uint64pow10), ("strconv.ErrRange", laid_strconv_ErrRange), ("strconv.ErrSyntax", laid_strconv_ErrSyntax)], narrowed := true }
def LassoTruthsUptoSaid : Prop := lassoTruthsUptoRow.holds Tryz.pinned (OpenSpec.upto lassoTruthsSpec)

/-- 'stutterlaw13.LassoFirst', WHERE WHAT IT READS IS OF BULK AT MOST 1048576: true; the input reads as it did. -/
def lassoFirstUptoRow : OpenClaim := { program := "ytpacancmcjbckaagreatdoor", sum := "a8357c76f946ddea18913877d3410328641e4135fc54c19fe8b39b97c5139b95", func := "stutter/stutterlaw13.LassoFirst", spec := "lassoFirst", unfollowed := true, recurses := true, named := ["strconv.ErrSyntax", "strconv.ErrRange", "internal/strconv.uint64pow10", "math/bits.deBruijn32tab", "math/bits.deBruijn64tab"], apart := false, laid := [("math/bits.deBruijn32tab", laid_math_bits_deBruijn32tab), ("math/bits.deBruijn64tab", laid_math_bits_deBruijn64tab), ("internal/strconv.uint64pow10", laid_internal_strconv_uint64pow10), ("strconv.ErrRange", laid_strconv_ErrRange), ("strconv.ErrSyntax", laid_strconv_ErrSyntax)], narrowed := true }
def LassoFirstUptoSaid : Prop := lassoFirstUptoRow.holds Tryz.pinned (OpenSpec.upto lassoFirstSpec)

/-- 'stutterlaw13.LassoWords', WHERE WHAT IT READS IS OF BULK AT MOST 1048576: true; the input reads as it did. -/
def lassoWordsUptoRow : OpenClaim := { program := "ytpacancmcjbckaagreatdoor", sum := "a8357c76f946ddea18913877d3410328641e4135fc54c19fe8b39b97c5139b95", func := "stutter/stutterlaw13.LassoWords", spec := "lassoWords", unfollowed := true, recurses := true, named := ["strconv.ErrSyntax", "strconv.ErrRange", "internal/strconv.uint64pow10", "math/bits.deBruijn32tab", "math/bits.deBruijn64tab"], apart := false, laid := [("math/bits.deBruijn32tab", laid_math_bits_deBruijn32tab), ("math/bits.deBruijn64tab", laid_math_bits_deBruijn64tab), ("internal/strconv.uint64pow10", laid_internal_strconv_uint64pow10), ("strconv.ErrRange", laid_strconv_ErrRange), ("strconv.ErrSyntax", laid_strconv_ErrSyntax)], narrowed := true }
def LassoWordsUptoSaid : Prop := lassoWordsUptoRow.holds Tryz.pinned (OpenSpec.upto lassoWordsSpec)

/-- 'stutterlaw13.LassoDuals', WHERE WHAT IT READS IS OF BULK AT MOST 1048576: true; the input reads as it did. -/
def lassoDualsUptoRow : OpenClaim := { program := "ytpacancmcjbckaagreatdoor", sum := "a8357c76f946ddea18913877d3410328641e4135fc54c19fe8b39b97c5139b95", func := "stutter/stutterlaw13.LassoDuals", spec := "lassoDuals", unfollowed := true, recurses := true, named := ["strconv.ErrSyntax", "strconv.ErrRange", "internal/strconv.uint64pow10", "math/bits.deBruijn32tab", "math/bits.deBruijn64tab"], apart := false, laid := [("math/bits.deBruijn32tab", laid_math_bits_deBruijn32tab), ("math/bits.deBruijn64tab", laid_math_bits_deBruijn64tab), ("internal/strconv.uint64pow10", laid_internal_strconv_uint64pow10), ("strconv.ErrRange", laid_strconv_ErrRange), ("strconv.ErrSyntax", laid_strconv_ErrSyntax)], narrowed := true }
def LassoDualsUptoSaid : Prop := lassoDualsUptoRow.holds Tryz.pinned (OpenSpec.upto lassoDualsSpec)

/-- 'stutterlaw13.LassoGraphs', WHERE WHAT IT READS IS OF BULK AT MOST 1048576: true; the input reads as it did. -/
def lassoGraphsUptoRow : OpenClaim := { program := "ytpacancmcjbckaagreatdoor", sum := "a8357c76f946ddea18913877d3410328641e4135fc54c19fe8b39b97c5139b95", func := "stutter/stutterlaw13.LassoGraphs", spec := "lassoGraphs", unfollowed := true, recurses := true, named := ["strconv.ErrSyntax", "strconv.ErrRange", "internal/strconv.uint64pow10", "math/bits.deBruijn32tab", "math/bits.deBruijn64tab"], apart := false, laid := [("math/bits.deBruijn32tab", laid_math_bits_deBruijn32tab), ("math/bits.deBruijn64tab", laid_math_bits_deBruijn64tab), ("internal/strconv.uint64pow10", laid_internal_strconv_uint64pow10), ("strconv.ErrRange", laid_strconv_ErrRange), ("strconv.ErrSyntax", laid_strconv_ErrSyntax)], narrowed := true }
def LassoGraphsUptoSaid : Prop := lassoGraphsUptoRow.holds Tryz.pinned (OpenSpec.upto lassoGraphsSpec)

/-- 'stutterlaw13.LassoFormulas', WHERE WHAT IT READS IS OF BULK AT MOST 1048576: true; the input reads as it did. -/
def lassoFormulasUptoRow : OpenClaim := { program := "ytpacancmcjbckaagreatdoor", sum := "a8357c76f946ddea18913877d3410328641e4135fc54c19fe8b39b97c5139b95", func := "stutter/stutterlaw13.LassoFormulas", spec := "lassoFormulas", unfollowed := true, recurses := true, named := ["strconv.ErrSyntax", "strconv.ErrRange", "internal/strconv.uint64pow10", "math/bits.deBruijn32tab", "math/bits.deBruijn64tab"], apart := false, laid := [("math/bits.deBruijn32tab", laid_math_bits_deBruijn32tab), ("math/bits.deBruijn64tab", laid_math_bits_deBruijn64tab), ("internal/strconv.uint64pow10", laid_internal_strconv_uint64pow10), ("strconv.ErrRange", laid_strconv_ErrRange), ("strconv.ErrSyntax", laid_strconv_ErrSyntax)], narrowed := true }
def LassoFormulasUptoSaid : Prop := lassoFormulasUptoRow.holds Tryz.pinned (OpenSpec.upto lassoFormulasSpec)

/-- 'stutterlaw13.LassoGuards', WHERE WHAT IT READS IS OF BULK AT MOST 1048576: true; the input reads as it did. -/
def lassoGuardsUptoRow : OpenClaim := { program := "ytpacancmcjbckaagreatdoor", sum := "a8357c76f946ddea18913877d3410328641e4135fc54c19fe8b39b97c5139b95", func := "stutter/stutterlaw13.LassoGuards", spec := "lassoGuards", unfollowed := true, recurses := true, named := ["strconv.ErrSyntax", "strconv.ErrRange", "internal/strconv.uint64pow10", "math/bits.deBruijn32tab", "math/bits.deBruijn64tab"], apart := false, laid := [("math/bits.deBruijn32tab", laid_math_bits_deBruijn32tab), ("math/bits.deBruijn64tab", laid_math_bits_deBruijn64tab), ("internal/strconv.uint64pow10", laid_internal_strconv_uint64pow10), ("strconv.ErrRange", laid_strconv_ErrRange), ("strconv.ErrSyntax", laid_strconv_ErrSyntax)], narrowed := true }
def LassoGuardsUptoSaid : Prop := lassoGuardsUptoRow.holds Tryz.pinned (OpenSpec.upto lassoGuardsSpec)

/-- 'stutterlaw13.LassoBehaviours', WHERE WHAT IT READS IS OF BULK AT MOST 1048576: true; the input reads as it did. -/
def lassoBehavioursUptoRow : OpenClaim := { program := "ytpacancmcjbckaagreatdoor", sum := "a8357c76f946ddea18913877d3410328641e4135fc54c19fe8b39b97c5139b95", func := "stutter/stutterlaw13.LassoBehaviours", spec := "lassoBehaviours", unfollowed := true, recurses := true, named := ["strconv.ErrSyntax", "strconv.ErrRange", "internal/strconv.uint64pow10", "math/bits.deBruijn32tab", "math/bits.deBruijn64tab"], apart := false, laid := [("math/bits.deBruijn32tab", laid_math_bits_deBruijn32tab), ("math/bits.deBruijn64tab", laid_math_bits_deBruijn64tab), ("internal/strconv.uint64pow10", laid_internal_strconv_uint64pow10), ("strconv.ErrRange", laid_strconv_ErrRange), ("strconv.ErrSyntax", laid_strconv_ErrSyntax)], narrowed := true }
def LassoBehavioursUptoSaid : Prop := lassoBehavioursUptoRow.holds Tryz.pinned (OpenSpec.upto lassoBehavioursSpec)

/-- 'stutterlaw13.LassoStutters', WHERE WHAT IT READS IS OF BULK AT MOST 1048576: true; the input reads as it did. -/
def lassoStuttersUptoRow : OpenClaim := { program := "ytpacancmcjbckaagreatdoor", sum := "a8357c76f946ddea18913877d3410328641e4135fc54c19fe8b39b97c5139b95", func := "stutter/stutterlaw13.LassoStutters", spec := "lassoStutters", unfollowed := true, recurses := true, named := ["strconv.ErrSyntax", "strconv.ErrRange", "internal/strconv.uint64pow10", "math/bits.deBruijn32tab", "math/bits.deBruijn64tab"], apart := false, laid := [("math/bits.deBruijn32tab", laid_math_bits_deBruijn32tab), ("math/bits.deBruijn64tab", laid_math_bits_deBruijn64tab), ("internal/strconv.uint64pow10", laid_internal_strconv_uint64pow10), ("strconv.ErrRange", laid_strconv_ErrRange), ("strconv.ErrSyntax", laid_strconv_ErrSyntax)], narrowed := true }
def LassoStuttersUptoSaid : Prop := lassoStuttersUptoRow.holds Tryz.pinned (OpenSpec.upto lassoStuttersSpec)

end Rows
end Go.Proofs.YtpacancmcjbckaaGreatDoor
