/-
  DERIVED. GIVEN WITH THE SEED: THE CARDS: each row of YtpacancmcjbckaaGreatDoorRows.lean that lists a variable, with what it lists TIED to the program's text (the seventh form; the later family's looks); each row that meets fmt, with fmt's text TOLD by the authors' own Lean function (tested against real Go, not proved from fmt's source: count such statements apart). THE CARD IS WHAT COUNTS. Prove the row's statement (the work); the ties are given (YtpacancmcjbckaaGreatDoorTie.lean); close each card by the builder's one call (the guide's Derived/Test/ToyasCard.lean, 'card_holds'). Laid BY PROGRAM, IN A SANDBOX (cutbox-door.mjs). By AI agents, Wed Nov 11 2026. No macro, syntax, notation, axiom, sorry.
-/
import Derived.Test.YtpacancmcjbckaaGreatDoorRows
import GoSem.ClaimSeven
namespace Go.Proofs.YtpacancmcjbckaaGreatDoor
namespace Rows

/-- THE TIED CARD OF 'stutterlaw13.LassoTruths'. -/
def lassoTruthsCard : Claim7 := { stood := { row := lassoTruthsRow, standIns := [], harness := (true, "98bef7c5375844f969da89516d037819b1a57239a7494585b2bb93910f3c950f"), looks := true }, kinds := [], alts := [], laidByText := true, laidKinds := [.data, .data, .data, .sentinel, .sentinel], laidTests := true, laidLooks := .later }
def LassoTruthsCardSaid : Prop := Claim7.holds Tryz.pinned (.plain (OpenSpec.ofChange lassoTruthsSpec)) lassoTruthsCard

/-- THE TIED CARD OF 'stutterlaw13.LassoFirst'. -/
def lassoFirstCard : Claim7 := { stood := { row := lassoFirstRow, standIns := [], harness := (true, "98bef7c5375844f969da89516d037819b1a57239a7494585b2bb93910f3c950f"), looks := true }, kinds := [], alts := [], laidByText := true, laidKinds := [.data, .data, .data, .sentinel, .sentinel], laidTests := true, laidLooks := .later }
def LassoFirstCardSaid : Prop := Claim7.holds Tryz.pinned (.plain (OpenSpec.ofChange lassoFirstSpec)) lassoFirstCard

/-- THE TIED CARD OF 'stutterlaw13.LassoWords'. -/
def lassoWordsCard : Claim7 := { stood := { row := lassoWordsRow, standIns := [], harness := (true, "98bef7c5375844f969da89516d037819b1a57239a7494585b2bb93910f3c950f"), looks := true }, kinds := [], alts := [], laidByText := true, laidKinds := [.data, .data, .data, .sentinel, .sentinel], laidTests := true, laidLooks := .later }
def LassoWordsCardSaid : Prop := Claim7.holds Tryz.pinned (.plain (OpenSpec.ofChange lassoWordsSpec)) lassoWordsCard

/-- THE TIED CARD OF 'stutterlaw13.LassoDuals'. -/
def lassoDualsCard : Claim7 := { stood := { row := lassoDualsRow, standIns := [], harness := (true, "98bef7c5375844f969da89516d037819b1a57239a7494585b2bb93910f3c950f"), looks := true }, kinds := [], alts := [], laidByText := true, laidKinds := [.data, .data, .data, .sentinel, .sentinel], laidTests := true, laidLooks := .later }
def LassoDualsCardSaid : Prop := Claim7.holds Tryz.pinned (.plain (OpenSpec.ofChange lassoDualsSpec)) lassoDualsCard

/-- THE TIED CARD OF 'stutterlaw13.LassoGraphs'. -/
def lassoGraphsCard : Claim7 := { stood := { row := lassoGraphsRow, standIns := [], harness := (true, "98bef7c5375844f969da89516d037819b1a57239a7494585b2bb93910f3c950f"), looks := true }, kinds := [], alts := [], laidByText := true, laidKinds := [.data, .data, .data, .sentinel, .sentinel], laidTests := true, laidLooks := .later }
def LassoGraphsCardSaid : Prop := Claim7.holds Tryz.pinned (.plain (OpenSpec.ofChange lassoGraphsSpec)) lassoGraphsCard

/-- THE TIED CARD OF 'stutterlaw13.LassoFormulas'. -/
def lassoFormulasCard : Claim7 := { stood := { row := lassoFormulasRow, standIns := [], harness := (true, "98bef7c5375844f969da89516d037819b1a57239a7494585b2bb93910f3c950f"), looks := true }, kinds := [], alts := [], laidByText := true, laidKinds := [.data, .data, .data, .sentinel, .sentinel], laidTests := true, laidLooks := .later }
def LassoFormulasCardSaid : Prop := Claim7.holds Tryz.pinned (.plain (OpenSpec.ofChange lassoFormulasSpec)) lassoFormulasCard

/-- THE TIED CARD OF 'stutterlaw13.LassoGuards'. -/
def lassoGuardsCard : Claim7 := { stood := { row := lassoGuardsRow, standIns := [], harness := (true, "98bef7c5375844f969da89516d037819b1a57239a7494585b2bb93910f3c950f"), looks := true }, kinds := [], alts := [], laidByText := true, laidKinds := [.data, .data, .data, .sentinel, .sentinel], laidTests := true, laidLooks := .later }
def LassoGuardsCardSaid : Prop := Claim7.holds Tryz.pinned (.plain (OpenSpec.ofChange lassoGuardsSpec)) lassoGuardsCard

/-- THE TIED CARD OF 'stutterlaw13.LassoBehaviours'. -/
def lassoBehavioursCard : Claim7 := { stood := { row := lassoBehavioursRow, standIns := [], harness := (true, "98bef7c5375844f969da89516d037819b1a57239a7494585b2bb93910f3c950f"), looks := true }, kinds := [], alts := [], laidByText := true, laidKinds := [.data, .data, .data, .sentinel, .sentinel], laidTests := true, laidLooks := .later }
def LassoBehavioursCardSaid : Prop := Claim7.holds Tryz.pinned (.plain (OpenSpec.ofChange lassoBehavioursSpec)) lassoBehavioursCard

/-- THE TIED CARD OF 'stutterlaw13.LassoStutters'. -/
def lassoStuttersCard : Claim7 := { stood := { row := lassoStuttersRow, standIns := [], harness := (true, "98bef7c5375844f969da89516d037819b1a57239a7494585b2bb93910f3c950f"), looks := true }, kinds := [], alts := [], laidByText := true, laidKinds := [.data, .data, .data, .sentinel, .sentinel], laidTests := true, laidLooks := .later }
def LassoStuttersCardSaid : Prop := Claim7.holds Tryz.pinned (.plain (OpenSpec.ofChange lassoStuttersSpec)) lassoStuttersCard

/-- THE SECOND FORM's CARD OF 'stutterlaw13.LassoTruths'. -/
def lassoTruthsUptoCard : Claim7 := { stood := { row := lassoTruthsUptoRow, standIns := [], harness := (true, "98bef7c5375844f969da89516d037819b1a57239a7494585b2bb93910f3c950f"), looks := true }, kinds := [], alts := [], laidByText := true, laidKinds := [.data, .data, .data, .sentinel, .sentinel], laidTests := true, laidLooks := .later }
def LassoTruthsUptoCardSaid : Prop := Claim7.holds Tryz.pinned (.plain (OpenSpec.upto lassoTruthsSpec)) lassoTruthsUptoCard

/-- THE SECOND FORM's CARD OF 'stutterlaw13.LassoFirst'. -/
def lassoFirstUptoCard : Claim7 := { stood := { row := lassoFirstUptoRow, standIns := [], harness := (true, "98bef7c5375844f969da89516d037819b1a57239a7494585b2bb93910f3c950f"), looks := true }, kinds := [], alts := [], laidByText := true, laidKinds := [.data, .data, .data, .sentinel, .sentinel], laidTests := true, laidLooks := .later }
def LassoFirstUptoCardSaid : Prop := Claim7.holds Tryz.pinned (.plain (OpenSpec.upto lassoFirstSpec)) lassoFirstUptoCard

/-- THE SECOND FORM's CARD OF 'stutterlaw13.LassoWords'. -/
def lassoWordsUptoCard : Claim7 := { stood := { row := lassoWordsUptoRow, standIns := [], harness := (true, "98bef7c5375844f969da89516d037819b1a57239a7494585b2bb93910f3c950f"), looks := true }, kinds := [], alts := [], laidByText := true, laidKinds := [.data, .data, .data, .sentinel, .sentinel], laidTests := true, laidLooks := .later }
def LassoWordsUptoCardSaid : Prop := Claim7.holds Tryz.pinned (.plain (OpenSpec.upto lassoWordsSpec)) lassoWordsUptoCard

/-- THE SECOND FORM's CARD OF 'stutterlaw13.LassoDuals'. -/
def lassoDualsUptoCard : Claim7 := { stood := { row := lassoDualsUptoRow, standIns := [], harness := (true, "98bef7c5375844f969da89516d037819b1a57239a7494585b2bb93910f3c950f"), looks := true }, kinds := [], alts := [], laidByText := true, laidKinds := [.data, .data, .data, .sentinel, .sentinel], laidTests := true, laidLooks := .later }
def LassoDualsUptoCardSaid : Prop := Claim7.holds Tryz.pinned (.plain (OpenSpec.upto lassoDualsSpec)) lassoDualsUptoCard

/-- THE SECOND FORM's CARD OF 'stutterlaw13.LassoGraphs'. -/
def lassoGraphsUptoCard : Claim7 := { stood := { row := lassoGraphsUptoRow, standIns := [], harness := (true, "98bef7c5375844f969da89516d037819b1a57239a7494585b2bb93910f3c950f"), looks := true }, kinds := [], alts := [], laidByText := true, laidKinds := [.data, .data, .data, .sentinel, .sentinel], laidTests := true, laidLooks := .later }
def LassoGraphsUptoCardSaid : Prop := Claim7.holds Tryz.pinned (.plain (OpenSpec.upto lassoGraphsSpec)) lassoGraphsUptoCard

/-- THE SECOND FORM's CARD OF 'stutterlaw13.LassoFormulas'. -/
def lassoFormulasUptoCard : Claim7 := { stood := { row := lassoFormulasUptoRow, standIns := [], harness := (true, "98bef7c5375844f969da89516d037819b1a57239a7494585b2bb93910f3c950f"), looks := true }, kinds := [], alts := [], laidByText := true, laidKinds := [.data, .data, .data, .sentinel, .sentinel], laidTests := true, laidLooks := .later }
def LassoFormulasUptoCardSaid : Prop := Claim7.holds Tryz.pinned (.plain (OpenSpec.upto lassoFormulasSpec)) lassoFormulasUptoCard

/-- THE SECOND FORM's CARD OF 'stutterlaw13.LassoGuards'. -/
def lassoGuardsUptoCard : Claim7 := { stood := { row := lassoGuardsUptoRow, standIns := [], harness := (true, "98bef7c5375844f969da89516d037819b1a57239a7494585b2bb93910f3c950f"), looks := true }, kinds := [], alts := [], laidByText := true, laidKinds := [.data, .data, .data, .sentinel, .sentinel], laidTests := true, laidLooks := .later }
def LassoGuardsUptoCardSaid : Prop := Claim7.holds Tryz.pinned (.plain (OpenSpec.upto lassoGuardsSpec)) lassoGuardsUptoCard

/-- THE SECOND FORM's CARD OF 'stutterlaw13.LassoBehaviours'. -/
def lassoBehavioursUptoCard : Claim7 := { stood := { row := lassoBehavioursUptoRow, standIns := [], harness := (true, "98bef7c5375844f969da89516d037819b1a57239a7494585b2bb93910f3c950f"), looks := true }, kinds := [], alts := [], laidByText := true, laidKinds := [.data, .data, .data, .sentinel, .sentinel], laidTests := true, laidLooks := .later }
def LassoBehavioursUptoCardSaid : Prop := Claim7.holds Tryz.pinned (.plain (OpenSpec.upto lassoBehavioursSpec)) lassoBehavioursUptoCard

/-- THE SECOND FORM's CARD OF 'stutterlaw13.LassoStutters'. -/
def lassoStuttersUptoCard : Claim7 := { stood := { row := lassoStuttersUptoRow, standIns := [], harness := (true, "98bef7c5375844f969da89516d037819b1a57239a7494585b2bb93910f3c950f"), looks := true }, kinds := [], alts := [], laidByText := true, laidKinds := [.data, .data, .data, .sentinel, .sentinel], laidTests := true, laidLooks := .later }
def LassoStuttersUptoCardSaid : Prop := Claim7.holds Tryz.pinned (.plain (OpenSpec.upto lassoStuttersSpec)) lassoStuttersUptoCard
end Rows
end Go.Proofs.YtpacancmcjbckaaGreatDoor
