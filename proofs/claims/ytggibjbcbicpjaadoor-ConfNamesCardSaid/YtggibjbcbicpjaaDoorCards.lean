/-
  DERIVED. GIVEN WITH THE SEED: THE CARDS: each row of YtggibjbcbicpjaaDoorRows.lean that lists a variable, with what it lists TIED to the program's text (the seventh form; the later family's looks); each row that meets fmt, with fmt's text TOLD by the authors' own Lean function (tested against real Go, not proved from fmt's source: count such statements apart). THE CARD IS WHAT COUNTS. Prove the row's statement (the work); the ties are given (YtggibjbcbicpjaaDoorTie.lean); close each card by the builder's one call (the guide's Derived/Test/ToyasCard.lean, 'card_holds'). Laid BY PROGRAM, IN A SANDBOX (cutbox-door.mjs). By AI agents, Wed Nov 11 2026. No macro, syntax, notation, axiom, sorry.
-/
import Derived.Test.YtggibjbcbicpjaaDoorRows
import GoSem.ClaimSeven
namespace Go.Proofs.YtggibjbcbicpjaaDoor
namespace Rows

/-- THE TIED CARD OF 'plnlaw7.LexTells'. -/
def lexTellsCard : Claim7 := { stood := { row := lexTellsRow, standIns := [], harness := (true, "fd61a7edff483b4303429315d8811f053a75a55e01048e1085d482303af3cc76"), looks := true }, kinds := [], alts := [], laidByText := true, laidKinds := [.data, .data, .data, .sentinel, .sentinel], laidTests := true, laidLooks := .later }
def LexTellsCardSaid : Prop := Claim7.holds Tryd.pinned (.plain (OpenSpec.ofChange lexTellsSpec)) lexTellsCard

/-- THE TIED CARD OF 'plnlaw7.LexBack'. -/
def lexBackCard : Claim7 := { stood := { row := lexBackRow, standIns := [], harness := (true, "fd61a7edff483b4303429315d8811f053a75a55e01048e1085d482303af3cc76"), looks := true }, kinds := [], alts := [], laidByText := true, laidKinds := [.data, .data, .data, .sentinel, .sentinel], laidTests := true, laidLooks := .later }
def LexBackCardSaid : Prop := Claim7.holds Tryd.pinned (.plain (OpenSpec.ofChange lexBackSpec)) lexBackCard

/-- THE TIED CARD OF 'plnlaw32.ConfNames'. -/
def confNamesCard : Claim7 := { stood := { row := confNamesRow, standIns := [], harness := (true, "fd61a7edff483b4303429315d8811f053a75a55e01048e1085d482303af3cc76"), looks := true }, kinds := [], alts := [], laidByText := true, laidKinds := [.data, .data, .data, .sentinel, .sentinel], laidTests := true, laidLooks := .later }
def ConfNamesCardSaid : Prop := Claim7.holds Tryd.pinned (.plain (OpenSpec.ofChange confNamesSpec)) confNamesCard

/-- THE TIED CARD OF 'plnlaw32.ConfWrong'. -/
def confWrongCard : Claim7 := { stood := { row := confWrongRow, standIns := [], harness := (true, "fd61a7edff483b4303429315d8811f053a75a55e01048e1085d482303af3cc76"), looks := true }, kinds := [], alts := [], laidByText := true, laidKinds := [.data, .data, .data, .sentinel, .sentinel], laidTests := true, laidLooks := .later }
def ConfWrongCardSaid : Prop := Claim7.holds Tryd.pinned (.plain (OpenSpec.ofChange confWrongSpec)) confWrongCard

/-- THE TIED CARD OF 'plnlaw32.ConfTells'. -/
def confTellsCard : Claim7 := { stood := { row := confTellsRow, standIns := [], harness := (true, "fd61a7edff483b4303429315d8811f053a75a55e01048e1085d482303af3cc76"), looks := true }, kinds := [], alts := [], laidByText := true, laidKinds := [.data, .data, .data, .sentinel, .sentinel], laidTests := true, laidLooks := .later }
def ConfTellsCardSaid : Prop := Claim7.holds Tryd.pinned (.plain (OpenSpec.ofChange confTellsSpec)) confTellsCard

/-- THE TIED CARD OF 'plnlaw32.ConfBack'. -/
def confBackCard : Claim7 := { stood := { row := confBackRow, standIns := [], harness := (true, "fd61a7edff483b4303429315d8811f053a75a55e01048e1085d482303af3cc76"), looks := true }, kinds := [], alts := [], laidByText := true, laidKinds := [.data, .data, .data, .sentinel, .sentinel], laidTests := true, laidLooks := .later }
def ConfBackCardSaid : Prop := Claim7.holds Tryd.pinned (.plain (OpenSpec.ofChange confBackSpec)) confBackCard

/-- THE SECOND FORM's CARD OF 'plnlaw7.LexTells'. -/
def lexTellsUptoCard : Claim7 := { stood := { row := lexTellsUptoRow, standIns := [], harness := (true, "fd61a7edff483b4303429315d8811f053a75a55e01048e1085d482303af3cc76"), looks := true }, kinds := [], alts := [], laidByText := true, laidKinds := [.data, .data, .data, .sentinel, .sentinel], laidTests := true, laidLooks := .later }
def LexTellsUptoCardSaid : Prop := Claim7.holds Tryd.pinned (.plain (OpenSpec.upto lexTellsSpec)) lexTellsUptoCard

/-- THE SECOND FORM's CARD OF 'plnlaw7.LexBack'. -/
def lexBackUptoCard : Claim7 := { stood := { row := lexBackUptoRow, standIns := [], harness := (true, "fd61a7edff483b4303429315d8811f053a75a55e01048e1085d482303af3cc76"), looks := true }, kinds := [], alts := [], laidByText := true, laidKinds := [.data, .data, .data, .sentinel, .sentinel], laidTests := true, laidLooks := .later }
def LexBackUptoCardSaid : Prop := Claim7.holds Tryd.pinned (.plain (OpenSpec.upto lexBackSpec)) lexBackUptoCard

/-- THE SECOND FORM's CARD OF 'plnlaw32.ConfNames'. -/
def confNamesUptoCard : Claim7 := { stood := { row := confNamesUptoRow, standIns := [], harness := (true, "fd61a7edff483b4303429315d8811f053a75a55e01048e1085d482303af3cc76"), looks := true }, kinds := [], alts := [], laidByText := true, laidKinds := [.data, .data, .data, .sentinel, .sentinel], laidTests := true, laidLooks := .later }
def ConfNamesUptoCardSaid : Prop := Claim7.holds Tryd.pinned (.plain (OpenSpec.upto confNamesSpec)) confNamesUptoCard

/-- THE SECOND FORM's CARD OF 'plnlaw32.ConfWrong'. -/
def confWrongUptoCard : Claim7 := { stood := { row := confWrongUptoRow, standIns := [], harness := (true, "fd61a7edff483b4303429315d8811f053a75a55e01048e1085d482303af3cc76"), looks := true }, kinds := [], alts := [], laidByText := true, laidKinds := [.data, .data, .data, .sentinel, .sentinel], laidTests := true, laidLooks := .later }
def ConfWrongUptoCardSaid : Prop := Claim7.holds Tryd.pinned (.plain (OpenSpec.upto confWrongSpec)) confWrongUptoCard

/-- THE SECOND FORM's CARD OF 'plnlaw32.ConfTells'. -/
def confTellsUptoCard : Claim7 := { stood := { row := confTellsUptoRow, standIns := [], harness := (true, "fd61a7edff483b4303429315d8811f053a75a55e01048e1085d482303af3cc76"), looks := true }, kinds := [], alts := [], laidByText := true, laidKinds := [.data, .data, .data, .sentinel, .sentinel], laidTests := true, laidLooks := .later }
def ConfTellsUptoCardSaid : Prop := Claim7.holds Tryd.pinned (.plain (OpenSpec.upto confTellsSpec)) confTellsUptoCard

/-- THE SECOND FORM's CARD OF 'plnlaw32.ConfBack'. -/
def confBackUptoCard : Claim7 := { stood := { row := confBackUptoRow, standIns := [], harness := (true, "fd61a7edff483b4303429315d8811f053a75a55e01048e1085d482303af3cc76"), looks := true }, kinds := [], alts := [], laidByText := true, laidKinds := [.data, .data, .data, .sentinel, .sentinel], laidTests := true, laidLooks := .later }
def ConfBackUptoCardSaid : Prop := Claim7.holds Tryd.pinned (.plain (OpenSpec.upto confBackSpec)) confBackUptoCard
end Rows
end Go.Proofs.YtggibjbcbicpjaaDoor
