/-
  DERIVED. GIVEN WITH THE SEED: THE CARDS: each row of YtppefmkknmdfkaaDoorRows.lean that lists a variable, with what it lists TIED to the program's text (the seventh form; the later family's looks); each row that meets fmt, with fmt's text TOLD by the authors' own Lean function (tested against real Go, not proved from fmt's source: count such statements apart). THE CARD IS WHAT COUNTS. Prove the row's statement (the work); the ties are given (YtppefmkknmdfkaaDoorTie.lean); close each card by the builder's one call (the guide's Derived/Test/ToyasCard.lean, 'card_holds'). Laid BY PROGRAM, IN A SANDBOX (cutbox-door.mjs). By AI agents, Wed Nov 11 2026. No macro, syntax, notation, axiom, sorry.
-/
import Derived.Test.YtppefmkknmdfkaaDoorRows
import GoSem.ClaimSeven
namespace Go.Proofs.YtppefmkknmdfkaaDoor
namespace Rows

/-- THE TIED CARD OF 'chevallaw02.WholeTexts'. -/
def wholeTextsCard : Claim7 := { stood := { row := wholeTextsRow, standIns := [], harness := (true, "b69f94faf226c6f38eddb5e3ce79f546e69dccbabd0c598a051c254c9c3ea65f"), looks := true }, kinds := [], alts := [], laidByText := true, laidKinds := [.data, .data, .data, .sentinel, .sentinel], laidTests := true, laidLooks := .later }
def WholeTextsCardSaid : Prop := Claim7.holds Tryd.pinned (.plain (OpenSpec.ofChange wholeTextsSpec)) wholeTextsCard

/-- THE TIED CARD OF 'chevallaw02.WholeBacks'. -/
def wholeBacksCard : Claim7 := { stood := { row := wholeBacksRow, standIns := [], harness := (true, "b69f94faf226c6f38eddb5e3ce79f546e69dccbabd0c598a051c254c9c3ea65f"), looks := true }, kinds := [], alts := [], laidByText := true, laidKinds := [.data, .data, .data, .sentinel, .sentinel], laidTests := true, laidLooks := .later }
def WholeBacksCardSaid : Prop := Claim7.holds Tryd.pinned (.plain (OpenSpec.ofChange wholeBacksSpec)) wholeBacksCard

/-- THE SECOND FORM's CARD OF 'chevallaw02.WholeTexts'. -/
def wholeTextsUptoCard : Claim7 := { stood := { row := wholeTextsUptoRow, standIns := [], harness := (true, "b69f94faf226c6f38eddb5e3ce79f546e69dccbabd0c598a051c254c9c3ea65f"), looks := true }, kinds := [], alts := [], laidByText := true, laidKinds := [.data, .data, .data, .sentinel, .sentinel], laidTests := true, laidLooks := .later }
def WholeTextsUptoCardSaid : Prop := Claim7.holds Tryd.pinned (.plain (OpenSpec.upto wholeTextsSpec)) wholeTextsUptoCard

/-- THE SECOND FORM's CARD OF 'chevallaw02.WholeBacks'. -/
def wholeBacksUptoCard : Claim7 := { stood := { row := wholeBacksUptoRow, standIns := [], harness := (true, "b69f94faf226c6f38eddb5e3ce79f546e69dccbabd0c598a051c254c9c3ea65f"), looks := true }, kinds := [], alts := [], laidByText := true, laidKinds := [.data, .data, .data, .sentinel, .sentinel], laidTests := true, laidLooks := .later }
def WholeBacksUptoCardSaid : Prop := Claim7.holds Tryd.pinned (.plain (OpenSpec.upto wholeBacksSpec)) wholeBacksUptoCard
end Rows
end Go.Proofs.YtppefmkknmdfkaaDoor
