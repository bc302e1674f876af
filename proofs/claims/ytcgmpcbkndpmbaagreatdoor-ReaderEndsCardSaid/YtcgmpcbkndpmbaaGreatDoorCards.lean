/-
  DERIVED. GIVEN WITH THE SEED: THE CARDS: each row of YtcgmpcbkndpmbaaGreatDoorRows.lean that lists a variable, with what it lists TIED to the program's text (the seventh form; the later family's looks); each row that meets fmt, with fmt's text TOLD by the authors' own Lean function (tested against real Go, not proved from fmt's source: count such statements apart). THE CARD IS WHAT COUNTS. Prove the row's statement (the work); the ties are given (YtcgmpcbkndpmbaaGreatDoorTie.lean); close each card by the builder's one call (the guide's Derived/Test/ToyasCard.lean, 'card_holds'). Laid BY PROGRAM, IN A SANDBOX (cutbox-door.mjs). By AI agents, Wed Nov 11 2026. No macro, syntax, notation, axiom, sorry.
-/
import Derived.Test.YtcgmpcbkndpmbaaGreatDoorRows
import GoSem.ClaimSeven
namespace Go.Proofs.YtcgmpcbkndpmbaaGreatDoor
namespace Rows

/-- THE TIED CARD OF 'chevallaw06.ReaderWays'. -/
def readerWaysCard : Claim7 := { stood := { row := readerWaysRow, standIns := [], harness := (true, "fb3635adf27816456a7ec8cb258e115195bba685dc47af18a9f9eed4f0be7cd9"), looks := true }, kinds := [], alts := [], laidByText := true, laidKinds := [.data, .data, .data, .sentinel, .sentinel], laidTests := true, laidLooks := .later }
def ReaderWaysCardSaid : Prop := Claim7.holds Tryz.pinned (.plain (OpenSpec.ofChange readerWaysSpec)) readerWaysCard

/-- THE TIED CARD OF 'chevallaw06.ReaderDepths'. -/
def readerDepthsCard : Claim7 := { stood := { row := readerDepthsRow, standIns := [], harness := (true, "fb3635adf27816456a7ec8cb258e115195bba685dc47af18a9f9eed4f0be7cd9"), looks := true }, kinds := [], alts := [], laidByText := true, laidKinds := [.data, .data, .data, .sentinel, .sentinel], laidTests := true, laidLooks := .later }
def ReaderDepthsCardSaid : Prop := Claim7.holds Tryz.pinned (.plain (OpenSpec.ofChange readerDepthsSpec)) readerDepthsCard

/-- THE TIED CARD OF 'chevallaw06.ReaderTwice'. -/
def readerTwiceCard : Claim7 := { stood := { row := readerTwiceRow, standIns := [], harness := (true, "fb3635adf27816456a7ec8cb258e115195bba685dc47af18a9f9eed4f0be7cd9"), looks := true }, kinds := [], alts := [], laidByText := true, laidKinds := [.data, .data, .data, .sentinel, .sentinel], laidTests := true, laidLooks := .later }
def ReaderTwiceCardSaid : Prop := Claim7.holds Tryz.pinned (.plain (OpenSpec.ofChange readerTwiceSpec)) readerTwiceCard

/-- THE TIED CARD OF 'chevallaw06.ReaderEnds'. -/
def readerEndsCard : Claim7 := { stood := { row := readerEndsRow, standIns := [], harness := (true, "fb3635adf27816456a7ec8cb258e115195bba685dc47af18a9f9eed4f0be7cd9"), looks := true }, kinds := [], alts := [], laidByText := true, laidKinds := [.data, .data, .data, .sentinel, .sentinel], laidTests := true, laidLooks := .later }
def ReaderEndsCardSaid : Prop := Claim7.holds Tryz.pinned (.plain (OpenSpec.ofChange readerEndsSpec)) readerEndsCard

/-- THE TIED CARD OF 'chevallaw06.ReaderParses'. -/
def readerParsesCard : Claim7 := { stood := { row := readerParsesRow, standIns := [], harness := (true, "fb3635adf27816456a7ec8cb258e115195bba685dc47af18a9f9eed4f0be7cd9"), looks := true }, kinds := [], alts := [], laidByText := true, laidKinds := [.data, .data, .data, .sentinel, .sentinel], laidTests := true, laidLooks := .later }
def ReaderParsesCardSaid : Prop := Claim7.holds Tryz.pinned (.plain (OpenSpec.ofChange readerParsesSpec)) readerParsesCard

/-- THE SECOND FORM's CARD OF 'chevallaw06.ReaderWays'. -/
def readerWaysUptoCard : Claim7 := { stood := { row := readerWaysUptoRow, standIns := [], harness := (true, "fb3635adf27816456a7ec8cb258e115195bba685dc47af18a9f9eed4f0be7cd9"), looks := true }, kinds := [], alts := [], laidByText := true, laidKinds := [.data, .data, .data, .sentinel, .sentinel], laidTests := true, laidLooks := .later }
def ReaderWaysUptoCardSaid : Prop := Claim7.holds Tryz.pinned (.plain (OpenSpec.upto readerWaysSpec)) readerWaysUptoCard

/-- THE SECOND FORM's CARD OF 'chevallaw06.ReaderDepths'. -/
def readerDepthsUptoCard : Claim7 := { stood := { row := readerDepthsUptoRow, standIns := [], harness := (true, "fb3635adf27816456a7ec8cb258e115195bba685dc47af18a9f9eed4f0be7cd9"), looks := true }, kinds := [], alts := [], laidByText := true, laidKinds := [.data, .data, .data, .sentinel, .sentinel], laidTests := true, laidLooks := .later }
def ReaderDepthsUptoCardSaid : Prop := Claim7.holds Tryz.pinned (.plain (OpenSpec.upto readerDepthsSpec)) readerDepthsUptoCard

/-- THE SECOND FORM's CARD OF 'chevallaw06.ReaderTwice'. -/
def readerTwiceUptoCard : Claim7 := { stood := { row := readerTwiceUptoRow, standIns := [], harness := (true, "fb3635adf27816456a7ec8cb258e115195bba685dc47af18a9f9eed4f0be7cd9"), looks := true }, kinds := [], alts := [], laidByText := true, laidKinds := [.data, .data, .data, .sentinel, .sentinel], laidTests := true, laidLooks := .later }
def ReaderTwiceUptoCardSaid : Prop := Claim7.holds Tryz.pinned (.plain (OpenSpec.upto readerTwiceSpec)) readerTwiceUptoCard

/-- THE SECOND FORM's CARD OF 'chevallaw06.ReaderEnds'. -/
def readerEndsUptoCard : Claim7 := { stood := { row := readerEndsUptoRow, standIns := [], harness := (true, "fb3635adf27816456a7ec8cb258e115195bba685dc47af18a9f9eed4f0be7cd9"), looks := true }, kinds := [], alts := [], laidByText := true, laidKinds := [.data, .data, .data, .sentinel, .sentinel], laidTests := true, laidLooks := .later }
def ReaderEndsUptoCardSaid : Prop := Claim7.holds Tryz.pinned (.plain (OpenSpec.upto readerEndsSpec)) readerEndsUptoCard

/-- THE SECOND FORM's CARD OF 'chevallaw06.ReaderParses'. -/
def readerParsesUptoCard : Claim7 := { stood := { row := readerParsesUptoRow, standIns := [], harness := (true, "fb3635adf27816456a7ec8cb258e115195bba685dc47af18a9f9eed4f0be7cd9"), looks := true }, kinds := [], alts := [], laidByText := true, laidKinds := [.data, .data, .data, .sentinel, .sentinel], laidTests := true, laidLooks := .later }
def ReaderParsesUptoCardSaid : Prop := Claim7.holds Tryz.pinned (.plain (OpenSpec.upto readerParsesSpec)) readerParsesUptoCard
end Rows
end Go.Proofs.YtcgmpcbkndpmbaaGreatDoor
