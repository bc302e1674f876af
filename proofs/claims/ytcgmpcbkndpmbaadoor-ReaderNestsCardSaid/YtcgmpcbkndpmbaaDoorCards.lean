/-
  DERIVED. GIVEN WITH THE SEED: THE CARDS: each row of YtcgmpcbkndpmbaaDoorRows.lean that lists a variable, with what it lists TIED to the program's text (the seventh form; the later family's looks); each row that meets fmt, with fmt's text TOLD by the authors' own Lean function (tested against real Go, not proved from fmt's source: count such statements apart). THE CARD IS WHAT COUNTS. Prove the row's statement (the work); the ties are given (YtcgmpcbkndpmbaaDoorTie.lean); close each card by the builder's one call (the guide's Derived/Test/ToyasCard.lean, 'card_holds'). Laid BY PROGRAM, IN A SANDBOX (cutbox-door.mjs). By AI agents, Wed Nov 11 2026. No macro, syntax, notation, axiom, sorry.
-/
import Derived.Test.YtcgmpcbkndpmbaaDoorRows
import GoSem.ClaimSeven
namespace Go.Proofs.YtcgmpcbkndpmbaaDoor
namespace Rows

/-- THE TIED CARD OF 'chevallaw06.ReaderNests'. -/
def readerNestsCard : Claim7 := { stood := { row := readerNestsRow, standIns := [], harness := (true, "913907d905a83c1a8a7f260dae079e09a7393958f473ff5f8fced30ff9e08ba1"), looks := true }, kinds := [], alts := [], laidByText := true, laidKinds := [.data, .data, .data, .sentinel, .sentinel], laidTests := true, laidLooks := .later }
def ReaderNestsCardSaid : Prop := Claim7.holds Tryd.pinned (.plain (OpenSpec.ofChange readerNestsSpec)) readerNestsCard

/-- THE SECOND FORM's CARD OF 'chevallaw06.ReaderNests'. -/
def readerNestsUptoCard : Claim7 := { stood := { row := readerNestsUptoRow, standIns := [], harness := (true, "913907d905a83c1a8a7f260dae079e09a7393958f473ff5f8fced30ff9e08ba1"), looks := true }, kinds := [], alts := [], laidByText := true, laidKinds := [.data, .data, .data, .sentinel, .sentinel], laidTests := true, laidLooks := .later }
def ReaderNestsUptoCardSaid : Prop := Claim7.holds Tryd.pinned (.plain (OpenSpec.upto readerNestsSpec)) readerNestsUptoCard
end Rows
end Go.Proofs.YtcgmpcbkndpmbaaDoor
