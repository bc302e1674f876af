/-
  DERIVED. GIVEN WITH THE SEED: THE CARDS: each row of YtmfaejdnaippkaaDoorRows.lean that lists a variable, with what it lists TIED to the program's text (the seventh form; the later family's looks); each row that meets fmt, with fmt's text TOLD by the authors' own Lean function (tested against real Go, not proved from fmt's source: count such statements apart). THE CARD IS WHAT COUNTS. Prove the row's statement (the work); the ties are given (YtmfaejdnaippkaaDoorTie.lean); close each card by the builder's one call (the guide's Derived/Test/ToyasCard.lean, 'card_holds'). Laid BY PROGRAM, IN A SANDBOX (cutbox-door.mjs). By AI agents, Wed Nov 11 2026. No macro, syntax, notation, axiom, sorry.
-/
import Derived.Test.YtmfaejdnaippkaaDoorRows
import GoSem.ClaimSeven
namespace Go.Proofs.YtmfaejdnaippkaaDoor
namespace Rows

/-- THE TIED CARD OF 'chevallaw07.RenderQuotes'. -/
def renderQuotesCard : Claim7 := { stood := { row := renderQuotesRow, standIns := [], harness := (true, "564d2f6e46a97e0234c5bc8bb2b49fcba4c88de728934bbc84366a155ee46ddb"), looks := false }, kinds := [], alts := [], laidByText := true, laidKinds := [.data, .data, .data], laidTests := true, laidLooks := .later }
def RenderQuotesCardSaid : Prop := Claim7.holds Tryd.pinned (.plain (OpenSpec.ofChange renderQuotesSpec)) renderQuotesCard

/-- THE TIED CARD OF 'chevallaw07.RenderShorts'. -/
def renderShortsCard : Claim7 := { stood := { row := renderShortsRow, standIns := [], harness := (true, "564d2f6e46a97e0234c5bc8bb2b49fcba4c88de728934bbc84366a155ee46ddb"), looks := false }, kinds := [], alts := [], laidByText := true, laidKinds := [.data, .data, .data], laidTests := true, laidLooks := .later }
def RenderShortsCardSaid : Prop := Claim7.holds Tryd.pinned (.plain (OpenSpec.ofChange renderShortsSpec)) renderShortsCard

/-- THE SECOND FORM's CARD OF 'chevallaw07.RenderQuotes'. -/
def renderQuotesUptoCard : Claim7 := { stood := { row := renderQuotesUptoRow, standIns := [], harness := (true, "564d2f6e46a97e0234c5bc8bb2b49fcba4c88de728934bbc84366a155ee46ddb"), looks := false }, kinds := [], alts := [], laidByText := true, laidKinds := [.data, .data, .data], laidTests := true, laidLooks := .later }
def RenderQuotesUptoCardSaid : Prop := Claim7.holds Tryd.pinned (.plain (OpenSpec.upto renderQuotesSpec)) renderQuotesUptoCard

/-- THE SECOND FORM's CARD OF 'chevallaw07.RenderShorts'. -/
def renderShortsUptoCard : Claim7 := { stood := { row := renderShortsUptoRow, standIns := [], harness := (true, "564d2f6e46a97e0234c5bc8bb2b49fcba4c88de728934bbc84366a155ee46ddb"), looks := false }, kinds := [], alts := [], laidByText := true, laidKinds := [.data, .data, .data], laidTests := true, laidLooks := .later }
def RenderShortsUptoCardSaid : Prop := Claim7.holds Tryd.pinned (.plain (OpenSpec.upto renderShortsSpec)) renderShortsUptoCard
end Rows
end Go.Proofs.YtmfaejdnaippkaaDoor
