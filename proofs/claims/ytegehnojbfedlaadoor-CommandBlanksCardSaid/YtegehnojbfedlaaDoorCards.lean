/-
  DERIVED. GIVEN WITH THE SEED: THE CARDS: each row of YtegehnojbfedlaaDoorRows.lean that lists a variable, with what it lists TIED to the program's text (the seventh form; the later family's looks); each row that meets fmt, with fmt's text TOLD by the authors' own Lean function (tested against real Go, not proved from fmt's source: count such statements apart). THE CARD IS WHAT COUNTS. Prove the row's statement (the work); the ties are given (YtegehnojbfedlaaDoorTie.lean); close each card by the builder's one call (the guide's Derived/Test/ToyasCard.lean, 'card_holds'). Laid BY PROGRAM, IN A SANDBOX (cutbox-door.mjs). By AI agents, Wed Nov 11 2026. No macro, syntax, notation, axiom, sorry.
-/
import Derived.Test.YtegehnojbfedlaaDoorRows
import GoSem.ClaimSeven
namespace Go.Proofs.YtegehnojbfedlaaDoor
namespace Rows

/-- THE TIED CARD OF 'chevallaw25.CommandBlanks'. -/
def commandBlanksCard : Claim7 := { stood := { row := commandBlanksRow, standIns := [], harness := (true, "b2291d346c003e9bf884ef73898aa90eb2c829a82396e3e900f5846161e5e75b"), looks := true }, kinds := [], alts := [], laidByText := true, laidKinds := [.data, .data, .data, .data, .sentinel, .sentinel, .pinned], laidTests := true, laidLooks := .later }
def CommandBlanksCardSaid : Prop := Claim7.holds Tryd.pinned (.plain (OpenSpec.ofChange commandBlanksSpec)) commandBlanksCard

/-- THE TIED CARD OF 'chevallaw25.CommandLongs'. -/
def commandLongsCard : Claim7 := { stood := { row := commandLongsRow, standIns := [], harness := (true, "b2291d346c003e9bf884ef73898aa90eb2c829a82396e3e900f5846161e5e75b"), looks := true }, kinds := [], alts := [], laidByText := true, laidKinds := [.data, .data, .data, .data, .sentinel, .sentinel, .pinned], laidTests := true, laidLooks := .later }
def CommandLongsCardSaid : Prop := Claim7.holds Tryd.pinned (.plain (OpenSpec.ofChange commandLongsSpec)) commandLongsCard

/-- THE TIED CARD OF 'chevallaw25.CommandShort'. -/
def commandShortCard : Claim7 := { stood := { row := commandShortRow, standIns := [], harness := (true, "b2291d346c003e9bf884ef73898aa90eb2c829a82396e3e900f5846161e5e75b"), looks := true }, kinds := [], alts := [], laidByText := true, laidKinds := [.data, .data, .data, .data, .sentinel, .sentinel, .pinned], laidTests := true, laidLooks := .later }
def CommandShortCardSaid : Prop := Claim7.holds Tryd.pinned (.plain (OpenSpec.ofChange commandShortSpec)) commandShortCard

/-- THE TIED CARD OF 'chevallaw25.CommandWords'. -/
def commandWordsCard : Claim7 := { stood := { row := commandWordsRow, standIns := [], harness := (true, "b2291d346c003e9bf884ef73898aa90eb2c829a82396e3e900f5846161e5e75b"), looks := true }, kinds := [], alts := [], laidByText := true, laidKinds := [.data, .data, .data, .data, .sentinel, .sentinel, .pinned], laidTests := true, laidLooks := .later }
def CommandWordsCardSaid : Prop := Claim7.holds Tryd.pinned (.plain (OpenSpec.ofChange commandWordsSpec)) commandWordsCard

/-- THE TIED CARD OF 'chevallaw25.CommandParses'. -/
def commandParsesCard : Claim7 := { stood := { row := commandParsesRow, standIns := [], harness := (true, "b2291d346c003e9bf884ef73898aa90eb2c829a82396e3e900f5846161e5e75b"), looks := true }, kinds := [], alts := [], laidByText := true, laidKinds := [.data, .data, .data, .data, .sentinel, .sentinel, .pinned], laidTests := true, laidLooks := .later }
def CommandParsesCardSaid : Prop := Claim7.holds Tryd.pinned (.plain (OpenSpec.ofChange commandParsesSpec)) commandParsesCard

/-- THE TIED CARD OF 'chevallaw25.CommandLines'. -/
def commandLinesCard : Claim7 := { stood := { row := commandLinesRow, standIns := [], harness := (true, "b2291d346c003e9bf884ef73898aa90eb2c829a82396e3e900f5846161e5e75b"), looks := true }, kinds := [], alts := [], laidByText := true, laidKinds := [.data, .data, .data, .data, .sentinel, .sentinel, .pinned], laidTests := true, laidLooks := .later }
def CommandLinesCardSaid : Prop := Claim7.holds Tryd.pinned (.plain (OpenSpec.ofChange commandLinesSpec)) commandLinesCard

/-- THE SECOND FORM's CARD OF 'chevallaw25.CommandBlanks'. -/
def commandBlanksUptoCard : Claim7 := { stood := { row := commandBlanksUptoRow, standIns := [], harness := (true, "b2291d346c003e9bf884ef73898aa90eb2c829a82396e3e900f5846161e5e75b"), looks := true }, kinds := [], alts := [], laidByText := true, laidKinds := [.data, .data, .data, .data, .sentinel, .sentinel, .pinned], laidTests := true, laidLooks := .later }
def CommandBlanksUptoCardSaid : Prop := Claim7.holds Tryd.pinned (.plain (OpenSpec.upto commandBlanksSpec)) commandBlanksUptoCard

/-- THE SECOND FORM's CARD OF 'chevallaw25.CommandLongs'. -/
def commandLongsUptoCard : Claim7 := { stood := { row := commandLongsUptoRow, standIns := [], harness := (true, "b2291d346c003e9bf884ef73898aa90eb2c829a82396e3e900f5846161e5e75b"), looks := true }, kinds := [], alts := [], laidByText := true, laidKinds := [.data, .data, .data, .data, .sentinel, .sentinel, .pinned], laidTests := true, laidLooks := .later }
def CommandLongsUptoCardSaid : Prop := Claim7.holds Tryd.pinned (.plain (OpenSpec.upto commandLongsSpec)) commandLongsUptoCard

/-- THE SECOND FORM's CARD OF 'chevallaw25.CommandShort'. -/
def commandShortUptoCard : Claim7 := { stood := { row := commandShortUptoRow, standIns := [], harness := (true, "b2291d346c003e9bf884ef73898aa90eb2c829a82396e3e900f5846161e5e75b"), looks := true }, kinds := [], alts := [], laidByText := true, laidKinds := [.data, .data, .data, .data, .sentinel, .sentinel, .pinned], laidTests := true, laidLooks := .later }
def CommandShortUptoCardSaid : Prop := Claim7.holds Tryd.pinned (.plain (OpenSpec.upto commandShortSpec)) commandShortUptoCard

/-- THE SECOND FORM's CARD OF 'chevallaw25.CommandWords'. -/
def commandWordsUptoCard : Claim7 := { stood := { row := commandWordsUptoRow, standIns := [], harness := (true, "b2291d346c003e9bf884ef73898aa90eb2c829a82396e3e900f5846161e5e75b"), looks := true }, kinds := [], alts := [], laidByText := true, laidKinds := [.data, .data, .data, .data, .sentinel, .sentinel, .pinned], laidTests := true, laidLooks := .later }
def CommandWordsUptoCardSaid : Prop := Claim7.holds Tryd.pinned (.plain (OpenSpec.upto commandWordsSpec)) commandWordsUptoCard

/-- THE SECOND FORM's CARD OF 'chevallaw25.CommandParses'. -/
def commandParsesUptoCard : Claim7 := { stood := { row := commandParsesUptoRow, standIns := [], harness := (true, "b2291d346c003e9bf884ef73898aa90eb2c829a82396e3e900f5846161e5e75b"), looks := true }, kinds := [], alts := [], laidByText := true, laidKinds := [.data, .data, .data, .data, .sentinel, .sentinel, .pinned], laidTests := true, laidLooks := .later }
def CommandParsesUptoCardSaid : Prop := Claim7.holds Tryd.pinned (.plain (OpenSpec.upto commandParsesSpec)) commandParsesUptoCard

/-- THE SECOND FORM's CARD OF 'chevallaw25.CommandLines'. -/
def commandLinesUptoCard : Claim7 := { stood := { row := commandLinesUptoRow, standIns := [], harness := (true, "b2291d346c003e9bf884ef73898aa90eb2c829a82396e3e900f5846161e5e75b"), looks := true }, kinds := [], alts := [], laidByText := true, laidKinds := [.data, .data, .data, .data, .sentinel, .sentinel, .pinned], laidTests := true, laidLooks := .later }
def CommandLinesUptoCardSaid : Prop := Claim7.holds Tryd.pinned (.plain (OpenSpec.upto commandLinesSpec)) commandLinesUptoCard
end Rows
end Go.Proofs.YtegehnojbfedlaaDoor
