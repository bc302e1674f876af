/-
  DERIVED. GIVEN WITH THE SEED: THE CARDS: each row of YtahgjolokkfhjaaDoorRows.lean that lists a variable, with what it lists TIED to the program's text (the seventh form; the later family's looks); each row that meets fmt, with fmt's text TOLD by the authors' own Lean function (tested against real Go, not proved from fmt's source: count such statements apart). THE CARD IS WHAT COUNTS. Prove the row's statement (the work); the ties are given (YtahgjolokkfhjaaDoorTie.lean); close each card by the builder's one call (the guide's Derived/Test/ToyasCard.lean, 'card_holds'). Laid BY PROGRAM, IN A SANDBOX (cutbox-door.mjs). By AI agents, Wed Nov 11 2026. No macro, syntax, notation, axiom, sorry.
-/
import Derived.Test.YtahgjolokkfhjaaDoorRows
import GoSem.ClaimSeven
namespace Go.Proofs.YtahgjolokkfhjaaDoor
namespace Rows

/-- THE TIED CARD OF 'chevallaw04.PathGets'. -/
def pathGetsCard : Claim7 := { stood := { row := pathGetsRow, standIns := [], harness := (true, "c9ac12d9483009efcc7306d542fc3ab3ce3c70cff133faeeead2c4033248620c"), looks := true }, kinds := [], alts := [], laidByText := true, laidKinds := [.data, .data, .data, .sentinel, .sentinel], laidTests := true, laidLooks := .later }
def PathGetsCardSaid : Prop := Claim7.holds Tryd.pinned (.plain (OpenSpec.ofChange pathGetsSpec)) pathGetsCard

/-- THE TIED CARD OF 'chevallaw04.PathAlls'. -/
def pathAllsCard : Claim7 := { stood := { row := pathAllsRow, standIns := [], harness := (true, "c9ac12d9483009efcc7306d542fc3ab3ce3c70cff133faeeead2c4033248620c"), looks := true }, kinds := [], alts := [], laidByText := true, laidKinds := [.data, .data, .data, .sentinel, .sentinel], laidTests := true, laidLooks := .later }
def PathAllsCardSaid : Prop := Claim7.holds Tryd.pinned (.plain (OpenSpec.ofChange pathAllsSpec)) pathAllsCard

/-- THE TIED CARD OF 'chevallaw04.PathSets'. -/
def pathSetsCard : Claim7 := { stood := { row := pathSetsRow, standIns := [], harness := (true, "c9ac12d9483009efcc7306d542fc3ab3ce3c70cff133faeeead2c4033248620c"), looks := true }, kinds := [], alts := [], laidByText := true, laidKinds := [.data, .data, .data, .sentinel, .sentinel], laidTests := true, laidLooks := .later }
def PathSetsCardSaid : Prop := Claim7.holds Tryd.pinned (.plain (OpenSpec.ofChange pathSetsSpec)) pathSetsCard

/-- THE TIED CARD OF 'chevallaw04.PathApart'. -/
def pathApartCard : Claim7 := { stood := { row := pathApartRow, standIns := [], harness := (true, "c9ac12d9483009efcc7306d542fc3ab3ce3c70cff133faeeead2c4033248620c"), looks := true }, kinds := [], alts := [], laidByText := true, laidKinds := [.data, .data, .data, .sentinel, .sentinel], laidTests := true, laidLooks := .later }
def PathApartCardSaid : Prop := Claim7.holds Tryd.pinned (.plain (OpenSpec.ofChange pathApartSpec)) pathApartCard

/-- THE TIED CARD OF 'chevallaw04.PathRemoves'. -/
def pathRemovesCard : Claim7 := { stood := { row := pathRemovesRow, standIns := [], harness := (true, "c9ac12d9483009efcc7306d542fc3ab3ce3c70cff133faeeead2c4033248620c"), looks := true }, kinds := [], alts := [], laidByText := true, laidKinds := [.data, .data, .data, .sentinel, .sentinel], laidTests := true, laidLooks := .later }
def PathRemovesCardSaid : Prop := Claim7.holds Tryd.pinned (.plain (OpenSpec.ofChange pathRemovesSpec)) pathRemovesCard

/-- THE TIED CARD OF 'chevallaw04.PathParses'. -/
def pathParsesCard : Claim7 := { stood := { row := pathParsesRow, standIns := [], harness := (true, "c9ac12d9483009efcc7306d542fc3ab3ce3c70cff133faeeead2c4033248620c"), looks := true }, kinds := [], alts := [], laidByText := true, laidKinds := [.data, .data, .data, .data, .sentinel, .sentinel, .pinned], laidTests := true, laidLooks := .later }
def PathParsesCardSaid : Prop := Claim7.holds Tryd.pinned (.plain (OpenSpec.ofChange pathParsesSpec)) pathParsesCard

/-- THE SECOND FORM's CARD OF 'chevallaw04.PathGets'. -/
def pathGetsUptoCard : Claim7 := { stood := { row := pathGetsUptoRow, standIns := [], harness := (true, "c9ac12d9483009efcc7306d542fc3ab3ce3c70cff133faeeead2c4033248620c"), looks := true }, kinds := [], alts := [], laidByText := true, laidKinds := [.data, .data, .data, .sentinel, .sentinel], laidTests := true, laidLooks := .later }
def PathGetsUptoCardSaid : Prop := Claim7.holds Tryd.pinned (.plain (OpenSpec.upto pathGetsSpec)) pathGetsUptoCard

/-- THE SECOND FORM's CARD OF 'chevallaw04.PathAlls'. -/
def pathAllsUptoCard : Claim7 := { stood := { row := pathAllsUptoRow, standIns := [], harness := (true, "c9ac12d9483009efcc7306d542fc3ab3ce3c70cff133faeeead2c4033248620c"), looks := true }, kinds := [], alts := [], laidByText := true, laidKinds := [.data, .data, .data, .sentinel, .sentinel], laidTests := true, laidLooks := .later }
def PathAllsUptoCardSaid : Prop := Claim7.holds Tryd.pinned (.plain (OpenSpec.upto pathAllsSpec)) pathAllsUptoCard

/-- THE SECOND FORM's CARD OF 'chevallaw04.PathSets'. -/
def pathSetsUptoCard : Claim7 := { stood := { row := pathSetsUptoRow, standIns := [], harness := (true, "c9ac12d9483009efcc7306d542fc3ab3ce3c70cff133faeeead2c4033248620c"), looks := true }, kinds := [], alts := [], laidByText := true, laidKinds := [.data, .data, .data, .sentinel, .sentinel], laidTests := true, laidLooks := .later }
def PathSetsUptoCardSaid : Prop := Claim7.holds Tryd.pinned (.plain (OpenSpec.upto pathSetsSpec)) pathSetsUptoCard

/-- THE SECOND FORM's CARD OF 'chevallaw04.PathApart'. -/
def pathApartUptoCard : Claim7 := { stood := { row := pathApartUptoRow, standIns := [], harness := (true, "c9ac12d9483009efcc7306d542fc3ab3ce3c70cff133faeeead2c4033248620c"), looks := true }, kinds := [], alts := [], laidByText := true, laidKinds := [.data, .data, .data, .sentinel, .sentinel], laidTests := true, laidLooks := .later }
def PathApartUptoCardSaid : Prop := Claim7.holds Tryd.pinned (.plain (OpenSpec.upto pathApartSpec)) pathApartUptoCard

/-- THE SECOND FORM's CARD OF 'chevallaw04.PathRemoves'. -/
def pathRemovesUptoCard : Claim7 := { stood := { row := pathRemovesUptoRow, standIns := [], harness := (true, "c9ac12d9483009efcc7306d542fc3ab3ce3c70cff133faeeead2c4033248620c"), looks := true }, kinds := [], alts := [], laidByText := true, laidKinds := [.data, .data, .data, .sentinel, .sentinel], laidTests := true, laidLooks := .later }
def PathRemovesUptoCardSaid : Prop := Claim7.holds Tryd.pinned (.plain (OpenSpec.upto pathRemovesSpec)) pathRemovesUptoCard

/-- THE SECOND FORM's CARD OF 'chevallaw04.PathParses'. -/
def pathParsesUptoCard : Claim7 := { stood := { row := pathParsesUptoRow, standIns := [], harness := (true, "c9ac12d9483009efcc7306d542fc3ab3ce3c70cff133faeeead2c4033248620c"), looks := true }, kinds := [], alts := [], laidByText := true, laidKinds := [.data, .data, .data, .data, .sentinel, .sentinel, .pinned], laidTests := true, laidLooks := .later }
def PathParsesUptoCardSaid : Prop := Claim7.holds Tryd.pinned (.plain (OpenSpec.upto pathParsesSpec)) pathParsesUptoCard
end Rows
end Go.Proofs.YtahgjolokkfhjaaDoor
