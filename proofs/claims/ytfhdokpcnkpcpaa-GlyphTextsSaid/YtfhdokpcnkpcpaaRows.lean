/-
  No cell of these rows narrows 'for every input' (looked for: loops, veiled, ifaces, maps, wideKeys, modest, calm, conditions, laid).
  DERIVED. THE GIVEN ROWS OF THIS SEAT. 7 by the template 'for every input the law returns true; each argument reads behind the call as it read before'; 0 by the template 'total and deterministic' (their statements: YtfhdokpcnkpcpaaTotals.lean).
  GIVEN WITH THE SEED: the statements are not yours to turn. If you find one false, say at which input.
  Laid BY PROGRAM, IN A SANDBOX (cutbox-rows.mjs): the forced cells as the released guide's own fill.sh prints them over the translation ce332c22caee990a… (all of the seat's roots in one cut). By AI agents, Wed Nov 11 2026. No macro, syntax, notation, axiom, sorry.
-/
import Derived.Test.YtfhdokpcnkpcpaaChecked
import GoSem.Claim
import GoSem.ClaimJoined
import GoSem.ClaimMapViews
import Derived.JoinedTies
import Derived.KernelRfl
namespace Go.Proofs.Ytfhdokpcnkpcpaa
/- THE CELL 'sum', in the pinned program and in every row, IS THE sha256 OF THE DUMP (.gsa) THAT YtfhdokpcnkpcpaaProg.lean LOADS. Nothing in Lean hashes anything: it is a label: what it is worth is what the hold of that sum in a sandbox is worth. -/
noncomputable def Try.pinned : Pinned := { name := "ytfhdokpcnkpcpaa", sum := "ce332c22caee990af1b243b2523919691a501ece45370128f84ef26d6fb24e61", checked := Try.checked }
namespace Rows
def none {H : Type} : Left H := { results := [], args := [] }

/-- 'chevallaw01.GlyphPairs': WHATEVER THE INPUT: true; the input reads as it did. -/
def glyphPairsSpec : ChangeSpec := { name := "glyphPairs", fn := fun _ => fun
  | [d1, d2, d3] => { results := [.lit (.bool true)], args := [d1, d2, d3] }
  | _ => none }
def glyphPairsRow : OpenClaim := { program := "ytfhdokpcnkpcpaa", sum := "ce332c22caee990af1b243b2523919691a501ece45370128f84ef26d6fb24e61", func := "cheval/chevallaw01.GlyphPairs", spec := "glyphPairs", apart := false }
def GlyphPairsSaid : Prop := glyphPairsRow.holds Try.pinned (OpenSpec.ofChange glyphPairsSpec)

/-- ITS FALSE NEIGHBOUR: 'it returns false'. Refute it at one input. -/
def glyphPairsWrong : ChangeSpec := { name := "glyphPairs", fn := fun _ => fun
  | [d1, d2, d3] => { results := [.lit (.bool false)], args := [d1, d2, d3] }
  | _ => none }
def GlyphPairsWrongFalsely : Prop := glyphPairsRow.holds Try.pinned (OpenSpec.ofChange glyphPairsWrong)

/-- 'chevallaw01.GlyphPoints': WHATEVER THE INPUT: true; the input reads as it did. -/
def glyphPointsSpec : ChangeSpec := { name := "glyphPoints", fn := fun _ => fun
  | [d1, d2] => { results := [.lit (.bool true)], args := [d1, d2] }
  | _ => none }
def glyphPointsRow : OpenClaim := { program := "ytfhdokpcnkpcpaa", sum := "ce332c22caee990af1b243b2523919691a501ece45370128f84ef26d6fb24e61", func := "cheval/chevallaw01.GlyphPoints", spec := "glyphPoints", apart := false }
def GlyphPointsSaid : Prop := glyphPointsRow.holds Try.pinned (OpenSpec.ofChange glyphPointsSpec)

/-- ITS FALSE NEIGHBOUR: 'it returns false'. Refute it at one input. -/
def glyphPointsWrong : ChangeSpec := { name := "glyphPoints", fn := fun _ => fun
  | [d1, d2] => { results := [.lit (.bool false)], args := [d1, d2] }
  | _ => none }
def GlyphPointsWrongFalsely : Prop := glyphPointsRow.holds Try.pinned (OpenSpec.ofChange glyphPointsWrong)

/-- 'chevallaw01.GlyphDecodes': WHATEVER THE INPUT: true; the input reads as it did. -/
def glyphDecodesSpec : ChangeSpec := { name := "glyphDecodes", fn := fun _ => fun
  | [d] => { results := [.lit (.bool true)], args := [d] }
  | _ => none }
def glyphDecodesRow : OpenClaim := { program := "ytfhdokpcnkpcpaa", sum := "ce332c22caee990af1b243b2523919691a501ece45370128f84ef26d6fb24e61", func := "cheval/chevallaw01.GlyphDecodes", spec := "glyphDecodes", apart := false }
def GlyphDecodesSaid : Prop := glyphDecodesRow.holds Try.pinned (OpenSpec.ofChange glyphDecodesSpec)

/-- ITS FALSE NEIGHBOUR: 'it returns false'. Refute it at one input. -/
def glyphDecodesWrong : ChangeSpec := { name := "glyphDecodes", fn := fun _ => fun
  | [d] => { results := [.lit (.bool false)], args := [d] }
  | _ => none }
def GlyphDecodesWrongFalsely : Prop := glyphDecodesRow.holds Try.pinned (OpenSpec.ofChange glyphDecodesWrong)

/-- 'chevallaw01.GlyphOrders': WHATEVER THE INPUT: true; the input reads as it did. -/
def glyphOrdersSpec : ChangeSpec := { name := "glyphOrders", fn := fun _ => fun
  | [d1, d2] => { results := [.lit (.bool true)], args := [d1, d2] }
  | _ => none }
def glyphOrdersRow : OpenClaim := { program := "ytfhdokpcnkpcpaa", sum := "ce332c22caee990af1b243b2523919691a501ece45370128f84ef26d6fb24e61", func := "cheval/chevallaw01.GlyphOrders", spec := "glyphOrders", unfollowed := true, recurses := true, apart := false }
def GlyphOrdersSaid : Prop := glyphOrdersRow.holds Try.pinned (OpenSpec.ofChange glyphOrdersSpec)

/-- ITS FALSE NEIGHBOUR: 'it returns false'. Refute it at one input. -/
def glyphOrdersWrong : ChangeSpec := { name := "glyphOrders", fn := fun _ => fun
  | [d1, d2] => { results := [.lit (.bool false)], args := [d1, d2] }
  | _ => none }
def GlyphOrdersWrongFalsely : Prop := glyphOrdersRow.holds Try.pinned (OpenSpec.ofChange glyphOrdersWrong)

/-- 'chevallaw01.GlyphJoins': WHATEVER THE INPUT: true; the input reads as it did. -/
def glyphJoinsSpec : ChangeSpec := { name := "glyphJoins", fn := fun _ => fun
  | [d1, d2] => { results := [.lit (.bool true)], args := [d1, d2] }
  | _ => none }
def glyphJoinsRow : OpenClaim := { program := "ytfhdokpcnkpcpaa", sum := "ce332c22caee990af1b243b2523919691a501ece45370128f84ef26d6fb24e61", func := "cheval/chevallaw01.GlyphJoins", spec := "glyphJoins", unfollowed := true, recurses := true, apart := false }
def GlyphJoinsSaid : Prop := glyphJoinsRow.holds Try.pinned (OpenSpec.ofChange glyphJoinsSpec)

/-- ITS FALSE NEIGHBOUR: 'it returns false'. Refute it at one input. -/
def glyphJoinsWrong : ChangeSpec := { name := "glyphJoins", fn := fun _ => fun
  | [d1, d2] => { results := [.lit (.bool false)], args := [d1, d2] }
  | _ => none }
def GlyphJoinsWrongFalsely : Prop := glyphJoinsRow.holds Try.pinned (OpenSpec.ofChange glyphJoinsWrong)

/-- 'chevallaw01.GlyphLists': WHATEVER THE INPUT: true; the input reads as it did. -/
def glyphListsSpec : ChangeSpec := { name := "glyphLists", fn := fun _ => fun
  | [d] => { results := [.lit (.bool true)], args := [d] }
  | _ => none }
def glyphListsRow : OpenClaim := { program := "ytfhdokpcnkpcpaa", sum := "ce332c22caee990af1b243b2523919691a501ece45370128f84ef26d6fb24e61", func := "cheval/chevallaw01.GlyphLists", spec := "glyphLists", inPlace := ["internal/abi.NoEscape"], unfollowed := true, recurses := true, apart := false }
def GlyphListsSaid : Prop := glyphListsRow.holds Try.pinned (OpenSpec.ofChange glyphListsSpec)

/-- ITS FALSE NEIGHBOUR: 'it returns false'. Refute it at one input. -/
def glyphListsWrong : ChangeSpec := { name := "glyphLists", fn := fun _ => fun
  | [d] => { results := [.lit (.bool false)], args := [d] }
  | _ => none }
def GlyphListsWrongFalsely : Prop := glyphListsRow.holds Try.pinned (OpenSpec.ofChange glyphListsWrong)

/-- 'chevallaw01.GlyphTexts': WHATEVER THE INPUT: true; the input reads as it did. -/
def glyphTextsSpec : ChangeSpec := { name := "glyphTexts", fn := fun _ => fun
  | [d] => { results := [.lit (.bool true)], args := [d] }
  | _ => none }
def glyphTextsRow : OpenClaim := { program := "ytfhdokpcnkpcpaa", sum := "ce332c22caee990af1b243b2523919691a501ece45370128f84ef26d6fb24e61", func := "cheval/chevallaw01.GlyphTexts", spec := "glyphTexts", inPlace := ["internal/abi.NoEscape"], unfollowed := true, recurses := true, apart := false }
def GlyphTextsSaid : Prop := glyphTextsRow.holds Try.pinned (OpenSpec.ofChange glyphTextsSpec)

/-- ITS FALSE NEIGHBOUR: 'it returns false'. Refute it at one input. -/
def glyphTextsWrong : ChangeSpec := { name := "glyphTexts", fn := fun _ => fun
  | [d] => { results := [.lit (.bool false)], args := [d] }
  | _ => none }
def GlyphTextsWrongFalsely : Prop := glyphTextsRow.holds Try.pinned (OpenSpec.ofChange glyphTextsWrong)

/- THE SECOND FORM. 'bulk': how many values and letters a reading holds, each counted each time it is reached (what is shared counts as often as it is met; a slice's spare places count too). A statement '..UptoSaid' is the law's where the arguments, and the package variables that the reading takes, are together of bulk at most 1048576: NARROWER than '..Said'. Prove '..Said' where nothing that the law and all that it calls make is longer than what came in: it says more and counts as full. Else prove '..UptoSaid'. A law counts once. -/
mutual
def uptoBulk {H : Type} : DataW H → Nat
  | .lit (.string bytes) => bytes.length + 1
  | .lit _ => 1
  | .nil => 1
  | .ptr d => uptoBulk d + 1
  | .slice elems spare => uptoBulkAll elems + uptoBulkAll spare + 1
  | .agg parts => uptoBulkAll parts + 1
  | .iface _ d => uptoBulk d + 1
  | .map entries => uptoBulkEntries entries + 1
  | .held _ => 1
def uptoBulkAll {H : Type} : List (DataW H) → Nat
  | [] => 0
  | d :: r => uptoBulk d + uptoBulkAll r
def uptoBulkEntries {H : Type} : List (Lit × DataW H) → Nat
  | [] => 0
  | x :: r => uptoBulkEntry x + uptoBulkEntries r
def uptoBulkEntry {H : Type} : Lit × DataW H → Nat
  | (.string bytes, d) => bytes.length + uptoBulk d + 1
  | (_, d) => uptoBulk d + 1
 end
def uptoSmall : (H : Type) → List (DataW H) → Bool := fun _ ds => decide (uptoBulkAll ds ≤ 1048576)
def OpenSpec.upto (s : _root_.Go.ChangeSpec) : _root_.Go.OpenSpec := { _root_.Go.OpenSpec.ofChange s with cond := some uptoSmall }

/-- 'chevallaw01.GlyphPairs', WHERE WHAT IT READS IS OF BULK AT MOST 1048576: true; the input reads as it did. -/
def glyphPairsUptoRow : OpenClaim := { program := "ytfhdokpcnkpcpaa", sum := "ce332c22caee990af1b243b2523919691a501ece45370128f84ef26d6fb24e61", func := "cheval/chevallaw01.GlyphPairs", spec := "glyphPairs", apart := false, narrowed := true }
def GlyphPairsUptoSaid : Prop := glyphPairsUptoRow.holds Try.pinned (OpenSpec.upto glyphPairsSpec)

/-- 'chevallaw01.GlyphPoints', WHERE WHAT IT READS IS OF BULK AT MOST 1048576: true; the input reads as it did. -/
def glyphPointsUptoRow : OpenClaim := { program := "ytfhdokpcnkpcpaa", sum := "ce332c22caee990af1b243b2523919691a501ece45370128f84ef26d6fb24e61", func := "cheval/chevallaw01.GlyphPoints", spec := "glyphPoints", apart := false, narrowed := true }
def GlyphPointsUptoSaid : Prop := glyphPointsUptoRow.holds Try.pinned (OpenSpec.upto glyphPointsSpec)

/-- 'chevallaw01.GlyphDecodes', WHERE WHAT IT READS IS OF BULK AT MOST 1048576: true; the input reads as it did. -/
def glyphDecodesUptoRow : OpenClaim := { program := "ytfhdokpcnkpcpaa", sum := "ce332c22caee990af1b243b2523919691a501ece45370128f84ef26d6fb24e61", func := "cheval/chevallaw01.GlyphDecodes", spec := "glyphDecodes", apart := false, narrowed := true }
def GlyphDecodesUptoSaid : Prop := glyphDecodesUptoRow.holds Try.pinned (OpenSpec.upto glyphDecodesSpec)

/-- 'chevallaw01.GlyphOrders', WHERE WHAT IT READS IS OF BULK AT MOST 1048576: true; the input reads as it did. -/
def glyphOrdersUptoRow : OpenClaim := { program := "ytfhdokpcnkpcpaa", sum := "ce332c22caee990af1b243b2523919691a501ece45370128f84ef26d6fb24e61", func := "cheval/chevallaw01.GlyphOrders", spec := "glyphOrders", unfollowed := true, recurses := true, apart := false, narrowed := true }
def GlyphOrdersUptoSaid : Prop := glyphOrdersUptoRow.holds Try.pinned (OpenSpec.upto glyphOrdersSpec)

/-- 'chevallaw01.GlyphJoins', WHERE WHAT IT READS IS OF BULK AT MOST 1048576: true; the input reads as it did. -/
def glyphJoinsUptoRow : OpenClaim := { program := "ytfhdokpcnkpcpaa", sum := "ce332c22caee990af1b243b2523919691a501ece45370128f84ef26d6fb24e61", func := "cheval/chevallaw01.GlyphJoins", spec := "glyphJoins", unfollowed := true, recurses := true, apart := false, narrowed := true }
def GlyphJoinsUptoSaid : Prop := glyphJoinsUptoRow.holds Try.pinned (OpenSpec.upto glyphJoinsSpec)

/-- 'chevallaw01.GlyphLists', WHERE WHAT IT READS IS OF BULK AT MOST 1048576: true; the input reads as it did. -/
def glyphListsUptoRow : OpenClaim := { program := "ytfhdokpcnkpcpaa", sum := "ce332c22caee990af1b243b2523919691a501ece45370128f84ef26d6fb24e61", func := "cheval/chevallaw01.GlyphLists", spec := "glyphLists", inPlace := ["internal/abi.NoEscape"], unfollowed := true, recurses := true, apart := false, narrowed := true }
def GlyphListsUptoSaid : Prop := glyphListsUptoRow.holds Try.pinned (OpenSpec.upto glyphListsSpec)

/-- 'chevallaw01.GlyphTexts', WHERE WHAT IT READS IS OF BULK AT MOST 1048576: true; the input reads as it did. -/
def glyphTextsUptoRow : OpenClaim := { program := "ytfhdokpcnkpcpaa", sum := "ce332c22caee990af1b243b2523919691a501ece45370128f84ef26d6fb24e61", func := "cheval/chevallaw01.GlyphTexts", spec := "glyphTexts", inPlace := ["internal/abi.NoEscape"], unfollowed := true, recurses := true, apart := false, narrowed := true }
def GlyphTextsUptoSaid : Prop := glyphTextsUptoRow.holds Try.pinned (OpenSpec.upto glyphTextsSpec)

end Rows
end Go.Proofs.Ytfhdokpcnkpcpaa
