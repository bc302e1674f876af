/-
  No cell of these rows narrows 'for every input' (looked for: loops, veiled, ifaces, maps, wideKeys, modest, calm, conditions, laid).
  DERIVED. THE GIVEN ROWS OF THIS SEAT. 5 by the template 'for every input the law returns true; each argument reads behind the call as it read before'; 0 by the template 'total and deterministic' (their statements: YtppefmkknmdfkaaTotals.lean).
  GIVEN WITH THE SEED: the statements are not yours to turn. If you find one false, say at which input.
  Laid BY PROGRAM, IN A SANDBOX (cutbox-rows.mjs): the forced cells as the released guide's own fill.sh prints them over the translation 0b214268f4e07a99… (all of the seat's roots in one cut). By AI agents, Wed Nov 11 2026. No macro, syntax, notation, axiom, sorry.
-/
import Derived.Test.YtppefmkknmdfkaaChecked
import GoSem.Claim
import GoSem.ClaimJoined
import GoSem.ClaimMapViews
import Derived.JoinedTies
import Derived.KernelRfl
namespace Go.Proofs.Ytppefmkknmdfkaa
/- THE CELL 'sum', in the pinned program and in every row, IS THE sha256 OF THE DUMP (.gsa) THAT YtppefmkknmdfkaaProg.lean LOADS. Nothing in Lean hashes anything: it is a label: what it is worth is what the hold of that sum in a sandbox is worth. -/
noncomputable def Try.pinned : Pinned := { name := "ytppefmkknmdfkaa", sum := "0b214268f4e07a99325feb8de6861d261072a88038351d95ab3982d2a0ce3d2c", checked := Try.checked }
namespace Rows
def none {H : Type} : Left H := { results := [], args := [] }

/-- 'chevallaw02.WholeParts': WHATEVER THE INPUT: true; the input reads as it did. -/
def wholePartsSpec : ChangeSpec := { name := "wholeParts", fn := fun _ => fun
  | [d1, d2] => { results := [.lit (.bool true)], args := [d1, d2] }
  | _ => none }
def wholePartsRow : OpenClaim := { program := "ytppefmkknmdfkaa", sum := "0b214268f4e07a99325feb8de6861d261072a88038351d95ab3982d2a0ce3d2c", func := "cheval/chevallaw02.WholeParts", spec := "wholeParts", apart := false }
def WholePartsSaid : Prop := wholePartsRow.holds Try.pinned (OpenSpec.ofChange wholePartsSpec)

/-- ITS FALSE NEIGHBOUR: 'it returns false'. Refute it at one input. -/
def wholePartsWrong : ChangeSpec := { name := "wholeParts", fn := fun _ => fun
  | [d1, d2] => { results := [.lit (.bool false)], args := [d1, d2] }
  | _ => none }
def WholePartsWrongFalsely : Prop := wholePartsRow.holds Try.pinned (OpenSpec.ofChange wholePartsWrong)

/-- 'chevallaw02.WholeCounts': WHATEVER THE INPUT: true; the input reads as it did. -/
def wholeCountsSpec : ChangeSpec := { name := "wholeCounts", fn := fun _ => fun
  | [d1, d2] => { results := [.lit (.bool true)], args := [d1, d2] }
  | _ => none }
def wholeCountsRow : OpenClaim := { program := "ytppefmkknmdfkaa", sum := "0b214268f4e07a99325feb8de6861d261072a88038351d95ab3982d2a0ce3d2c", func := "cheval/chevallaw02.WholeCounts", spec := "wholeCounts", apart := false }
def WholeCountsSaid : Prop := wholeCountsRow.holds Try.pinned (OpenSpec.ofChange wholeCountsSpec)

/-- ITS FALSE NEIGHBOUR: 'it returns false'. Refute it at one input. -/
def wholeCountsWrong : ChangeSpec := { name := "wholeCounts", fn := fun _ => fun
  | [d1, d2] => { results := [.lit (.bool false)], args := [d1, d2] }
  | _ => none }
def WholeCountsWrongFalsely : Prop := wholeCountsRow.holds Try.pinned (OpenSpec.ofChange wholeCountsWrong)

/-- 'chevallaw02.WholeLists': WHATEVER THE INPUT: true; the input reads as it did. -/
def wholeListsSpec : ChangeSpec := { name := "wholeLists", fn := fun _ => fun
  | [d] => { results := [.lit (.bool true)], args := [d] }
  | _ => none }
def wholeListsRow : OpenClaim := { program := "ytppefmkknmdfkaa", sum := "0b214268f4e07a99325feb8de6861d261072a88038351d95ab3982d2a0ce3d2c", func := "cheval/chevallaw02.WholeLists", spec := "wholeLists", inPlace := ["math/bits.Add64"], apart := false }
def WholeListsSaid : Prop := wholeListsRow.holds Try.pinned (OpenSpec.ofChange wholeListsSpec)

/-- ITS FALSE NEIGHBOUR: 'it returns false'. Refute it at one input. -/
def wholeListsWrong : ChangeSpec := { name := "wholeLists", fn := fun _ => fun
  | [d] => { results := [.lit (.bool false)], args := [d] }
  | _ => none }
def WholeListsWrongFalsely : Prop := wholeListsRow.holds Try.pinned (OpenSpec.ofChange wholeListsWrong)

/-- 'chevallaw02.WholeSums': WHATEVER THE INPUT: true; the input reads as it did. -/
def wholeSumsSpec : ChangeSpec := { name := "wholeSums", fn := fun _ => fun
  | [d1, d2] => { results := [.lit (.bool true)], args := [d1, d2] }
  | _ => none }
def wholeSumsRow : OpenClaim := { program := "ytppefmkknmdfkaa", sum := "0b214268f4e07a99325feb8de6861d261072a88038351d95ab3982d2a0ce3d2c", func := "cheval/chevallaw02.WholeSums", spec := "wholeSums", apart := false }
def WholeSumsSaid : Prop := wholeSumsRow.holds Try.pinned (OpenSpec.ofChange wholeSumsSpec)

/-- ITS FALSE NEIGHBOUR: 'it returns false'. Refute it at one input. -/
def wholeSumsWrong : ChangeSpec := { name := "wholeSums", fn := fun _ => fun
  | [d1, d2] => { results := [.lit (.bool false)], args := [d1, d2] }
  | _ => none }
def WholeSumsWrongFalsely : Prop := wholeSumsRow.holds Try.pinned (OpenSpec.ofChange wholeSumsWrong)

/-- 'chevallaw02.WholeUndoes': WHATEVER THE INPUT: true; the input reads as it did. -/
def wholeUndoesSpec : ChangeSpec := { name := "wholeUndoes", fn := fun _ => fun
  | [d1, d2] => { results := [.lit (.bool true)], args := [d1, d2] }
  | _ => none }
def wholeUndoesRow : OpenClaim := { program := "ytppefmkknmdfkaa", sum := "0b214268f4e07a99325feb8de6861d261072a88038351d95ab3982d2a0ce3d2c", func := "cheval/chevallaw02.WholeUndoes", spec := "wholeUndoes", apart := false }
def WholeUndoesSaid : Prop := wholeUndoesRow.holds Try.pinned (OpenSpec.ofChange wholeUndoesSpec)

/-- ITS FALSE NEIGHBOUR: 'it returns false'. Refute it at one input. -/
def wholeUndoesWrong : ChangeSpec := { name := "wholeUndoes", fn := fun _ => fun
  | [d1, d2] => { results := [.lit (.bool false)], args := [d1, d2] }
  | _ => none }
def WholeUndoesWrongFalsely : Prop := wholeUndoesRow.holds Try.pinned (OpenSpec.ofChange wholeUndoesWrong)

/- THE SECOND FORM. 'bulk': how many values and letters a reading holds, each counted each time it is reached (what is shared counts as often as it is met; a slice's spare places count too). A statement '..UptoSaid' is the law's where the arguments, and the package variables that the reading takes, are together of bulk at most 1048576: NARROWER than '..Said'. Prove '..Said' where nothing that the law and all that it calls make is longer than what came in: it says more and counts as full. Else prove '..UptoSaid'. A law counts once. -/
mutual
def uptoBulk {H : Type} : DataW H → Nat
  | .lit (.string bytes) => bytes.length + 1
  | .lit _ => 1
  | .nil => 1
  | .ptr d => uptoBulk d + 1
  | .slice elems spare => uptoBulkAll elems + uptoBulkAll spare + 1
  | .agg parts => uptoBulkAll parts + 1
  | .iface _ d => uptoBulk d + 1
  | .map entries => uptoBulkEntries entries + 1
  | .held _ => 1
def uptoBulkAll {H : Type} : List (DataW H) → Nat
  | [] => 0
  | d :: r => uptoBulk d + uptoBulkAll r
def uptoBulkEntries {H : Type} : List (Lit × DataW H) → Nat
  | [] => 0
  | x :: r => uptoBulkEntry x + uptoBulkEntries r
def uptoBulkEntry {H : Type} : Lit × DataW H → Nat
  | (.string bytes, d) => bytes.length + uptoBulk d + 1
  | (_, d) => uptoBulk d + 1
 end
def uptoSmall : (H : Type) → List (DataW H) → Bool := fun _ ds => decide (uptoBulkAll ds ≤ 1048576)
def OpenSpec.upto (s : _root_.Go.ChangeSpec) : _root_.Go.OpenSpec := { _root_.Go.OpenSpec.ofChange s with cond := some uptoSmall }

/-- 'chevallaw02.WholeParts', WHERE WHAT IT READS IS OF BULK AT MOST 1048576: true; the input reads as it did. -/
def wholePartsUptoRow : OpenClaim := { program := "ytppefmkknmdfkaa", sum := "0b214268f4e07a99325feb8de6861d261072a88038351d95ab3982d2a0ce3d2c", func := "cheval/chevallaw02.WholeParts", spec := "wholeParts", apart := false, narrowed := true }
def WholePartsUptoSaid : Prop := wholePartsUptoRow.holds Try.pinned (OpenSpec.upto wholePartsSpec)

/-- 'chevallaw02.WholeCounts', WHERE WHAT IT READS IS OF BULK AT MOST 1048576: true; the input reads as it did. -/
def wholeCountsUptoRow : OpenClaim := { program := "ytppefmkknmdfkaa", sum := "0b214268f4e07a99325feb8de6861d261072a88038351d95ab3982d2a0ce3d2c", func := "cheval/chevallaw02.WholeCounts", spec := "wholeCounts", apart := false, narrowed := true }
def WholeCountsUptoSaid : Prop := wholeCountsUptoRow.holds Try.pinned (OpenSpec.upto wholeCountsSpec)

/-- 'chevallaw02.WholeLists', WHERE WHAT IT READS IS OF BULK AT MOST 1048576: true; the input reads as it did. -/
def wholeListsUptoRow : OpenClaim := { program := "ytppefmkknmdfkaa", sum := "0b214268f4e07a99325feb8de6861d261072a88038351d95ab3982d2a0ce3d2c", func := "cheval/chevallaw02.WholeLists", spec := "wholeLists", inPlace := ["math/bits.Add64"], apart := false, narrowed := true }
def WholeListsUptoSaid : Prop := wholeListsUptoRow.holds Try.pinned (OpenSpec.upto wholeListsSpec)

/-- 'chevallaw02.WholeSums', WHERE WHAT IT READS IS OF BULK AT MOST 1048576: true; the input reads as it did. -/
def wholeSumsUptoRow : OpenClaim := { program := "ytppefmkknmdfkaa", sum := "0b214268f4e07a99325feb8de6861d261072a88038351d95ab3982d2a0ce3d2c", func := "cheval/chevallaw02.WholeSums", spec := "wholeSums", apart := false, narrowed := true }
def WholeSumsUptoSaid : Prop := wholeSumsUptoRow.holds Try.pinned (OpenSpec.upto wholeSumsSpec)

/-- 'chevallaw02.WholeUndoes', WHERE WHAT IT READS IS OF BULK AT MOST 1048576: true; the input reads as it did. -/
def wholeUndoesUptoRow : OpenClaim := { program := "ytppefmkknmdfkaa", sum := "0b214268f4e07a99325feb8de6861d261072a88038351d95ab3982d2a0ce3d2c", func := "cheval/chevallaw02.WholeUndoes", spec := "wholeUndoes", apart := false, narrowed := true }
def WholeUndoesUptoSaid : Prop := wholeUndoesUptoRow.holds Try.pinned (OpenSpec.upto wholeUndoesSpec)

end Rows
end Go.Proofs.Ytppefmkknmdfkaa
