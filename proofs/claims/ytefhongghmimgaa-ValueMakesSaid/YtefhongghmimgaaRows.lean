/-
  No cell of these rows narrows 'for every input' (looked for: loops, veiled, ifaces, maps, wideKeys, modest, calm, conditions, laid).
  DERIVED. THE GIVEN ROWS OF THIS SEAT. 7 by the template 'for every input the law returns true; each argument reads behind the call as it read before'; 0 by the template 'total and deterministic' (their statements: YtefhongghmimgaaTotals.lean).
  GIVEN WITH THE SEED: the statements are not yours to turn. If you find one false, say at which input.
  Laid BY PROGRAM, IN A SANDBOX (cutbox-rows.mjs): the forced cells as the released guide's own fill.sh prints them over the translation e2cf557d3d955b1a… (all of the seat's roots in one cut). By AI agents, Wed Nov 11 2026. No macro, syntax, notation, axiom, sorry.
-/
import Derived.Test.YtefhongghmimgaaChecked
import GoSem.Claim
import GoSem.ClaimJoined
import GoSem.ClaimMapViews
import Derived.JoinedTies
import Derived.KernelRfl
namespace Go.Proofs.Ytefhongghmimgaa
/- THE CELL 'sum', in the pinned program and in every row, IS THE sha256 OF THE DUMP (.gsa) THAT YtefhongghmimgaaProg.lean LOADS. Nothing in Lean hashes anything: it is a label: what it is worth is what the hold of that sum in a sandbox is worth. -/
noncomputable def Try.pinned : Pinned := { name := "ytefhongghmimgaa", sum := "e2cf557d3d955b1a2ee9dc53be3fd7766eccec9a906680d02af6c3c461f39a88", checked := Try.checked }
namespace Rows
def none {H : Type} : Left H := { results := [], args := [] }

/-- 'chevallaw03.ValueObjects': WHATEVER THE INPUT: true; the input reads as it did. -/
def valueObjectsSpec : ChangeSpec := { name := "valueObjects", fn := fun _ => fun
  | [d1, d2, d3] => { results := [.lit (.bool true)], args := [d1, d2, d3] }
  | _ => none }
def valueObjectsRow : OpenClaim := { program := "ytefhongghmimgaa", sum := "e2cf557d3d955b1a2ee9dc53be3fd7766eccec9a906680d02af6c3c461f39a88", func := "cheval/chevallaw03.ValueObjects", spec := "valueObjects", inPlace := ["slices.overlaps[string]", "slices.overlaps[cheval/value.Value]"], unfollowed := true, recurses := true, apart := false }
def ValueObjectsSaid : Prop := valueObjectsRow.holds Try.pinned (OpenSpec.ofChange valueObjectsSpec)

/-- ITS FALSE NEIGHBOUR: 'it returns false'. Refute it at one input. -/
def valueObjectsWrong : ChangeSpec := { name := "valueObjects", fn := fun _ => fun
  | [d1, d2, d3] => { results := [.lit (.bool false)], args := [d1, d2, d3] }
  | _ => none }
def ValueObjectsWrongFalsely : Prop := valueObjectsRow.holds Try.pinned (OpenSpec.ofChange valueObjectsWrong)

/-- 'chevallaw03.ValueItems': WHATEVER THE INPUT: true; the input reads as it did. -/
def valueItemsSpec : ChangeSpec := { name := "valueItems", fn := fun _ => fun
  | [d1, d2] => { results := [.lit (.bool true)], args := [d1, d2] }
  | _ => none }
def valueItemsRow : OpenClaim := { program := "ytefhongghmimgaa", sum := "e2cf557d3d955b1a2ee9dc53be3fd7766eccec9a906680d02af6c3c461f39a88", func := "cheval/chevallaw03.ValueItems", spec := "valueItems", inPlace := ["slices.overlaps[string]", "slices.overlaps[cheval/value.Value]"], unfollowed := true, recurses := true, apart := false }
def ValueItemsSaid : Prop := valueItemsRow.holds Try.pinned (OpenSpec.ofChange valueItemsSpec)

/-- ITS FALSE NEIGHBOUR: 'it returns false'. Refute it at one input. -/
def valueItemsWrong : ChangeSpec := { name := "valueItems", fn := fun _ => fun
  | [d1, d2] => { results := [.lit (.bool false)], args := [d1, d2] }
  | _ => none }
def ValueItemsWrongFalsely : Prop := valueItemsRow.holds Try.pinned (OpenSpec.ofChange valueItemsWrong)

/-- 'chevallaw03.ValueGoods': WHATEVER THE INPUT: true; the input reads as it did. -/
def valueGoodsSpec : ChangeSpec := { name := "valueGoods", fn := fun _ => fun
  | [d1, d2, d3] => { results := [.lit (.bool true)], args := [d1, d2, d3] }
  | _ => none }
def valueGoodsRow : OpenClaim := { program := "ytefhongghmimgaa", sum := "e2cf557d3d955b1a2ee9dc53be3fd7766eccec9a906680d02af6c3c461f39a88", func := "cheval/chevallaw03.ValueGoods", spec := "valueGoods", inPlace := ["slices.overlaps[string]", "slices.overlaps[cheval/value.Value]"], unfollowed := true, recurses := true, apart := false }
def ValueGoodsSaid : Prop := valueGoodsRow.holds Try.pinned (OpenSpec.ofChange valueGoodsSpec)

/-- ITS FALSE NEIGHBOUR: 'it returns false'. Refute it at one input. -/
def valueGoodsWrong : ChangeSpec := { name := "valueGoods", fn := fun _ => fun
  | [d1, d2, d3] => { results := [.lit (.bool false)], args := [d1, d2, d3] }
  | _ => none }
def ValueGoodsWrongFalsely : Prop := valueGoodsRow.holds Try.pinned (OpenSpec.ofChange valueGoodsWrong)

/-- 'chevallaw03.ValueSizes': WHATEVER THE INPUT: true; the input reads as it did. -/
def valueSizesSpec : ChangeSpec := { name := "valueSizes", fn := fun _ => fun
  | [d] => { results := [.lit (.bool true)], args := [d] }
  | _ => none }
def valueSizesRow : OpenClaim := { program := "ytefhongghmimgaa", sum := "e2cf557d3d955b1a2ee9dc53be3fd7766eccec9a906680d02af6c3c461f39a88", func := "cheval/chevallaw03.ValueSizes", spec := "valueSizes", inPlace := ["slices.overlaps[string]", "slices.overlaps[cheval/value.Value]"], unfollowed := true, recurses := true, apart := false }
def ValueSizesSaid : Prop := valueSizesRow.holds Try.pinned (OpenSpec.ofChange valueSizesSpec)

/-- ITS FALSE NEIGHBOUR: 'it returns false'. Refute it at one input. -/
def valueSizesWrong : ChangeSpec := { name := "valueSizes", fn := fun _ => fun
  | [d] => { results := [.lit (.bool false)], args := [d] }
  | _ => none }
def ValueSizesWrongFalsely : Prop := valueSizesRow.holds Try.pinned (OpenSpec.ofChange valueSizesWrong)

/-- 'chevallaw03.ValueCopies': WHATEVER THE INPUT: true; the input reads as it did. -/
def valueCopiesSpec : ChangeSpec := { name := "valueCopies", fn := fun _ => fun
  | [d] => { results := [.lit (.bool true)], args := [d] }
  | _ => none }
def valueCopiesRow : OpenClaim := { program := "ytefhongghmimgaa", sum := "e2cf557d3d955b1a2ee9dc53be3fd7766eccec9a906680d02af6c3c461f39a88", func := "cheval/chevallaw03.ValueCopies", spec := "valueCopies", inPlace := ["slices.overlaps[string]", "slices.overlaps[cheval/value.Value]"], unfollowed := true, recurses := true, apart := false }
def ValueCopiesSaid : Prop := valueCopiesRow.holds Try.pinned (OpenSpec.ofChange valueCopiesSpec)

/-- ITS FALSE NEIGHBOUR: 'it returns false'. Refute it at one input. -/
def valueCopiesWrong : ChangeSpec := { name := "valueCopies", fn := fun _ => fun
  | [d] => { results := [.lit (.bool false)], args := [d] }
  | _ => none }
def ValueCopiesWrongFalsely : Prop := valueCopiesRow.holds Try.pinned (OpenSpec.ofChange valueCopiesWrong)

/-- 'chevallaw03.ValueMakes': WHATEVER THE INPUT: true; the input reads as it did. -/
def valueMakesSpec : ChangeSpec := { name := "valueMakes", fn := fun _ => fun
  | [d1, d2, d3] => { results := [.lit (.bool true)], args := [d1, d2, d3] }
  | _ => none }
def valueMakesRow : OpenClaim := { program := "ytefhongghmimgaa", sum := "e2cf557d3d955b1a2ee9dc53be3fd7766eccec9a906680d02af6c3c461f39a88", func := "cheval/chevallaw03.ValueMakes", spec := "valueMakes", inPlace := ["slices.overlaps[string]", "slices.overlaps[cheval/value.Value]"], unfollowed := true, recurses := true, apart := false }
def ValueMakesSaid : Prop := valueMakesRow.holds Try.pinned (OpenSpec.ofChange valueMakesSpec)

/-- ITS FALSE NEIGHBOUR: 'it returns false'. Refute it at one input. -/
def valueMakesWrong : ChangeSpec := { name := "valueMakes", fn := fun _ => fun
  | [d1, d2, d3] => { results := [.lit (.bool false)], args := [d1, d2, d3] }
  | _ => none }
def ValueMakesWrongFalsely : Prop := valueMakesRow.holds Try.pinned (OpenSpec.ofChange valueMakesWrong)

/-- 'chevallaw03.ValueOrders': WHATEVER THE INPUT: true; the input reads as it did. -/
def valueOrdersSpec : ChangeSpec := { name := "valueOrders", fn := fun _ => fun
  | [d1, d2, d3] => { results := [.lit (.bool true)], args := [d1, d2, d3] }
  | _ => none }
def valueOrdersRow : OpenClaim := { program := "ytefhongghmimgaa", sum := "e2cf557d3d955b1a2ee9dc53be3fd7766eccec9a906680d02af6c3c461f39a88", func := "cheval/chevallaw03.ValueOrders", spec := "valueOrders", inPlace := ["slices.overlaps[string]", "slices.overlaps[cheval/value.Value]"], unfollowed := true, recurses := true, apart := false }
def ValueOrdersSaid : Prop := valueOrdersRow.holds Try.pinned (OpenSpec.ofChange valueOrdersSpec)

/-- ITS FALSE NEIGHBOUR: 'it returns false'. Refute it at one input. -/
def valueOrdersWrong : ChangeSpec := { name := "valueOrders", fn := fun _ => fun
  | [d1, d2, d3] => { results := [.lit (.bool false)], args := [d1, d2, d3] }
  | _ => none }
def ValueOrdersWrongFalsely : Prop := valueOrdersRow.holds Try.pinned (OpenSpec.ofChange valueOrdersWrong)

/- THE SECOND FORM. 'bulk': how many values and letters a reading holds, each counted each time it is reached (what is shared counts as often as it is met; a slice's spare places count too). A statement '..UptoSaid' is the law's where the arguments, and the package variables that the reading takes, are together of bulk at most 1048576: NARROWER than '..Said'. Prove '..Said' where nothing that the law and all that it calls make is longer than what came in: it says more and counts as full. Else prove '..UptoSaid'. A law counts once. -/
mutual
def uptoBulk {H : Type} : DataW H → Nat
  | .lit (.string bytes) => bytes.length + 1
  | .lit _ => 1
  | .nil => 1
  | .ptr d => uptoBulk d + 1
  | .slice elems spare => uptoBulkAll elems + uptoBulkAll spare + 1
  | .agg parts => uptoBulkAll parts + 1
  | .iface _ d => uptoBulk d + 1
  | .map entries => uptoBulkEntries entries + 1
  | .held _ => 1
def uptoBulkAll {H : Type} : List (DataW H) → Nat
  | [] => 0
  | d :: r => uptoBulk d + uptoBulkAll r
def uptoBulkEntries {H : Type} : List (Lit × DataW H) → Nat
  | [] => 0
  | x :: r => uptoBulkEntry x + uptoBulkEntries r
def uptoBulkEntry {H : Type} : Lit × DataW H → Nat
  | (.string bytes, d) => bytes.length + uptoBulk d + 1
  | (_, d) => uptoBulk d + 1
 end
def uptoSmall : (H : Type) → List (DataW H) → Bool := fun _ ds => decide (uptoBulkAll ds ≤ 1048576)
def OpenSpec.upto (s : _root_.Go.ChangeSpec) : _root_.Go.OpenSpec := { _root_.Go.OpenSpec.ofChange s with cond := some uptoSmall }

/-- 'chevallaw03.ValueObjects', WHERE WHAT IT READS IS OF BULK AT MOST 1048576: true; the input reads as it did. -/
def valueObjectsUptoRow : OpenClaim := { program := "ytefhongghmimgaa", sum := "e2cf557d3d955b1a2ee9dc53be3fd7766eccec9a906680d02af6c3c461f39a88", func := "cheval/chevallaw03.ValueObjects", spec := "valueObjects", inPlace := ["slices.overlaps[string]", "slices.overlaps[cheval/value.Value]"], unfollowed := true, recurses := true, apart := false, narrowed := true }
def ValueObjectsUptoSaid : Prop := valueObjectsUptoRow.holds Try.pinned (OpenSpec.upto valueObjectsSpec)

/-- 'chevallaw03.ValueItems', WHERE WHAT IT READS IS OF BULK AT MOST 1048576: true; the input reads as it did. -/
def valueItemsUptoRow : OpenClaim := { program := "ytefhongghmimgaa", sum := "e2cf557d3d955b1a2ee9dc53be3fd7766eccec9a906680d02af6c3c461f39a88", func := "cheval/chevallaw03.ValueItems", spec := "valueItems", inPlace := ["slices.overlaps[string]", "slices.overlaps[cheval/value.Value]"], unfollowed := true, recurses := true, apart := false, narrowed := true }
def ValueItemsUptoSaid : Prop := valueItemsUptoRow.holds Try.pinned (OpenSpec.upto valueItemsSpec)

/-- 'chevallaw03.ValueGoods', WHERE WHAT IT READS IS OF BULK AT MOST 1048576: true; the input reads as it did. -/
def valueGoodsUptoRow : OpenClaim := { program := "ytefhongghmimgaa", sum := "e2cf557d3d955b1a2ee9dc53be3fd7766eccec9a906680d02af6c3c461f39a88", func := "cheval/chevallaw03.ValueGoods", spec := "valueGoods", inPlace := ["slices.overlaps[string]", "slices.overlaps[cheval/value.Value]"], unfollowed := true, recurses := true, apart := false, narrowed := true }
def ValueGoodsUptoSaid : Prop := valueGoodsUptoRow.holds Try.pinned (OpenSpec.upto valueGoodsSpec)

/-- 'chevallaw03.ValueSizes', WHERE WHAT IT READS IS OF BULK AT MOST 1048576: true; the input reads as it did. -/
def valueSizesUptoRow : OpenClaim := { program := "ytefhongghmimgaa", sum := "e2cf557d3d955b1a2ee9dc53be3fd7766eccec9a906680d02af6c3c461f39a88", func := "cheval/chevallaw03.ValueSizes", spec := "valueSizes", inPlace := ["slices.overlaps[string]", "slices.overlaps[cheval/value.Value]"], unfollowed := true, recurses := true, apart := false, narrowed := true }
def ValueSizesUptoSaid : Prop := valueSizesUptoRow.holds Try.pinned (OpenSpec.upto valueSizesSpec)

/-- 'chevallaw03.ValueCopies', WHERE WHAT IT READS IS OF BULK AT MOST 1048576: true; the input reads as it did. -/
def valueCopiesUptoRow : OpenClaim := { program := "ytefhongghmimgaa", sum := "e2cf557d3d955b1a2ee9dc53be3fd7766eccec9a906680d02af6c3c461f39a88", func := "cheval/chevallaw03.ValueCopies", spec := "valueCopies", inPlace := ["slices.overlaps[string]", "slices.overlaps[cheval/value.Value]"], unfollowed := true, recurses := true, apart := false, narrowed := true }
def ValueCopiesUptoSaid : Prop := valueCopiesUptoRow.holds Try.pinned (OpenSpec.upto valueCopiesSpec)

/-- 'chevallaw03.ValueMakes', WHERE WHAT IT READS IS OF BULK AT MOST 1048576: true; the input reads as it did. -/
def valueMakesUptoRow : OpenClaim := { program := "ytefhongghmimgaa", sum := "e2cf557d3d955b1a2ee9dc53be3fd7766eccec9a906680d02af6c3c461f39a88", func := "cheval/chevallaw03.ValueMakes", spec := "valueMakes", inPlace := ["slices.overlaps[string]", "slices.overlaps[cheval/value.Value]"], unfollowed := true, recurses := true, apart := false, narrowed := true }
def ValueMakesUptoSaid : Prop := valueMakesUptoRow.holds Try.pinned (OpenSpec.upto valueMakesSpec)

/-- 'chevallaw03.ValueOrders', WHERE WHAT IT READS IS OF BULK AT MOST 1048576: true; the input reads as it did. -/
def valueOrdersUptoRow : OpenClaim := { program := "ytefhongghmimgaa", sum := "e2cf557d3d955b1a2ee9dc53be3fd7766eccec9a906680d02af6c3c461f39a88", func := "cheval/chevallaw03.ValueOrders", spec := "valueOrders", inPlace := ["slices.overlaps[string]", "slices.overlaps[cheval/value.Value]"], unfollowed := true, recurses := true, apart := false, narrowed := true }
def ValueOrdersUptoSaid : Prop := valueOrdersUptoRow.holds Try.pinned (OpenSpec.upto valueOrdersSpec)

end Rows
end Go.Proofs.Ytefhongghmimgaa
