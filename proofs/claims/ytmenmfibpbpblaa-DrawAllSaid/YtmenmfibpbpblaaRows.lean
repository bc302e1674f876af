/-
  No cell of these rows narrows 'for every input' (looked for: loops, veiled, ifaces, maps, wideKeys, modest, calm, conditions, laid).
  DERIVED. THE GIVEN ROWS OF THIS SEAT. 5 by the template 'for every input the law returns true; each argument reads behind the call as it read before'; 0 by the template 'total and deterministic' (their statements: YtmenmfibpbpblaaTotals.lean).
  GIVEN WITH THE SEED: the statements are not yours to turn. If you find one false, say at which input.
  Laid BY PROGRAM, IN A SANDBOX (cutbox-rows.mjs): the forced cells as the released guide's own fill.sh prints them over the translation a8fc6b28fa02805c… (all of the seat's roots in one cut). By AI agents, Wed Nov 11 2026. No macro, syntax, notation, axiom, sorry.
-/
import Derived.Test.YtmenmfibpbpblaaChecked
import GoSem.Claim
import GoSem.ClaimJoined
import GoSem.ClaimMapViews
import Derived.JoinedTies
import Derived.KernelRfl
namespace Go.Proofs.Ytmenmfibpbpblaa
/- THE CELL 'sum', in the pinned program and in every row, IS THE sha256 OF THE DUMP (.gsa) THAT YtmenmfibpbpblaaProg.lean LOADS. Nothing in Lean hashes anything: it is a label: what it is worth is what the hold of that sum in a sandbox is worth. -/
noncomputable def Try.pinned : Pinned := { name := "ytmenmfibpbpblaa", sum := "a8fc6b28fa02805c44ef11a44d2af91cd8ec5f491ae21bea1a8daacf996fe00e", checked := Try.checked }
namespace Rows
def none {H : Type} : Left H := { results := [], args := [] }

/-- 'chevallaw12.DrawGoods': WHATEVER THE INPUT: true; the input reads as it did. -/
def drawGoodsSpec : ChangeSpec := { name := "drawGoods", fn := fun _ => fun
  | [d1, d2] => { results := [.lit (.bool true)], args := [d1, d2] }
  | _ => none }
def drawGoodsRow : OpenClaim := { program := "ytmenmfibpbpblaa", sum := "a8fc6b28fa02805c44ef11a44d2af91cd8ec5f491ae21bea1a8daacf996fe00e", func := "cheval/chevallaw12.DrawGoods", spec := "drawGoods", unfollowed := true, recurses := true, apart := false }
def DrawGoodsSaid : Prop := drawGoodsRow.holds Try.pinned (OpenSpec.ofChange drawGoodsSpec)

/-- ITS FALSE NEIGHBOUR: 'it returns false'. Refute it at one input. -/
def drawGoodsWrong : ChangeSpec := { name := "drawGoods", fn := fun _ => fun
  | [d1, d2] => { results := [.lit (.bool false)], args := [d1, d2] }
  | _ => none }
def DrawGoodsWrongFalsely : Prop := drawGoodsRow.holds Try.pinned (OpenSpec.ofChange drawGoodsWrong)

/-- 'chevallaw12.DrawOrders': WHATEVER THE INPUT: true; the input reads as it did. -/
def drawOrdersSpec : ChangeSpec := { name := "drawOrders", fn := fun _ => fun
  | [d1, d2, d3] => { results := [.lit (.bool true)], args := [d1, d2, d3] }
  | _ => none }
def drawOrdersRow : OpenClaim := { program := "ytmenmfibpbpblaa", sum := "a8fc6b28fa02805c44ef11a44d2af91cd8ec5f491ae21bea1a8daacf996fe00e", func := "cheval/chevallaw12.DrawOrders", spec := "drawOrders", unfollowed := true, recurses := true, apart := false }
def DrawOrdersSaid : Prop := drawOrdersRow.holds Try.pinned (OpenSpec.ofChange drawOrdersSpec)

/-- ITS FALSE NEIGHBOUR: 'it returns false'. Refute it at one input. -/
def drawOrdersWrong : ChangeSpec := { name := "drawOrders", fn := fun _ => fun
  | [d1, d2, d3] => { results := [.lit (.bool false)], args := [d1, d2, d3] }
  | _ => none }
def DrawOrdersWrongFalsely : Prop := drawOrdersRow.holds Try.pinned (OpenSpec.ofChange drawOrdersWrong)

/-- 'chevallaw12.DrawSources': WHATEVER THE INPUT: true; the input reads as it did. -/
def drawSourcesSpec : ChangeSpec := { name := "drawSources", fn := fun _ => fun
  | [d1, d2] => { results := [.lit (.bool true)], args := [d1, d2] }
  | _ => none }
def drawSourcesRow : OpenClaim := { program := "ytmenmfibpbpblaa", sum := "a8fc6b28fa02805c44ef11a44d2af91cd8ec5f491ae21bea1a8daacf996fe00e", func := "cheval/chevallaw12.DrawSources", spec := "drawSources", unfollowed := true, recurses := true, apart := false }
def DrawSourcesSaid : Prop := drawSourcesRow.holds Try.pinned (OpenSpec.ofChange drawSourcesSpec)

/-- ITS FALSE NEIGHBOUR: 'it returns false'. Refute it at one input. -/
def drawSourcesWrong : ChangeSpec := { name := "drawSources", fn := fun _ => fun
  | [d1, d2] => { results := [.lit (.bool false)], args := [d1, d2] }
  | _ => none }
def DrawSourcesWrongFalsely : Prop := drawSourcesRow.holds Try.pinned (OpenSpec.ofChange drawSourcesWrong)

/-- 'chevallaw12.DrawAll': WHATEVER THE INPUT: true; the input reads as it did. -/
def drawAllSpec : ChangeSpec := { name := "drawAll", fn := fun _ => fun
  | [d] => { results := [.lit (.bool true)], args := [d] }
  | _ => none }
def drawAllRow : OpenClaim := { program := "ytmenmfibpbpblaa", sum := "a8fc6b28fa02805c44ef11a44d2af91cd8ec5f491ae21bea1a8daacf996fe00e", func := "cheval/chevallaw12.DrawAll", spec := "drawAll", unfollowed := true, recurses := true, apart := false }
def DrawAllSaid : Prop := drawAllRow.holds Try.pinned (OpenSpec.ofChange drawAllSpec)

/-- ITS FALSE NEIGHBOUR: 'it returns false'. Refute it at one input. -/
def drawAllWrong : ChangeSpec := { name := "drawAll", fn := fun _ => fun
  | [d] => { results := [.lit (.bool false)], args := [d] }
  | _ => none }
def DrawAllWrongFalsely : Prop := drawAllRow.holds Try.pinned (OpenSpec.ofChange drawAllWrong)

/-- 'chevallaw12.DrawWeighs': WHATEVER THE INPUT: true; the input reads as it did. -/
def drawWeighsSpec : ChangeSpec := { name := "drawWeighs", fn := fun _ => fun
  | [d1, d2] => { results := [.lit (.bool true)], args := [d1, d2] }
  | _ => none }
def drawWeighsRow : OpenClaim := { program := "ytmenmfibpbpblaa", sum := "a8fc6b28fa02805c44ef11a44d2af91cd8ec5f491ae21bea1a8daacf996fe00e", func := "cheval/chevallaw12.DrawWeighs", spec := "drawWeighs", unfollowed := true, recurses := true, apart := false }
def DrawWeighsSaid : Prop := drawWeighsRow.holds Try.pinned (OpenSpec.ofChange drawWeighsSpec)

/-- ITS FALSE NEIGHBOUR: 'it returns false'. Refute it at one input. -/
def drawWeighsWrong : ChangeSpec := { name := "drawWeighs", fn := fun _ => fun
  | [d1, d2] => { results := [.lit (.bool false)], args := [d1, d2] }
  | _ => none }
def DrawWeighsWrongFalsely : Prop := drawWeighsRow.holds Try.pinned (OpenSpec.ofChange drawWeighsWrong)

/- THE SECOND FORM. 'bulk': how many values and letters a reading holds, each counted each time it is reached (what is shared counts as often as it is met; a slice's spare places count too). A statement '..UptoSaid' is the law's where the arguments, and the package variables that the reading takes, are together of bulk at most 1048576: NARROWER than '..Said'. Prove '..Said' where nothing that the law and all that it calls make is longer than what came in: it says more and counts as full. Else prove '..UptoSaid'. A law counts once. -/
mutual
def uptoBulk {H : Type} : DataW H → Nat
  | .lit (.string bytes) => bytes.length + 1
  | .lit _ => 1
  | .nil => 1
  | .ptr d => uptoBulk d + 1
  | .slice elems spare => uptoBulkAll elems + uptoBulkAll spare + 1
  | .agg parts => uptoBulkAll parts + 1
  | .iface _ d => uptoBulk d + 1
  | .map entries => uptoBulkEntries entries + 1
  | .held _ => 1
def uptoBulkAll {H : Type} : List (DataW H) → Nat
  | [] => 0
  | d :: r => uptoBulk d + uptoBulkAll r
def uptoBulkEntries {H : Type} : List (Lit × DataW H) → Nat
  | [] => 0
  | x :: r => uptoBulkEntry x + uptoBulkEntries r
def uptoBulkEntry {H : Type} : Lit × DataW H → Nat
  | (.string bytes, d) => bytes.length + uptoBulk d + 1
  | (_, d) => uptoBulk d + 1
 end
def uptoSmall : (H : Type) → List (DataW H) → Bool := fun _ ds => decide (uptoBulkAll ds ≤ 1048576)
def OpenSpec.upto (s : _root_.Go.ChangeSpec) : _root_.Go.OpenSpec := { _root_.Go.OpenSpec.ofChange s with cond := some uptoSmall }

/-- 'chevallaw12.DrawGoods', WHERE WHAT IT READS IS OF BULK AT MOST 1048576: true; the input reads as it did. -/
def drawGoodsUptoRow : OpenClaim := { program := "ytmenmfibpbpblaa", sum := "a8fc6b28fa02805c44ef11a44d2af91cd8ec5f491ae21bea1a8daacf996fe00e", func := "cheval/chevallaw12.DrawGoods", spec := "drawGoods", unfollowed := true, recurses := true, apart := false, narrowed := true }
def DrawGoodsUptoSaid : Prop := drawGoodsUptoRow.holds Try.pinned (OpenSpec.upto drawGoodsSpec)

/-- 'chevallaw12.DrawOrders', WHERE WHAT IT READS IS OF BULK AT MOST 1048576: true; the input reads as it did. -/
def drawOrdersUptoRow : OpenClaim := { program := "ytmenmfibpbpblaa", sum := "a8fc6b28fa02805c44ef11a44d2af91cd8ec5f491ae21bea1a8daacf996fe00e", func := "cheval/chevallaw12.DrawOrders", spec := "drawOrders", unfollowed := true, recurses := true, apart := false, narrowed := true }
def DrawOrdersUptoSaid : Prop := drawOrdersUptoRow.holds Try.pinned (OpenSpec.upto drawOrdersSpec)

/-- 'chevallaw12.DrawSources', WHERE WHAT IT READS IS OF BULK AT MOST 1048576: true; the input reads as it did. -/
def drawSourcesUptoRow : OpenClaim := { program := "ytmenmfibpbpblaa", sum := "a8fc6b28fa02805c44ef11a44d2af91cd8ec5f491ae21bea1a8daacf996fe00e", func := "cheval/chevallaw12.DrawSources", spec := "drawSources", unfollowed := true, recurses := true, apart := false, narrowed := true }
def DrawSourcesUptoSaid : Prop := drawSourcesUptoRow.holds Try.pinned (OpenSpec.upto drawSourcesSpec)

/-- 'chevallaw12.DrawAll', WHERE WHAT IT READS IS OF BULK AT MOST 1048576: true; the input reads as it did. -/
def drawAllUptoRow : OpenClaim := { program := "ytmenmfibpbpblaa", sum := "a8fc6b28fa02805c44ef11a44d2af91cd8ec5f491ae21bea1a8daacf996fe00e", func := "cheval/chevallaw12.DrawAll", spec := "drawAll", unfollowed := true, recurses := true, apart := false, narrowed := true }
def DrawAllUptoSaid : Prop := drawAllUptoRow.holds Try.pinned (OpenSpec.upto drawAllSpec)

/-- 'chevallaw12.DrawWeighs', WHERE WHAT IT READS IS OF BULK AT MOST 1048576: true; the input reads as it did. -/
def drawWeighsUptoRow : OpenClaim := { program := "ytmenmfibpbpblaa", sum := "a8fc6b28fa02805c44ef11a44d2af91cd8ec5f491ae21bea1a8daacf996fe00e", func := "cheval/chevallaw12.DrawWeighs", spec := "drawWeighs", unfollowed := true, recurses := true, apart := false, narrowed := true }
def DrawWeighsUptoSaid : Prop := drawWeighsUptoRow.holds Try.pinned (OpenSpec.upto drawWeighsSpec)

end Rows
end Go.Proofs.Ytmenmfibpbpblaa
