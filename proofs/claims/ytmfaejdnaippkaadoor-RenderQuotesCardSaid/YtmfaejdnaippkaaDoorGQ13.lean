import Derived.Test.YtmfaejdnaippkaaDoorGQ11
import Derived.Test.YtmfaejdnaippkaaDoorGQ12
/-
  The tree of a list of nodes: a good value of at most 40 parts.
-/
open Go Go.Proofs Go.Pw Go.RowKit
namespace Go.Proofs.YtmfaejdnaippkaaDoor
set_option maxRecDepth 4000
set_option linter.unusedVariables false
set_option linter.unusedSimpArgs false
theorem FrzL.app : ∀ {a a' b b' : List PV}, FrzL a a' → FrzL b b' → FrzL (a ++ b) (a' ++ b')
  | [], [], _, _, _, h => h
  | _ :: _, _ :: _, _, _, h, k => ⟨h.1, FrzL.app h.2 k⟩
  | [], _ :: _, _, _, h, _ => h.elim
  | _ :: _, [], _, _, h, _ => h.elim
end Go.Proofs.YtmfaejdnaippkaaDoor
