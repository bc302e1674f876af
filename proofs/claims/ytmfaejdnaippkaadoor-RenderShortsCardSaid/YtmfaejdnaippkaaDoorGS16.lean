import Derived.Test.YtmfaejdnaippkaaDoorGS10
/-
  Whether twoP values are the same (the document's).
-/
open Go Go.Proofs Go.Pw Go.RowKit
namespace Go.Proofs.YtmfaejdnaippkaaDoor
set_option maxRecDepth 4000
set_option linter.unusedVariables false
set_option linter.unusedSimpArgs false
end Go.Proofs.YtmfaejdnaippkaaDoor
