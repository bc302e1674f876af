import Derived.Test.YtcgmpcbkndpmbaaGreatDoorGE8
/-
 Whether anything is a value: the program's.
-/
open Go Go.Proofs Go.Pw Go.RowKit
namespace Go.Proofs.YtcgmpcbkndpmbaaGreatDoor
set_option maxRecDepth 4000
set_option linter.unusedVariables false
set_option linter.unusedSimpArgs false
end Go.Proofs.YtcgmpcbkndpmbaaGreatDoor
