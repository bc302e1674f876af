/-
  Chapter 12: which functions the methods are.
-/
import Derived.Test.YtmenmfibpbpblaaE4
open Go Go.Proofs Go.Pw Go.RowKit
namespace Go.Proofs.Ytmenmfibpbpblaa
set_option maxRecDepth 4000
set_option linter.unusedVariables false
set_option linter.unusedSimpArgs false
theorem d1 : DispOk Try.prog 59 "Next" 43 0 := fun b o w => by rfl
theorem d2 : DispOk Try.prog 59 "Used" 44 0 := fun b o w => by rfl
theorem d3 : DispOk Try.prog 65 "Next" 46 0 := fun b o w => by rfl
theorem d4 : DispOk Try.prog 65 "Used" 44 0 := fun b o w => by rfl
end Go.Proofs.Ytmenmfibpbpblaa
