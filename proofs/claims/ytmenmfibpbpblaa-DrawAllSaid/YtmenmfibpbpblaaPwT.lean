/-
  What the program's package-level variables hold at the start (here: nothing is asked).
-/
import Derived.WalkKit
namespace Go.Pw
open Go
set_option linter.unusedVariables false
/-- How many package-level variables are told of. -/
def nGlob : Nat := 0
def HasW (w : World) : Prop := True
theorem HasW.mono {w w' : World} (h : ∀ g, g < nGlob → w'.heap[g]? = w.heap[g]?) (k : HasW w) : HasW w' := k
theorem known_any (w : World) : nGlob ≤ w.heap.size ∧ HasW w := ⟨Nat.zero_le _, trivial⟩
end Go.Pw
