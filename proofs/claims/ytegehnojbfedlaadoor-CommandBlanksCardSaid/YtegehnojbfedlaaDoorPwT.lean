/-
  What the program's package-level variables hold at the start: a table of powers of ten, two errors of the library's.
-/
import Derived.WalkKit
import Derived.Lib.LaidTab
import Derived.Lib.ItoaNum
namespace Go.Pw
open Go
set_option linter.unusedVariables false
/-- How many package-level variables are told of. -/
def nGlob : Nat := 6
def HasW (w : World) : Prop := (∃ t p, w.heap[5]? = some (.cells (Lib.pow10Tab.map fun z => Value.int .u64 z).toArray t p)) ∧ (∃ te pe t p, w.heap[2]? = some (.cells #[.iface te pe] t p)) ∧ (∃ te pe t p, w.heap[1]? = some (.cells #[.iface te pe] t p))
theorem HasW.mono {w w' : World} (h : ∀ g, g < nGlob → w'.heap[g]? = w.heap[g]?) (k : HasW w) : HasW w' := by
  unfold HasW at k ⊢
  simp only [h 5 (by decide), h 2 (by decide), h 1 (by decide)]
  exact k
theorem hasW_tab {P : Program} {w : World} (hg : P.globalNamed "internal/strconv.uint64pow10" = some 5) (k : HasW w) : Lib.TabIs P w "internal/strconv.uint64pow10" .u64 Lib.pow10Tab := by
  obtain ⟨t, p, h⟩ := k.1
  unfold Lib.TabIs World.var?
  rw [hg, Option.bind_some, h]
theorem hasW_ErrRange {w : World} (k : HasW w) : ∃ te pe, w.cell? ⟨2, 0, none⟩ = some (.iface te pe) := by
  obtain ⟨te, pe, t, p, h⟩ := k.2.1
  exact ⟨te, pe, by simp [World.cell?, h]⟩
theorem hasW_ErrSyntax {w : World} (k : HasW w) : ∃ te pe, w.cell? ⟨1, 0, none⟩ = some (.iface te pe) := by
  obtain ⟨te, pe, t, p, h⟩ := k.2.2
  exact ⟨te, pe, by simp [World.cell?, h]⟩
end Go.Pw
