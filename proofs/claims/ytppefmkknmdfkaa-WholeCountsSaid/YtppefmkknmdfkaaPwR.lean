/-
  From a function's contract to a walk.
-/
import Derived.Test.YtppefmkknmdfkaaPwS
namespace Go.Pw
open Go Go.RowKit
/-- No cell is told; the arguments are plain. -/
theorem Ok.walk {P : Program} {f : FuncId} {args : List PV} {r : Value} (h : Ok P f args (.val r)) (S : Cells) (w : World) (vals : Array Value) (hS : Stable S w) (hn : vals.size = args.length)
    (ha : ∀ (i : Nat) (v : Value) (p : PV), vals[i]? = some v → args[i]? = some p → RepA S v p) : Calls P f vals w fun e w' => e = .returned r ∧ Below w.heap.size w w' := by
  refine Calls.mono (h.2 S w vals hS hn ha) ?_
  rintro e w' ⟨v, S', rfl, _, _, _, hr, hb⟩
  obtain ⟨rfl, _⟩ := rep_val hr
  exact ⟨rfl, hb⟩
def noCells : Cells := fun _ _ => none
theorem noCells_stable (w : World) : Stable noCells w := fun b o v h => by cases h
/-- All arguments are values of one cell. -/
theorem Ok.walk_vals {P : Program} {f : FuncId} {l : List Value} {r : Value} (h : Ok P f (l.map .val) (.val r)) (hl : l.all (·.oneCell') = true) (w : World) : Calls P f l.toArray w fun e w' => e = .returned r ∧ Below w.heap.size w w' := by
  refine h.walk noCells w l.toArray (noCells_stable w) (by simp) (fun i v p hv hp => ?_)
  have h1 : l[i]? = some v := by simpa using hv
  rw [List.getElem?_map, h1] at hp
  obtain rfl := Option.some.inj hp
  exact .frz (.val (List.all_eq_true.1 hl v (List.mem_of_getElem? h1)))
end Go.Pw
