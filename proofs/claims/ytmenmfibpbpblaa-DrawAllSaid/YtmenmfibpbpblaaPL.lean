/-
  Chapter 12: what a source has.
-/
import Derived.Test.YtmenmfibpbpblaaTy
open Go Go.Proofs Go.Pw Go.RowKit
namespace Go.Proofs.Ytmenmfibpbpblaa
set_option maxRecDepth 4000
set_option linter.unusedVariables false
set_option linter.unusedSimpArgs false
structure Pl where
  l : List Int
  n : Int
  m : Bool
abbrev cellsP (p : Pl) : List PV := [.sl (encI p.l), vI p.n, vB p.m]
def PlOk (p : Pl) : Prop := p.l.length ≤ maxLen ∧ -9223372036854775808 ≤ p.n ∧ p.n ≤ 9223372036854775807
def encW (l : List (List Int)) : List (List PV) := l.map fun w => [.sl (encI w)]
def WsOk (l : List (List Int)) : Prop := ∀ w ∈ l, w.length ≤ maxLen
end Go.Proofs.Ytmenmfibpbpblaa
