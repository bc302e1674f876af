import Derived.Test.YtmfaejdnaippkaaDoorRows
import Derived.Test.YtmfaejdnaippkaaDoorGS3
import Derived.Stop.LaidErr
import Derived.Stop.Joined
import Derived.ProofKit
import Derived.MakeChecks
/-
  From the rows' conditions to what the variables hold. No conditions.
-/
namespace Go.Proofs.YtmfaejdnaippkaaDoor
open Go Go.Pw
set_option linter.unusedVariables false
-- 1
theorem size_of_var {P : Program} {w : World} {n : String} {g : Nat} {cs : Array Value} (hg : P.globalNamed n = some g) (h : w.var? P n = some cs) : ∃ t p, w.heap[g]? = some (.cells cs t p) := by
  simp only [World.var?, hg, Option.bind_some] at h
  split at h
  · rename_i c t p e
    obtain rfl := Option.some.inj h
    exact ⟨_, _, e⟩
  · cases h
theorem known_renderQuotes {W : World} (h0 : laidMetH Tryd.prog Rows.renderQuotesRow.laid W) : Known W := by
  rw [MakeChecks.laidMetH_plain _ _ _ (by kernel_rfl)] at h0
  have t0 : laidMet Tryd.prog [("math/bits.deBruijn32tab", Rows.laid_math_bits_deBruijn32tab), ("math/bits.deBruijn64tab", Rows.laid_math_bits_deBruijn64tab), ("internal/strconv.uint64pow10", Rows.laid_internal_strconv_uint64pow10)] W := h0
  have t1 := t0.tail
  have t2 := t1.tail
  have b1 := Lib.tabIs_of_head (k := .u64) (zs := Lib.pow10Tab) (g := 1) (by kernel_rfl) (by kernel_rfl) Tryd.underlying118 Tryd.underlying111 (by kernel_rfl) (by kernel_rfl) t2
  obtain ⟨_, _, c1⟩ := size_of_var (show Tryd.prog.globalNamed "internal/strconv.uint64pow10" = some 1 by kernel_rfl) b1
  exact ⟨by have := (Array.getElem?_eq_some_iff.1 c1).1; show 2 ≤ _; omega, ⟨_, _, c1⟩⟩
theorem known_renderShorts {W : World} (h0 : laidMetH Tryd.prog Rows.renderShortsRow.laid W) : Known W := by
  rw [MakeChecks.laidMetH_plain _ _ _ (by kernel_rfl)] at h0
  have t0 : laidMet Tryd.prog [("math/bits.deBruijn32tab", Rows.laid_math_bits_deBruijn32tab), ("math/bits.deBruijn64tab", Rows.laid_math_bits_deBruijn64tab), ("internal/strconv.uint64pow10", Rows.laid_internal_strconv_uint64pow10)] W := h0
  have t1 := t0.tail
  have t2 := t1.tail
  have b1 := Lib.tabIs_of_head (k := .u64) (zs := Lib.pow10Tab) (g := 1) (by kernel_rfl) (by kernel_rfl) Tryd.underlying118 Tryd.underlying111 (by kernel_rfl) (by kernel_rfl) t2
  obtain ⟨_, _, c1⟩ := size_of_var (show Tryd.prog.globalNamed "internal/strconv.uint64pow10" = some 1 by kernel_rfl) b1
  exact ⟨by have := (Array.getElem?_eq_some_iff.1 c1).1; show 2 ≤ _; omega, ⟨_, _, c1⟩⟩
end Go.Proofs.YtmfaejdnaippkaaDoor
