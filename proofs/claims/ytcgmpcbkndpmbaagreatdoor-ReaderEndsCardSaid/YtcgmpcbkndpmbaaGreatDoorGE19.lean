import Derived.Test.YtcgmpcbkndpmbaaGreatDoorRows
import Derived.Test.YtcgmpcbkndpmbaaGreatDoorGE2
import Derived.Stop.LaidErr
import Derived.Stop.Joined
import Derived.ProofKit
import Derived.MakeChecks
/-
 From the rows' conditions to what the variables hold. No conditions.
-/
namespace Go.Proofs.YtcgmpcbkndpmbaaGreatDoor
open Go Go.Pw
set_option linter.unusedVariables false
theorem size_of_var {P:Program}{w:World}{n:String}{g:Nat}{cs:Array Value}(hg:P.globalNamed n=some g)(h:w.var? P n=some cs):∃t p,w.heap[g]? = some (.cells cs t p):=by
 simp only[World.var?,hg,Option.bind_some]at h
 split at h
 ·rename_i c t p e
  obtain rfl:=Option.some.inj h
  exact⟨_,_,e⟩
 ·cases h
theorem star : "*" ++ "errors.errorString" = "*errors.errorString" := by decide
theorem rowErr (u : TypeId) (h : Tryz.prog.typeName? 3 u = some "*errors.errorString") : u = 180 :=
 typeName_ptr_named (nm := "errors.errorString") (by rw [star]; kernel_rfl) (by kernel_rfl) (by decide) u (by rw [star]; exact h)
theorem known_readerWays {W:World}(h0:laidMetH Tryz.prog Rows.readerWaysRow.laid W):Known W:=by
 rw[MakeChecks.laidMetH_plain _ _ _ (by kernel_rfl)]at h0
 have t0 : laidMet Tryz.prog [("math/bits.deBruijn32tab", Rows.laid_math_bits_deBruijn32tab), ("math/bits.deBruijn64tab", Rows.laid_math_bits_deBruijn64tab), ("internal/strconv.uint64pow10", Rows.laid_internal_strconv_uint64pow10), ("strconv.ErrRange", Rows.laid_strconv_ErrRange), ("strconv.ErrSyntax", Rows.laid_strconv_ErrSyntax)] W := h0
 have t1:=t0.tail
 have t2:=t1.tail
 have t3:=t2.tail
 have t4:=t3.tail
 have b3:=Lib.tabIs_of_head (k:= .u64) (zs:=Lib.pow10Tab) (g:=3) (by kernel_rfl) (by kernel_rfl) Tryz.underlying191 Tryz.underlying168 (by kernel_rfl) (by kernel_rfl) t2
 obtain ⟨_, _, c3⟩ := size_of_var (show Tryz.prog.globalNamed "internal/strconv.uint64pow10" = some 3 by kernel_rfl) b3
 obtain⟨_,_,b2,_⟩:=laid_sentinel (g:=2) (tp:=180) (by exact t3) (by kernel_rfl) (by kernel_rfl) Tryz.underlying136 rowErr Tryz.underlying180 Tryz.underlying182 rfl rfl Tryz.underlying9 (by kernel_rfl) (by kernel_rfl)
 obtain ⟨_, _, c2⟩ := size_of_var (show Tryz.prog.globalNamed "strconv.ErrRange" = some 2 by kernel_rfl) b2
 obtain⟨_,_,b1,_⟩:=laid_sentinel (g:=1) (tp:=180) (by exact t4) (by kernel_rfl) (by kernel_rfl) Tryz.underlying136 rowErr Tryz.underlying180 Tryz.underlying182 rfl rfl Tryz.underlying9 (by kernel_rfl) (by kernel_rfl)
 obtain ⟨_, _, c1⟩ := size_of_var (show Tryz.prog.globalNamed "strconv.ErrSyntax" = some 1 by kernel_rfl) b1
 exact⟨by have:=(Array.getElem?_eq_some_iff.1 c3).1; show 4<=_; omega,⟨⟨_,_,c3⟩,⟨_,_,_,_,c2⟩,⟨_,_,_,_,c1⟩⟩⟩
theorem known_readerDepths {W:World}(h0:laidMetH Tryz.prog Rows.readerDepthsRow.laid W):Known W:=by
 rw[MakeChecks.laidMetH_plain _ _ _ (by kernel_rfl)]at h0
 have t0 : laidMet Tryz.prog [("math/bits.deBruijn32tab", Rows.laid_math_bits_deBruijn32tab), ("math/bits.deBruijn64tab", Rows.laid_math_bits_deBruijn64tab), ("internal/strconv.uint64pow10", Rows.laid_internal_strconv_uint64pow10), ("strconv.ErrRange", Rows.laid_strconv_ErrRange), ("strconv.ErrSyntax", Rows.laid_strconv_ErrSyntax)] W := h0
 have t1:=t0.tail
 have t2:=t1.tail
 have t3:=t2.tail
 have t4:=t3.tail
 have b3:=Lib.tabIs_of_head (k:= .u64) (zs:=Lib.pow10Tab) (g:=3) (by kernel_rfl) (by kernel_rfl) Tryz.underlying191 Tryz.underlying168 (by kernel_rfl) (by kernel_rfl) t2
 obtain ⟨_, _, c3⟩ := size_of_var (show Tryz.prog.globalNamed "internal/strconv.uint64pow10" = some 3 by kernel_rfl) b3
 obtain⟨_,_,b2,_⟩:=laid_sentinel (g:=2) (tp:=180) (by exact t3) (by kernel_rfl) (by kernel_rfl) Tryz.underlying136 rowErr Tryz.underlying180 Tryz.underlying182 rfl rfl Tryz.underlying9 (by kernel_rfl) (by kernel_rfl)
 obtain ⟨_, _, c2⟩ := size_of_var (show Tryz.prog.globalNamed "strconv.ErrRange" = some 2 by kernel_rfl) b2
 obtain⟨_,_,b1,_⟩:=laid_sentinel (g:=1) (tp:=180) (by exact t4) (by kernel_rfl) (by kernel_rfl) Tryz.underlying136 rowErr Tryz.underlying180 Tryz.underlying182 rfl rfl Tryz.underlying9 (by kernel_rfl) (by kernel_rfl)
 obtain ⟨_, _, c1⟩ := size_of_var (show Tryz.prog.globalNamed "strconv.ErrSyntax" = some 1 by kernel_rfl) b1
 exact⟨by have:=(Array.getElem?_eq_some_iff.1 c3).1; show 4<=_; omega,⟨⟨_,_,c3⟩,⟨_,_,_,_,c2⟩,⟨_,_,_,_,c1⟩⟩⟩
theorem known_readerTwice {W:World}(h0:laidMetH Tryz.prog Rows.readerTwiceRow.laid W):Known W:=by
 rw[MakeChecks.laidMetH_plain _ _ _ (by kernel_rfl)]at h0
 have t0 : laidMet Tryz.prog [("math/bits.deBruijn32tab", Rows.laid_math_bits_deBruijn32tab), ("math/bits.deBruijn64tab", Rows.laid_math_bits_deBruijn64tab), ("internal/strconv.uint64pow10", Rows.laid_internal_strconv_uint64pow10), ("strconv.ErrRange", Rows.laid_strconv_ErrRange), ("strconv.ErrSyntax", Rows.laid_strconv_ErrSyntax)] W := h0
 have t1:=t0.tail
 have t2:=t1.tail
 have t3:=t2.tail
 have t4:=t3.tail
 have b3:=Lib.tabIs_of_head (k:= .u64) (zs:=Lib.pow10Tab) (g:=3) (by kernel_rfl) (by kernel_rfl) Tryz.underlying191 Tryz.underlying168 (by kernel_rfl) (by kernel_rfl) t2
 obtain ⟨_, _, c3⟩ := size_of_var (show Tryz.prog.globalNamed "internal/strconv.uint64pow10" = some 3 by kernel_rfl) b3
 obtain⟨_,_,b2,_⟩:=laid_sentinel (g:=2) (tp:=180) (by exact t3) (by kernel_rfl) (by kernel_rfl) Tryz.underlying136 rowErr Tryz.underlying180 Tryz.underlying182 rfl rfl Tryz.underlying9 (by kernel_rfl) (by kernel_rfl)
 obtain ⟨_, _, c2⟩ := size_of_var (show Tryz.prog.globalNamed "strconv.ErrRange" = some 2 by kernel_rfl) b2
 obtain⟨_,_,b1,_⟩:=laid_sentinel (g:=1) (tp:=180) (by exact t4) (by kernel_rfl) (by kernel_rfl) Tryz.underlying136 rowErr Tryz.underlying180 Tryz.underlying182 rfl rfl Tryz.underlying9 (by kernel_rfl) (by kernel_rfl)
 obtain ⟨_, _, c1⟩ := size_of_var (show Tryz.prog.globalNamed "strconv.ErrSyntax" = some 1 by kernel_rfl) b1
 exact⟨by have:=(Array.getElem?_eq_some_iff.1 c3).1; show 4<=_; omega,⟨⟨_,_,c3⟩,⟨_,_,_,_,c2⟩,⟨_,_,_,_,c1⟩⟩⟩
theorem known_readerEnds {W:World}(h0:laidMetH Tryz.prog Rows.readerEndsRow.laid W):Known W:=by
 rw[MakeChecks.laidMetH_plain _ _ _ (by kernel_rfl)]at h0
 have t0 : laidMet Tryz.prog [("math/bits.deBruijn32tab", Rows.laid_math_bits_deBruijn32tab), ("math/bits.deBruijn64tab", Rows.laid_math_bits_deBruijn64tab), ("internal/strconv.uint64pow10", Rows.laid_internal_strconv_uint64pow10), ("strconv.ErrRange", Rows.laid_strconv_ErrRange), ("strconv.ErrSyntax", Rows.laid_strconv_ErrSyntax)] W := h0
 have t1:=t0.tail
 have t2:=t1.tail
 have t3:=t2.tail
 have t4:=t3.tail
 have b3:=Lib.tabIs_of_head (k:= .u64) (zs:=Lib.pow10Tab) (g:=3) (by kernel_rfl) (by kernel_rfl) Tryz.underlying191 Tryz.underlying168 (by kernel_rfl) (by kernel_rfl) t2
 obtain ⟨_, _, c3⟩ := size_of_var (show Tryz.prog.globalNamed "internal/strconv.uint64pow10" = some 3 by kernel_rfl) b3
 obtain⟨_,_,b2,_⟩:=laid_sentinel (g:=2) (tp:=180) (by exact t3) (by kernel_rfl) (by kernel_rfl) Tryz.underlying136 rowErr Tryz.underlying180 Tryz.underlying182 rfl rfl Tryz.underlying9 (by kernel_rfl) (by kernel_rfl)
 obtain ⟨_, _, c2⟩ := size_of_var (show Tryz.prog.globalNamed "strconv.ErrRange" = some 2 by kernel_rfl) b2
 obtain⟨_,_,b1,_⟩:=laid_sentinel (g:=1) (tp:=180) (by exact t4) (by kernel_rfl) (by kernel_rfl) Tryz.underlying136 rowErr Tryz.underlying180 Tryz.underlying182 rfl rfl Tryz.underlying9 (by kernel_rfl) (by kernel_rfl)
 obtain ⟨_, _, c1⟩ := size_of_var (show Tryz.prog.globalNamed "strconv.ErrSyntax" = some 1 by kernel_rfl) b1
 exact⟨by have:=(Array.getElem?_eq_some_iff.1 c3).1; show 4<=_; omega,⟨⟨_,_,c3⟩,⟨_,_,_,_,c2⟩,⟨_,_,_,_,c1⟩⟩⟩
theorem known_readerParses {W:World}(h0:laidMetH Tryz.prog Rows.readerParsesRow.laid W):Known W:=by
 rw[MakeChecks.laidMetH_plain _ _ _ (by kernel_rfl)]at h0
 have t0 : laidMet Tryz.prog [("math/bits.deBruijn32tab", Rows.laid_math_bits_deBruijn32tab), ("math/bits.deBruijn64tab", Rows.laid_math_bits_deBruijn64tab), ("internal/strconv.uint64pow10", Rows.laid_internal_strconv_uint64pow10), ("strconv.ErrRange", Rows.laid_strconv_ErrRange), ("strconv.ErrSyntax", Rows.laid_strconv_ErrSyntax)] W := h0
 have t1:=t0.tail
 have t2:=t1.tail
 have t3:=t2.tail
 have t4:=t3.tail
 have b3:=Lib.tabIs_of_head (k:= .u64) (zs:=Lib.pow10Tab) (g:=3) (by kernel_rfl) (by kernel_rfl) Tryz.underlying191 Tryz.underlying168 (by kernel_rfl) (by kernel_rfl) t2
 obtain ⟨_, _, c3⟩ := size_of_var (show Tryz.prog.globalNamed "internal/strconv.uint64pow10" = some 3 by kernel_rfl) b3
 obtain⟨_,_,b2,_⟩:=laid_sentinel (g:=2) (tp:=180) (by exact t3) (by kernel_rfl) (by kernel_rfl) Tryz.underlying136 rowErr Tryz.underlying180 Tryz.underlying182 rfl rfl Tryz.underlying9 (by kernel_rfl) (by kernel_rfl)
 obtain ⟨_, _, c2⟩ := size_of_var (show Tryz.prog.globalNamed "strconv.ErrRange" = some 2 by kernel_rfl) b2
 obtain⟨_,_,b1,_⟩:=laid_sentinel (g:=1) (tp:=180) (by exact t4) (by kernel_rfl) (by kernel_rfl) Tryz.underlying136 rowErr Tryz.underlying180 Tryz.underlying182 rfl rfl Tryz.underlying9 (by kernel_rfl) (by kernel_rfl)
 obtain ⟨_, _, c1⟩ := size_of_var (show Tryz.prog.globalNamed "strconv.ErrSyntax" = some 1 by kernel_rfl) b1
 exact⟨by have:=(Array.getElem?_eq_some_iff.1 c3).1; show 4<=_; omega,⟨⟨_,_,c3⟩,⟨_,_,_,_,c2⟩,⟨_,_,_,_,c1⟩⟩⟩
end Go.Proofs.YtcgmpcbkndpmbaaGreatDoor
