/-
  Texts of this proof, joined: KLinks, GlobOg.
-/
import Derived.Test.YtpcfdpengbkplaaDoorJ5
import Derived.KernelRfl
import Derived.Test.YtpcfdpengbkplaaDoorRows
set_option linter.unusedVariables false
set_option linter.unusedSimpArgs false
/-
 Functions of the chapter, by their contracts, at the program itself (printed by gen_join.py).
-/
namespace Go.Proofs.YtpcfdpengbkplaaDoor
open Go.RowKit
set_option maxRecDepth 100000
theorem kl_links : FnOk Tryd.prog 9 LinksC := body_ok (by kernel_rfl) (links_law _ k_awake k_few k_s_new k_bopen k_badd k_s_read k_parse k_fnumber (k_digest (body_ok (by kernel_rfl) (rot_body _))) k_b_len k_refF)
end Go.Proofs.YtpcfdpengbkplaaDoor
/-
 What the rows lay is what Glob tells (printed by gen_globof.py).
-/
namespace Go.Proofs.YtpcfdpengbkplaaDoor
open Go Go.Lib
theorem glob_of5 {W : World} (h : laidMetH Tryd.prog [("math/bits.deBruijn32tab", Rows.laid_math_bits_deBruijn32tab), ("math/bits.deBruijn64tab", Rows.laid_math_bits_deBruijn64tab), ("internal/strconv.uint64pow10", Rows.laid_internal_strconv_uint64pow10), ("strconv.ErrRange", Rows.laid_strconv_ErrRange), ("strconv.ErrSyntax", Rows.laid_strconv_ErrSyntax)] W) : GlobOk (pubW W) W := by
 rw [MakeChecks.laidMetH_plain _ _ _ (by kernel_rfl)] at h
 have h0 := var_of_head (vs := glob 4) (g := 4) (t := 144) (e := 5) (n := 32) (by kernel_rfl) (by kernel_rfl) (by kernel_rfl) (.inl ⟨.u8, by kernel_rfl⟩) (by kernel_rfl) (by kernel_rfl) (by rfl) h
 replace h := laid_tail h
 have h1 := var_of_head (vs := glob 5) (g := 5) (t := 145) (e := 5) (n := 64) (by kernel_rfl) (by kernel_rfl) (by kernel_rfl) (.inl ⟨.u8, by kernel_rfl⟩) (by kernel_rfl) (by kernel_rfl) (by rfl) h
 replace h := laid_tail h
 have h2 := var_of_head (vs := glob 3) (g := 3) (t := 133) (e := 91) (n := 20) (by kernel_rfl) (by kernel_rfl) (by kernel_rfl) (.inl ⟨.u64, by kernel_rfl⟩) (by kernel_rfl) (by kernel_rfl) (by rfl) h
 replace h := laid_tail h
 replace h := laid_tail h
 refine ⟨fun g i u hu => ?_, fun g hg => ?_⟩
 ·by_cases e0 : g = 4
  ·subst e0; exact globOk_at h0 i u hu
  by_cases e1 : g = 5
  ·subst e1; exact globOk_at h1 i u hu
  by_cases e2 : g = 3
  ·subst e2; exact globOk_at h2 i u hu
  have e : glob g = [] := by unfold glob; split <;> first | rfl | contradiction
  rw [e] at hu; cases hu
 ·exact absurd hg (by unfold globI; simp)
end Go.Proofs.YtpcfdpengbkplaaDoor
