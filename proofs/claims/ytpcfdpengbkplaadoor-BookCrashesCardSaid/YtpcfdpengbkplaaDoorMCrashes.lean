/-
  Texts of this proof, joined: KCrashes.
-/
import Derived.Test.YtpcfdpengbkplaaDoorJ5
import Derived.KernelRfl
set_option linter.unusedVariables false
set_option linter.unusedSimpArgs false
/-
 Functions of the chapter, by their contracts, at the program itself (printed by gen_join.py).
-/
namespace Go.Proofs.YtpcfdpengbkplaaDoor
open Go.RowKit
set_option maxRecDepth 100000
theorem kl_crashes : FnOk Tryd.prog 8 CrashesC := body_ok (by kernel_rfl) (crashes_law _ k_awake k_few k_s_new k_bopen k_s_crash k_badd k_b_flush k_b_len k_b_lasting k_ball k_sameR k_refF)
end Go.Proofs.YtpcfdpengbkplaaDoor
