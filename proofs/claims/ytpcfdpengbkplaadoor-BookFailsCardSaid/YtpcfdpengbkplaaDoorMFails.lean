/-
  Texts of this proof, joined: KFails.
-/
import Derived.Test.YtpcfdpengbkplaaDoorJ5
import Derived.KernelRfl
set_option linter.unusedVariables false
set_option linter.unusedSimpArgs false
/-
 Functions of the chapter, by their contracts, at the program itself (printed by gen_join.py).
-/
namespace Go.Proofs.YtpcfdpengbkplaaDoor
open Go.RowKit
set_option maxRecDepth 100000
theorem kl_fails : FnOk Tryd.prog 5 FailsC := body_ok (by kernel_rfl) (fails_law _ k_awake k_few k_s_new k_bopen k_s_arm k_badd k_b_flush k_b_len k_b_lasting k_s_len k_s_down)
end Go.Proofs.YtpcfdpengbkplaaDoor
