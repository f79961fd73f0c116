/-
  Texts of this proof, joined: KOpens.
-/
import Derived.Test.YtpcfdpengbkplaaDoorJ5
import Derived.KernelRfl
set_option linter.unusedVariables false
set_option linter.unusedSimpArgs false
/-
 Functions of the chapter, by their contracts, at the program itself (printed by gen_join.py).
-/
namespace Go.Proofs.YtpcfdpengbkplaaDoor
open Go.RowKit
set_option maxRecDepth 100000
theorem kl_opens : FnOk Tryd.prog 7 OpensC := body_ok (by kernel_rfl) (opens_law _ k_awake k_short k_name8 k_written k_bopen k_bcheck k_rright k_s_len k_b_len k_ball k_sameR)
end Go.Proofs.YtpcfdpengbkplaaDoor
