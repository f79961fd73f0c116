/-
  Texts of this proof, joined: KPlays.
-/
import Derived.Test.YtpcfdpengbkplaaDoorJ5
import Derived.KernelRfl
set_option linter.unusedVariables false
set_option linter.unusedSimpArgs false
/-
 Functions of the chapter, by their contracts, at the program itself (printed by gen_join.py).
-/
namespace Go.Proofs.YtpcfdpengbkplaaDoor
open Go.RowKit
set_option maxRecDepth 100000
theorem kl_plays : FnOk Tryd.prog 6 PlaysC := body_ok (by kernel_rfl) (plays_law _ k_awake k_few k_name8 k_s_new k_bopen k_badd k_rtext k_refF k_s_read k_bat k_b_len k_ball k_sameR)
end Go.Proofs.YtpcfdpengbkplaaDoor
