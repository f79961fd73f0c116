/-
  Texts of this proof, joined: TSK.
-/
import Derived.Test.YtjhncfkohmhnnaaGreatDoorJ5
import Derived.KernelRfl
set_option linter.unusedVariables false
set_option linter.unusedSimpArgs false
noncomputable section
namespace Go.Proofs.YtjhncfkohmhnnaaGreatDoor
open Go.RowKit
set_option maxRecDepth 100000
theorem kl_top : FnOk Tryz.prog 3 TopC := body_okS (by kernel_rfl) (top_body _ k_counts k_new k_make k_issue k_namesT k_of k_bills k_get k_endorse k_split k_join k_switch k_surrender k_state k_box k_covers)
end Go.Proofs.YtjhncfkohmhnnaaGreatDoor
end
