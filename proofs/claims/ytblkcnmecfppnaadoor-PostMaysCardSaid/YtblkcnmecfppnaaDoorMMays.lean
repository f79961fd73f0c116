/-
  Texts of this proof, joined: KMays.
-/
import Derived.Test.YtblkcnmecfppnaaDoorJ4
import Derived.KernelRfl
set_option linter.unusedVariables false
set_option linter.unusedSimpArgs false
/-
 Functions of the chapter, by their contracts, at the program itself (printed by gen_join.py).
-/
namespace Go.Proofs.YtblkcnmecfppnaaDoor
open Go.RowKit
set_option maxRecDepth 100000
theorem kl_mays : FnOk Tryd.prog 3 MaysC := body_ok (by kernel_rfl) (mays_body _ k_short k_awake k_may k_rmay k_fields_6 k_rfields k_refF)
end Go.Proofs.YtblkcnmecfppnaaDoor
