/-
  Texts of this proof, joined: KSames.
-/
import Derived.Test.YtblkcnmecfppnaaDoorJ4
import Derived.KernelRfl
set_option linter.unusedVariables false
set_option linter.unusedSimpArgs false
/-
 Functions of the chapter, by their contracts, at the program itself (printed by gen_join.py).
-/
namespace Go.Proofs.YtblkcnmecfppnaaDoor
open Go.RowKit
set_option maxRecDepth 100000
theorem kl_sames : FnOk Tryd.prog 5 SamesC := body_okS (by kernel_rfl) (sames_law _ k_short k_sameL k_refL k_awake)
end Go.Proofs.YtblkcnmecfppnaaDoor
