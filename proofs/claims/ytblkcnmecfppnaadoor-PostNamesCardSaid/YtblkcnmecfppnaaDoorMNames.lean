/-
  Texts of this proof, joined: KNames.
-/
import Derived.Test.YtblkcnmecfppnaaDoorJ4
import Derived.KernelRfl
set_option linter.unusedVariables false
set_option linter.unusedSimpArgs false
/-
 Functions of the chapter, by their contracts, at the program itself (printed by gen_join.py).
-/
namespace Go.Proofs.YtblkcnmecfppnaaDoor
open Go.RowKit
set_option maxRecDepth 100000
theorem kl_names : FnOk Tryd.prog 4 NamesLC := body_ok (by kernel_rfl) (names_law _ k_awake k_names k_name k_kind)
end Go.Proofs.YtblkcnmecfppnaaDoor
