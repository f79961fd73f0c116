/-
  Texts of this proof, joined: KFrom.
-/
import Derived.Test.YtblkcnmecfppnaaGreatDoorJ6
import Derived.KernelRfl
set_option linter.unusedVariables false
set_option linter.unusedSimpArgs false
/-
 Functions of the chapter, by their contracts, at the program itself (printed by gen_join.py).
-/
namespace Go.Proofs.YtblkcnmecfppnaaGreatDoor
open Go.RowKit
set_option maxRecDepth 100000
theorem kl_from : FnOk Tryz.prog 3 FromLC := body_ok (by kernel_rfl) (from_law _ k_awake k_from k_rfrom k_fields_5 k_refL k_refF)
end Go.Proofs.YtblkcnmecfppnaaGreatDoor
