/-
  Texts of this proof, joined: KParses.
-/
import Derived.Test.YtblkcnmecfppnaaGreatDoorJ6
import Derived.KernelRfl
set_option linter.unusedVariables false
set_option linter.unusedSimpArgs false
/-
 Functions of the chapter, by their contracts, at the program itself (printed by gen_join.py).
-/
namespace Go.Proofs.YtblkcnmecfppnaaGreatDoor
open Go.RowKit
set_option maxRecDepth 100000
theorem kl_parses : FnOk Tryz.prog 5 ParsesC := body_ok (by kernel_rfl) (parses_law _ k_awake k_pparse k_rparse k_rfrom k_text_6 k_refL)
end Go.Proofs.YtblkcnmecfppnaaGreatDoor
