/-
  Texts of this proof, joined: KOwners.
-/
import Derived.Test.YtpcfdpengbkplaaDoorJ5
import Derived.KernelRfl
set_option linter.unusedVariables false
set_option linter.unusedSimpArgs false
/-
 Functions of the chapter, by their contracts, at the program itself (printed by gen_join.py).
-/
namespace Go.Proofs.YtpcfdpengbkplaaDoor
open Go.RowKit
set_option maxRecDepth 100000
theorem kl_owners : FnOk Tryd.prog 4 OwnersC := body_ok (by kernel_rfl) (owners_law _ k_awake k_few k_name8 k_texts k_written k_bcheck k_rright)
end Go.Proofs.YtpcfdpengbkplaaDoor
