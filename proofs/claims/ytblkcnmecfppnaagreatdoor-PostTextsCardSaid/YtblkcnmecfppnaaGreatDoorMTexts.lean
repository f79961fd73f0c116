/-
  Texts of this proof, joined: KTexts.
-/
import Derived.Test.YtblkcnmecfppnaaGreatDoorJ6
import Derived.KernelRfl
set_option linter.unusedVariables false
set_option linter.unusedSimpArgs false
/-
 Functions of the chapter, by their contracts, at the program itself (printed by gen_join.py).
-/
namespace Go.Proofs.YtblkcnmecfppnaaGreatDoor
open Go.RowKit
set_option maxRecDepth 100000
theorem kl_texts : FnOk Tryz.prog 4 TextsC := body_ok (by kernel_rfl) (texts_law _ k_short k_awake k_text_6 k_rmay k_rfields k_refText k_pparse k_refL)
end Go.Proofs.YtblkcnmecfppnaaGreatDoor
