/-
  Language: what the row says of the calls that go by.
-/
import Derived.Test.YtooioahiijbomaaGreatDoorChecked
import Derived.Test.YtooioahiijbomaaGreatDoorRows
import Derived.SevenTiedAt
import Derived.KernelRfl
set_option linter.unusedVariables false
set_option linter.unusedSimpArgs false
namespace Go.Proofs.YtooioahiijbomaaGreatDoor.doneLanguage
open Go
theorem goes : false = Rows.topLanguageUptoRow.goesBy Tryz.pinned.checked.prog := by kernel_rfl
end Go.Proofs.YtooioahiijbomaaGreatDoor.doneLanguage
