/-
  Core: what the row says of the calls that go by.
-/
import Derived.Test.YtooioahiijbomaaGreatDoorChecked
import Derived.Test.YtooioahiijbomaaGreatDoorRows
import Derived.SevenTiedAt
import Derived.KernelRfl
namespace Go.Proofs.YtooioahiijbomaaGreatDoor.doneCore
open Go
theorem goes : false = Rows.topCoreUptoRow.goesBy Tryz.pinned.checked.prog := by kernel_rfl
end Go.Proofs.YtooioahiijbomaaGreatDoor.doneCore
