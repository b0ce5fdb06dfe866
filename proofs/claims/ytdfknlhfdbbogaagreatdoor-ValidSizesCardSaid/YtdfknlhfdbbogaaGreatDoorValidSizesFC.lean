/-
  A closed fact on ValidSizes, by the kernel: by which text it goes. No condition.
-/
import Derived.Test.YtdfknlhfdbbogaaGreatDoorRows
import Derived.KernelRfl
import Derived.JoinedOf
import GoSem.ClaimSeven
namespace Go.Proofs.YtdfknlhfdbbogaaGreatDoor
namespace ValidSizes
theorem fact_goesBy : false = Rows.validSizesRow.goesBy Tryz.pinned.checked.prog := by kernel_rfl
end ValidSizes
end Go.Proofs.YtdfknlhfdbbogaaGreatDoor
