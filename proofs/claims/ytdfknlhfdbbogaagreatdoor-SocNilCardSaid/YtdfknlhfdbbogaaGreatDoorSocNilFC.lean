/-
  A closed fact on SocNil, by the kernel: by which text it goes. No condition.
-/
import Derived.Test.YtdfknlhfdbbogaaGreatDoorRows
import Derived.KernelRfl
import Derived.JoinedOf
import GoSem.ClaimSeven
namespace Go.Proofs.YtdfknlhfdbbogaaGreatDoor
namespace SocNil
theorem fact_goesBy : false = Rows.socNilRow.goesBy Tryz.pinned.checked.prog := by kernel_rfl
end SocNil
end Go.Proofs.YtdfknlhfdbbogaaGreatDoor
