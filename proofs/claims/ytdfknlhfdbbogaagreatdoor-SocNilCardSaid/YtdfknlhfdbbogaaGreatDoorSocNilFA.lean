/-
  Closed facts on SocNil, by the kernel: what is taken in its place, what is not followed. No condition.
-/
import Derived.Test.YtdfknlhfdbbogaaGreatDoorRows
import Derived.KernelRfl
import Derived.JoinedOf
namespace Go.Proofs.YtdfknlhfdbbogaaGreatDoor
namespace SocNil
theorem fact_inPlace : (Rows.socNilRow.inPlace == Tryz.prog.inPlace 10) = true := by kernel_rfl
theorem fact_unfollowed : (Rows.socNilRow.unfollowed == Tryz.prog.unfollowed 10) = true := by kernel_rfl
end SocNil
end Go.Proofs.YtdfknlhfdbbogaaGreatDoor
