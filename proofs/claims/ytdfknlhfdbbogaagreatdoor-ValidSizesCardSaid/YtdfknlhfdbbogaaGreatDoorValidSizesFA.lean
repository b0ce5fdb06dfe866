/-
  Closed facts on ValidSizes, by the kernel: what is taken in its place, what is not followed. No condition.
-/
import Derived.Test.YtdfknlhfdbbogaaGreatDoorRows
import Derived.KernelRfl
import Derived.JoinedOf
namespace Go.Proofs.YtdfknlhfdbbogaaGreatDoor
namespace ValidSizes
theorem fact_inPlace : (Rows.validSizesRow.inPlace == Tryz.prog.inPlace 3) = true := by kernel_rfl
theorem fact_unfollowed : (Rows.validSizesRow.unfollowed == Tryz.prog.unfollowed 3) = true := by kernel_rfl
end ValidSizes
end Go.Proofs.YtdfknlhfdbbogaaGreatDoor
