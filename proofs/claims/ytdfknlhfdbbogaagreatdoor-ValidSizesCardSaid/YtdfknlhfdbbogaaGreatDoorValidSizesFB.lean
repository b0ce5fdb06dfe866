/-
  Closed facts on ValidSizes, by the kernel: that it recurses, which variables it names. No condition.
-/
import Derived.Test.YtdfknlhfdbbogaaGreatDoorRows
import Derived.KernelRfl
import Derived.JoinedOf
namespace Go.Proofs.YtdfknlhfdbbogaaGreatDoor
namespace ValidSizes
theorem fact_recurses : (Rows.validSizesRow.recurses == Tryz.prog.recurses 3) = true := by kernel_rfl
theorem fact_named : (Rows.validSizesRow.named == Tryz.prog.varsNamed 3) = true := by kernel_rfl
end ValidSizes
end Go.Proofs.YtdfknlhfdbbogaaGreatDoor
