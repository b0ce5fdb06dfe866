/-
  Closed facts on SocNil, by the kernel: that it recurses, which variables it names. No condition.
-/
import Derived.Test.YtdfknlhfdbbogaaGreatDoorRows
import Derived.KernelRfl
import Derived.JoinedOf
namespace Go.Proofs.YtdfknlhfdbbogaaGreatDoor
namespace SocNil
theorem fact_recurses : (Rows.socNilRow.recurses == Tryz.prog.recurses 10) = true := by kernel_rfl
theorem fact_named : (Rows.socNilRow.named == Tryz.prog.varsNamed 10) = true := by kernel_rfl
end SocNil
end Go.Proofs.YtdfknlhfdbbogaaGreatDoor
