/-
  Closed facts on the program, by the kernel: which text is main; the program's looks. No condition.
-/
import Derived.Test.YtdfknlhfdbbogaaGreatDoorRows
import Derived.KernelRfl
import Derived.JoinedOf
import Derived.Test.YtdfknlhfdbbogaaGreatDoorCards
namespace Go.Proofs.YtdfknlhfdbbogaaGreatDoor
theorem facts_mainIs : Tryz.pinned.checked.prog.mainIs = some (Rows.validSizesCard.stood.harness.1, Rows.validSizesCard.stood.harness.2.toList) := by kernel_rfl
theorem facts_looks : true = Tryz.pinned.checked.prog.looks [] := by kernel_rfl
end Go.Proofs.YtdfknlhfdbbogaaGreatDoor
