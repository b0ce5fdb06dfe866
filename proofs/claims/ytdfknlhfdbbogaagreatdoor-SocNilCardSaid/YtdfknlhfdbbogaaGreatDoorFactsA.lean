/-
  A closed fact on the program, by the kernel: every type is laid out. No condition.
-/
import Derived.Test.YtdfknlhfdbbogaaGreatDoorRows
import Derived.KernelRfl
import Derived.JoinedOf
namespace Go.Proofs.YtdfknlhfdbbogaaGreatDoor
theorem facts_laidOut : laidOutB Tryz.prog = true := by kernel_rfl
end Go.Proofs.YtdfknlhfdbbogaaGreatDoor
