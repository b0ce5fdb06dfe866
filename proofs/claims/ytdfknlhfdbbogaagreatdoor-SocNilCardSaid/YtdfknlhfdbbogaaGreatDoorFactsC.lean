/-
  Closed facts on the program, by the kernel: no stop is heard, every function may be entered, which text is main. No condition.
-/
import Derived.Test.YtdfknlhfdbbogaaGreatDoorRows
import Derived.KernelRfl
import Derived.JoinedOf
namespace Go.Proofs.YtdfknlhfdbbogaaGreatDoor
theorem facts_stopsHeard : Tryz.prog.stopsHeard = true := by kernel_rfl
theorem facts_mayEnter : Tryz.prog.mayEnter = true := by kernel_rfl
end Go.Proofs.YtdfknlhfdbbogaaGreatDoor
