/-
  Closed facts on the program, by the kernel: its maps' rows, plain keys, lifts, make. No condition.
-/
import Derived.Test.YtdfknlhfdbbogaaGreatDoorRows
import Derived.KernelRfl
import Derived.JoinedOf
namespace Go.Proofs.YtdfknlhfdbbogaaGreatDoor
theorem facts_mapsRowed : mapsRowed Tryz.prog = true := by kernel_rfl
theorem facts_plainKeys : (Rows.validSizesRow.plainKeys == Tryz.prog.plainKeys) = true := by kernel_rfl
theorem facts_lifted : (Rows.validSizesRow.lifted == Tryz.prog.liftsFinal) = true := by kernel_rfl
theorem facts_make : (Tryz.prog.make == some Rows.validSizesRow.make) = true := by kernel_rfl
end Go.Proofs.YtdfknlhfdbbogaaGreatDoor
