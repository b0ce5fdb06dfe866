/-
  Closed facts on the program and on ValidForms, by the kernel. No condition.
-/
import Derived.Test.YtdfknlhfdbbogaaGreatDoorRows
import Derived.KernelRfl
import Derived.JoinedOf
import Derived.Test.YtdfknlhfdbbogaaGreatDoorCards
import GoSem.ClaimSeven
namespace Go.Proofs.YtdfknlhfdbbogaaGreatDoor
theorem facts_laidOut : laidOutB Tryz.prog = true := by kernel_rfl
end Go.Proofs.YtdfknlhfdbbogaaGreatDoor

namespace Go.Proofs.YtdfknlhfdbbogaaGreatDoor
theorem facts_mapsRowed : mapsRowed Tryz.prog = true := by kernel_rfl
theorem facts_plainKeys : (Rows.validSizesRow.plainKeys == Tryz.prog.plainKeys) = true := by kernel_rfl
theorem facts_lifted : (Rows.validSizesRow.lifted == Tryz.prog.liftsFinal) = true := by kernel_rfl
theorem facts_make : (Tryz.prog.make == some Rows.validSizesRow.make) = true := by kernel_rfl
end Go.Proofs.YtdfknlhfdbbogaaGreatDoor

namespace Go.Proofs.YtdfknlhfdbbogaaGreatDoor
theorem facts_stopsHeard : Tryz.prog.stopsHeard = true := by kernel_rfl
theorem facts_mayEnter : Tryz.prog.mayEnter = true := by kernel_rfl
end Go.Proofs.YtdfknlhfdbbogaaGreatDoor

namespace Go.Proofs.YtdfknlhfdbbogaaGreatDoor
theorem facts_mainIs : Tryz.pinned.checked.prog.mainIs = some (Rows.validSizesCard.stood.harness.1, Rows.validSizesCard.stood.harness.2.toList) := by kernel_rfl
theorem facts_looks : true = Tryz.pinned.checked.prog.looks [] := by kernel_rfl
end Go.Proofs.YtdfknlhfdbbogaaGreatDoor

namespace Go.Proofs.YtdfknlhfdbbogaaGreatDoor
namespace ValidForms
theorem fact_inPlace : (Rows.validFormsUptoRow.inPlace == Tryz.prog.inPlace 4) = true := by kernel_rfl
theorem fact_unfollowed : (Rows.validFormsUptoRow.unfollowed == Tryz.prog.unfollowed 4) = true := by kernel_rfl
end ValidForms
end Go.Proofs.YtdfknlhfdbbogaaGreatDoor

namespace Go.Proofs.YtdfknlhfdbbogaaGreatDoor
namespace ValidForms
theorem fact_recurses : (Rows.validFormsUptoRow.recurses == Tryz.prog.recurses 4) = true := by kernel_rfl
theorem fact_named : (Rows.validFormsUptoRow.named == Tryz.prog.varsNamed 4) = true := by kernel_rfl
end ValidForms
end Go.Proofs.YtdfknlhfdbbogaaGreatDoor

namespace Go.Proofs.YtdfknlhfdbbogaaGreatDoor
namespace ValidForms
theorem fact_goesBy : false = Rows.validFormsUptoRow.goesBy Tryz.pinned.checked.prog := by kernel_rfl
end ValidForms
end Go.Proofs.YtdfknlhfdbbogaaGreatDoor
