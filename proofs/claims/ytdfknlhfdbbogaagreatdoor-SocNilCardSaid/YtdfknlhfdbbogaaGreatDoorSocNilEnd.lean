/-
  SocNil: THE ROW AND ITS CARD: for every input the law returns true. Conditions: as the given row says.
-/
import Derived.Test.YtdfknlhfdbbogaaGreatDoorCards
import Derived.Test.YtdfknlhfdbbogaaGreatDoorTie
import Derived.Test.YtdfknlhfdbbogaaGreatDoorFactsA
import Derived.Test.YtdfknlhfdbbogaaGreatDoorFactsB
import Derived.Test.YtdfknlhfdbbogaaGreatDoorFactsC
import Derived.Test.YtdfknlhfdbbogaaGreatDoorFactsD
import Derived.Test.YtdfknlhfdbbogaaGreatDoorSocNilFA
import Derived.Test.YtdfknlhfdbbogaaGreatDoorSocNilFB
import Derived.Test.YtdfknlhfdbbogaaGreatDoorSocNilFC
import Derived.Test.YtdfknlhfdbbogaaGreatDoorSocNilRow
import Derived.JoinedCond
import Derived.SevenTiedAt
namespace Go.Proofs.YtdfknlhfdbbogaaGreatDoor
namespace SocNil
theorem fact_func : Tryz.prog.funcNamed Rows.socNilRow.func = some 10 := by kernel_rfl
set_option maxRecDepth 100000 in
theorem closed : joinedFacts Tryz.prog 10 Tryz.f10 (OpenSpec.ofChange Rows.socNilSpec).bare Rows.socNilRow = true := by
  unfold joinedFacts
  simp only [Bool.and_eq_true]
  repeat' (refine And.intro ?_ ?_)
  · kernel_rfl
  · exact facts_laidOut
  · exact facts_mapsRowed
  · kernel_rfl
  · kernel_rfl
  · kernel_rfl
  · kernel_rfl
  · kernel_rfl
  · kernel_rfl
  · exact fact_inPlace
  · exact fact_unfollowed
  · exact fact_recurses
  · exact fact_named
  · kernel_rfl
  · kernel_rfl
  · kernel_rfl
  · kernel_rfl
  · kernel_rfl
  · kernel_rfl
  · kernel_rfl
  · kernel_rfl
  · kernel_rfl
  · exact facts_plainKeys
  · kernel_rfl
  · exact facts_stopsHeard
  · exact facts_mayEnter
  · exact facts_lifted
  · exact facts_make
  · kernel_rfl
  · kernel_rfl
  · kernel_rfl
  · kernel_rfl
theorem said : Rows.SocNilSaid :=
  OpenClaim.holds_of_cond 10 Tryz.f10 rfl rfl rfl rfl rfl rfl rfl ⟨rfl, rfl, rfl, rfl, rfl⟩ rfl rfl rfl rfl rfl fact_func Tryz.func10 closed
    (of_decide_eq_true (by kernel_rfl)) (by unfold Func.isWrapper; first | (rw [if_pos (by decide +kernel)]; kernel_rfl) | (rw [if_neg (by decide +kernel)]; exact ⟨rfl, rfl⟩))
    (fun os started H enc _ F => by rw [OpenClaim.pre_eq_preRow]; exact lifted os started H enc F)
/-- No parameter wants a stand-in; the program's own looks are on. -/
theorem plain (f : FuncId) (fn : Func) (hf : Tryz.pinned.checked.prog.funcNamed Rows.socNilRow.func = some f) (hfn : Tryz.pinned.checked.prog.funcs[f]? = some fn) :
    true = Tryz.pinned.checked.prog.looks [] ∧ ∀ (j : Nat) t, fn.params[j]? = some t → Tryz.pinned.checked.prog.wantsStandIn t = false := by
  obtain rfl : f = 10 := Option.some.inj (fact_func.symm.trans hf) |>.symm
  obtain rfl : fn = Tryz.f10 := (Option.some.inj (Tryz.func10.symm.trans hfn)).symm
  exact ⟨facts_looks, noStandIn⟩
end SocNil

open SocNil in
/-- THE CARD. -/
theorem socNil_holds : Rows.SocNilCardSaid :=
  Claim7.holds_tied_plain_at .later [] _ _ _ _ said (fun _ h => by cases h) (by kernel_rfl) (fun _ h => by cases h) socNil_row_tie rfl ⟨rfl, rfl⟩ facts_mainIs rfl plain fact_goesBy
#print axioms socNil_holds
end Go.Proofs.YtdfknlhfdbbogaaGreatDoor
