/-
  ValidForms: THE ROW AND ITS CARD: for every input the law returns true. Conditions: as the given row says.
-/
import Derived.Test.YtdfknlhfdbbogaaGreatDoorCards
import Derived.Test.YtdfknlhfdbbogaaGreatDoorTie
import Derived.Test.YtdfknlhfdbbogaaGreatDoorFactsV
import Derived.Test.YtdfknlhfdbbogaaGreatDoorValidFormsRow
import Derived.JoinedCond
import Derived.SevenTiedAt
namespace Go.Proofs.YtdfknlhfdbbogaaGreatDoor
namespace ValidForms
theorem fact_func : Tryz.prog.funcNamed Rows.validFormsUptoRow.func = some 4 := by kernel_rfl
set_option maxRecDepth 100000 in
theorem closed : joinedFacts Tryz.prog 4 Tryz.f4 (Rows.OpenSpec.upto Rows.validFormsSpec).bare Rows.validFormsUptoRow = true := by
  unfold joinedFacts
  simp only [Bool.and_eq_true]
  repeat' (refine And.intro ?_ ?_)
  · kernel_rfl
  · exact facts_laidOut
  · exact facts_mapsRowed
  · kernel_rfl
  · kernel_rfl
  · kernel_rfl
  · kernel_rfl
  · kernel_rfl
  · kernel_rfl
  · exact fact_inPlace
  · exact fact_unfollowed
  · exact fact_recurses
  · exact fact_named
  · kernel_rfl
  · kernel_rfl
  · kernel_rfl
  · kernel_rfl
  · kernel_rfl
  · kernel_rfl
  · kernel_rfl
  · kernel_rfl
  · kernel_rfl
  · exact facts_plainKeys
  · kernel_rfl
  · exact facts_stopsHeard
  · exact facts_mayEnter
  · exact facts_lifted
  · exact facts_make
  · kernel_rfl
  · kernel_rfl
  · kernel_rfl
  · kernel_rfl
theorem said : Rows.ValidFormsUptoSaid :=
  OpenClaim.holds_of_cond 4 Tryz.f4 rfl rfl rfl rfl rfl rfl rfl ⟨rfl, rfl, rfl, rfl, rfl⟩ rfl rfl rfl rfl rfl fact_func Tryz.func4 closed
    (of_decide_eq_true (by kernel_rfl)) (by unfold Func.isWrapper; first | (rw [if_pos (by decide +kernel)]; kernel_rfl) | (rw [if_neg (by decide +kernel)]; exact ⟨rfl, rfl⟩))
    (fun os started H enc _ F => by rw [OpenClaim.pre_eq_preRow]; exact lifted facts_laidOut os started H enc F)
/-- No parameter wants a stand-in; the program's own looks are on. -/
theorem plain (f : FuncId) (fn : Func) (hf : Tryz.pinned.checked.prog.funcNamed Rows.validFormsUptoRow.func = some f) (hfn : Tryz.pinned.checked.prog.funcs[f]? = some fn) :
    true = Tryz.pinned.checked.prog.looks [] ∧ ∀ (j : Nat) t, fn.params[j]? = some t → Tryz.pinned.checked.prog.wantsStandIn t = false := by
  obtain rfl : f = 4 := Option.some.inj (fact_func.symm.trans hf) |>.symm
  obtain rfl : fn = Tryz.f4 := (Option.some.inj (Tryz.func4.symm.trans hfn)).symm
  exact ⟨facts_looks, noStandIn⟩
end ValidForms

open ValidForms in
/-- THE CARD. -/
theorem validFormsUpto_holds : Rows.ValidFormsUptoCardSaid :=
  Claim7.holds_tied_plain_at .later [] _ _ _ _ said (fun _ h => by cases h) (by kernel_rfl) (fun _ h => by cases h) validFormsUpto_row_tie rfl ⟨rfl, rfl⟩ facts_mainIs rfl plain fact_goesBy
#print axioms validFormsUpto_holds
end Go.Proofs.YtdfknlhfdbbogaaGreatDoor
