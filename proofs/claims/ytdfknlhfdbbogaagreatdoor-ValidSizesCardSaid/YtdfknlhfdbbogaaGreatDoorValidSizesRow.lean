/-
  arboretlaw15.ValidSizes: for every int k, each kind of device has the size that the document says. Conditions: as the given row says (the package-level variables that the row lists read as laid).
  The walks: valid.Check at the tree whose root's name is "a" (refused by its name), valid.Known, valid.Size; then the row and its tied card.
-/
import Derived.Test.YtdfknlhfdbbogaaGreatDoorRows
import GoSem.ClaimSeven
import Derived.WalkKit
import Derived.WalkSpells
import Derived.WalkLawsBesides
import Derived.WideLaws
import Derived.ProofKit
import Derived.OpenShut
import Derived.Deep.DeepHandedRow
import Derived.Lib.LaidTab
namespace Go.Proofs.YtdfknlhfdbbogaaGreatDoor.ValidSizes
open Go.ChangeShapes Go.WideShapes Go.ChangeAt Go.RowKit
theorem bcell {W w1 : World} (hb : Below W.heap.size W w1) : (∀ b o, b < W.heap.size → w1.cell? ⟨b, o, none⟩ = W.cell? ⟨b, o, none⟩) ∧ (∀ b o, b < W.heap.size → w1.frozen? ⟨b, o, none⟩ = W.frozen? ⟨b, o, none⟩) :=
  ⟨fun b o h => hb.cell (p := ⟨b, o, none⟩) h, fun b o h => hb.frozen (p := ⟨b, o, none⟩) h⟩

set_option maxHeartbeats 400000 in
theorem names_empty (s : ByteArray) (w : World) :
    Calls Tryz.prog 251 #[.agg #[.string s, .slice none 0 0, .slice none 0 0]] w fun e w' => e = .returned (.tuple #[.slice none 0 0, .slice none 0 0]) ∧ Below w.heap.size w w' := by
  go_enter Tryz.func251, Tryz.ntmps251
  go_wp2
  refine wp_loop_rounds 1 ?_
  rw [rounds_succ]
  go_wp2
  refine wp_loop_rounds 1 ?_
  rw [rounds_succ]
  go_wp2
  go_ret2
  exact ⟨rfl, (Below.refl _ _).alloc (Nat.le_refl _) _⟩

set_option maxHeartbeats 400000 in
theorem check_a (s : ByteArray) (w : World) (hs : s.toList.isEmpty = false) :
    Calls Tryz.prog 150 #[.agg #[.string s, .slice none 0 0, .slice none 0 0], .int .i64 1] w fun e w' => e = .returned (.int .i64 5) ∧ Below w.heap.size w w' := by
  go_enter Tryz.func150, Tryz.ntmps150
  go_wp2_with (go_at_call 251; refine (names_empty _ _).mono ?_; rintro e w' ⟨rfl, hb⟩; obtain ⟨hc, hf⟩ := bcell hb)
  go_ret
  exact ⟨rfl, ((Below.refl _ _).alloc (Nat.le_refl _) _).trans (hb.mono (by simp))⟩

set_option maxHeartbeats 400000 in
theorem treeCheck_a (s : ByteArray) (w : World) (hs : s.toList.isEmpty = false) :
    Calls Tryz.prog 67 #[.agg #[.int .u32 0, .slice none 0 0, .string s, .slice none 0 0, .slice none 0 0]] w fun e w' => e = .returned (.int .i64 5) ∧ Below w.heap.size w w' := by
  go_enter Tryz.func67, Tryz.ntmps67
  go_wp2_with (go_at_call 150; refine (check_a _ _ hs).mono ?_; rintro e w' ⟨rfl, hb⟩; obtain ⟨hc, hf⟩ := bcell hb)
  go_ret
  exact ⟨rfl, ((Below.refl _ _).alloc (Nat.le_refl _) _).trans (hb.mono (by simp))⟩

set_option maxHeartbeats 400000 in
theorem validCheck_a (s : ByteArray) (w : World) (hs : s.toList.isEmpty = false) :
    Calls Tryz.prog 19 #[.agg #[.int .u32 0, .slice none 0 0, .string s, .slice none 0 0, .slice none 0 0]] w fun e w' => e = .returned (.iface 36 (.int .i64 5)) ∧ Below w.heap.size w w' := by
  go_enter Tryz.func19, Tryz.ntmps19
  go_wp2_with (go_at_call 67; refine (treeCheck_a _ _ hs).mono ?_; rintro e w' ⟨rfl, hb⟩; obtain ⟨hc, hf⟩ := bcell hb)
  go_ret
  exact ⟨rfl, ((Below.refl _ _).alloc (Nat.le_refl _) _).trans (hb.mono (by simp))⟩

set_option maxHeartbeats 400000 in
theorem known_ctrl (w : World) :
    Calls Tryz.prog 58 #[.string ⟨#[97, 114, 98, 111, 114, 44, 99, 116, 114, 108]⟩] w fun e w' => e = .returned (.int .i64 7) ∧ w' = w := by
  go_enter Tryz.func58, Tryz.ntmps58
  go_wp2
  go_ret
  exact ⟨rfl, rfl⟩

theorem neq_held (w : World) (n : Int) : (binOp .neq 45 (.iface 36 (.int .i64 n)) .nilIface).run Tryz.prog w = .ok (.bool true) w := by kernel_rfl
set_option maxHeartbeats 400000 in
theorem awake15 (w : World) :
    Calls Tryz.prog 13 #[] w fun e w' => e = .returned (.bool true) ∧ Below w.heap.size w w' := by
  have hne := neq_held
  go_enter Tryz.func13, Tryz.ntmps13
  go_wp2_with (first | (go_at_call 19; refine (validCheck_a ⟨#[97]⟩ _ (by kernel_rfl)).mono ?_; rintro e w' ⟨rfl, hb⟩; obtain ⟨hc, hf⟩ := bcell hb) | (go_at_call 58; refine (known_ctrl _).mono ?_; rintro e w' ⟨rfl, rfl⟩))
  go_ret
  exact ⟨rfl, hb⟩

def sizeS (k : Int) : Int := if k = 3 ∨ k = 4 ∨ k = 6 ∨ k = 7 then 16 else if k = 5 then 32 else 0
set_option maxHeartbeats 400000 in
theorem size_calls (k : Int) (w : World) :
    Calls Tryz.prog 14 #[.int .i64 k] w fun e w' => e = .returned (.int .u64 (sizeS k)) ∧ w' = w := by
  go_enter Tryz.func14, Tryz.ntmps14
  go_wp2
  all_goals go_ret
  all_goals refine ⟨?_, rfl⟩
  all_goals (unfold sizeS; simp_all)

set_option maxHeartbeats 400000 in
theorem law (k : Int) (w : World) :
    Calls Tryz.prog 3 #[.int .i64 k] w fun e w' => e = .returned (.bool true) ∧ Below w.heap.size w w' := by
  go_enter Tryz.func3, Tryz.ntmps3
  go_wp2_with (first | (go_at_call 13; refine (awake15 _).mono ?_; rintro e w' ⟨rfl, hb⟩; obtain ⟨hc, hf⟩ := bcell hb) | (go_at_call 14; refine (size_calls _ _).mono ?_; rintro e w' ⟨rfl, rfl⟩))
  all_goals go_ret
  all_goals refine ⟨?_, hb⟩
  all_goals (unfold sizeS; simp_all)

theorem own : ownKnob Tryz.prog.godebug = none := by kernel_rfl

set_option maxRecDepth 100000 in
/-- WHAT THE WALK GIVES, FOR EVERY ARGUMENT AND EVERY WORLD. -/
theorem contract (H : Type) (enc : TypeId × Value → H) (W : World) (base : Nat) (args : Array Value) (ds gs : List (DataW H)) (before : List MemPlace)
    (hval : ∀ (j : Nat) t v, Tryz.f3.params[j]? = some t → args[j]? = some v → Value.okWide Tryz.prog W .any base t v)
    (hW : DataW.Whole enc Tryz.prog Tryz.f3.params.toList Rows.validSizesSpec.vars false W args.toList ds gs before) :
    Calls Tryz.prog 3 args W fun e W' => ∃ v, e = .returned v ∧ Rows.validSizesSpec.post enc Tryz.prog Tryz.f3 false true false false W args v W' := by
  have hW' := hW
  obtain ⟨p, q, hA0, hV, rfl, hfz, hnd⟩ := hW
  have hA : DataW.TrodAll enc Tryz.prog W 0 (fun _ => true) true Tryz.f3.params.toList args.toList ds p := hA0
  rw [Tryz.params3] at hA hval
  obtain ⟨v0, vs0, d0, ds0, p0, q0, hargs, rfl, rfl, h0, r0⟩ := trodAll_cons hA
  obtain ⟨rfl, rfl, rfl⟩ := trodAll_nil r0
  obtain rfl : args = #[v0] := by cases args; simp_all
  obtain ⟨rfl, rfl⟩ := trodVars_none hV
  obtain ⟨k, rfl, rfl, rfl, wk⟩ := open_int Tryz.underlying3 (hval 0 3 v0 rfl rfl) h0
  clear hA0
  simp only [List.append_nil] at hW'
  refine (law k W).mono fun e W' ⟨he, hb⟩ => ?_
  subst he
  have e1 : Rows.validSizesSpec.fn H ([.lit (.int .i64 k)] ++ []) = { results := [.lit (.bool true)], args := [.lit (.int .i64 k)] } := rfl
  refine ⟨_, rfl, _, _, _, [], [], [], hW', ?_, ?_, ?_, hb.frame _, fun h => by cases h⟩
  · rw [e1]; exact trodAll_cons_mk (shut_bool Tryz.underlying4 true) trodAll_mk0
  · rw [e1]; exact trodAll_cons_mk (shut_int Tryz.underlying3 wk) trodAll_mk0
  · rw [e1]; rfl

/-- A WORLD FOR THE WITNESS: the settled one, the listed tables holding what their text lays. -/
def relay (c : Array Value) : Obj → Obj
  | .cells _ t frozen => .cells c t frozen
  | o => o
noncomputable def laidHeap (h : Array Obj) : Array Obj :=
  let a := h.modify 3 (relay (Pinned.utf8FirstZ.map fun (n : Nat) => Value.int .u8 (n : Int)).toArray)
  a.modify 4 (relay (([128, 191, 160, 191, 128, 159, 144, 191, 128, 143, 0, 0, 0, 0, 0, 0, 0, 0, 0, 0, 0, 0, 0, 0, 0, 0, 0, 0, 0, 0, 0, 0] : List Nat).map fun (n : Nat) => Value.int .u8 (n : Int)).toArray)
noncomputable def laidWorld (os : Os) : World :=
  { World.holding Tryz.prog os ⟨#[], #[], []⟩ with heap := laidHeap (World.holding Tryz.prog os ⟨#[], #[], []⟩).heap }
set_option maxRecDepth 100000 in
theorem laid_met (os : Os) : laidMet Tryz.prog Rows.validSizesRow.laid ((laidWorld os).forCall (fun _ _ => 0) ⟨#[], #[.int .i64 0], []⟩).memory :=
  laidMet_of_run' 8 (by kernel_rfl) (by kernel_rfl)
theorem reads (os : Os) {H : Type} (enc : TypeId × Value → H) : ∃ places, DataW.whole enc Tryz.prog ((laidWorld os).forCall (fun _ _ => 0) ⟨#[], #[.int .i64 0], []⟩).memory Tryz.f3.params.toList Rows.validSizesSpec.vars false #[Value.int .i64 0].toList 8 = some ([.lit (.int .i64 0)], [], places) :=
  ⟨[], by kernel_rfl⟩

set_option maxRecDepth 100000 in
/-- THE ROW's STEP. -/
theorem lifted (os : Os) (started : os.Started) (H : Type) (enc : TypeId × Value → H) (F : Stop.Interp) :
    ReturnsInHanded {} Tryz.checked os 3 .any ((OpenSpec.ofChange Rows.validSizesSpec).preRow enc Tryz.prog Tryz.f3 Rows.validSizesRow.domain false Rows.validSizesRow.laid) (((OpenSpec.ofChange Rows.validSizesSpec).at F).post enc Tryz.prog Tryz.f3 false true false false) := by
  obtain ⟨places, hx⟩ := reads os enc
  refine returnsInHanded_of_row (C := Tryz.checked) (s := OpenSpec.ofChange Rows.validSizesSpec) own started (by kernel_rfl) Tryz.func3
    (witness_row_at (enc := enc) (C := Tryz.checked) false (laidWorld os) #[.int .i64 0] rfl (by kernel_rfl) (by kernel_rfl) (by kernel_rfl)
      (OpenSpec.preRow_of_cond 8 hx (by kernel_rfl) (fun k hk => by cases hk) (by kernel_rfl) (laid_met os))) ?_
  intro W base args ds gs before hval hW _ _ _ _ _ _
  exact contract H enc W base args ds gs before hval hW

theorem noStandIn : ∀ (j : Nat) t, Tryz.f3.params[j]? = some t → Tryz.pinned.checked.prog.wantsStandIn t = false := fun j t ht => by
  rw [Tryz.params3] at ht
  obtain rfl : t = 3 := by simpa using Array.mem_of_getElem? ht
  exact (show Tryz.prog.wantsStandIn 3 = false by kernel_rfl)
end Go.Proofs.YtdfknlhfdbbogaaGreatDoor.ValidSizes
