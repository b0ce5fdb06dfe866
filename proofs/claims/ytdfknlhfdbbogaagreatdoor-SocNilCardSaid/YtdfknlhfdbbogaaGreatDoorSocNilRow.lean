/-
  arboretlaw22.SocNil: for every at, width and n, a nil machine has nothing, and does nothing. Conditions: as the given row says (the package-level variables that the row lists read as laid).
  The walks: soc.New at the empty tree and a read that finds nobody; each method at a nil machine; then the row's step.
-/
import Derived.Test.YtdfknlhfdbbogaaGreatDoorRows
import GoSem.ClaimSeven
import Derived.ProofKit
import Derived.OpenShut
import Derived.Deep.DeepHandedRow
import Derived.Lib.LaidTab
import Derived.Test.YtdfknlhfdbbogaaGreatDoorEmptySoc
namespace Go.Proofs.YtdfknlhfdbbogaaGreatDoor.SocNil
open Go.ChangeShapes Go.WideShapes Go.ChangeAt Go.RowKit Bare
set_option linter.unusedSimpArgs false
set_option linter.unusedVariables false

theorem rightBus_calls (g c : Nat) (hc : 1 ≤ c) (w : World) (h0 : w.cell? ⟨g, 0, none⟩ = some (.slice none 0 0)) :
    Calls Tryz.prog 296 #[.slice (some ⟨g, 0, none⟩) 1 c, .int .i64 0] w fun e w' => e = .returned (.bool true) ∧ w = w' := by
  go_enter Tryz.func296, Tryz.ntmps296
  go_wp2_with fail
  refine wp_loop_rounds 1 ?_
  rw [rounds_succ]
  go_wp2_with fail
  go_ret
  exact ⟨rfl, rfl⟩
theorem right_calls (g c : Nat) (hc : 1 ≤ c) (w : World) (h0 : w.cell? ⟨g, 0, none⟩ = some (.slice none 0 0)) :
    Calls Tryz.prog 209 #[.slice (some ⟨g, 0, none⟩) 1 c] w fun e w' => e = .returned (.bool true) ∧ w = w' := by
  go_enter Tryz.func209, Tryz.ntmps209
  go_wp2_with fail
  refine wp_loop_rounds 2 ?_
  rw [rounds_succ]
  go_wp2_with (go_at_call 296; refine (rightBus_calls g c hc _ h0).mono ?_; rintro e w' ⟨rfl, rfl⟩)
  rw [rounds_succ]
  go_wp2_with fail
  go_ret
  exact ⟨rfl, rfl⟩
theorem indexBus_calls (f : Value) (w : World) :
    Calls Tryz.prog 210 #[.slice none 0 0, f] w fun e w' => e = .returned (.int .i64 (-1)) ∧ w = w' := by
  go_enter Tryz.func210, Tryz.ntmps210
  go_wp2
  refine wp_loop_rounds 1 ?_
  rw [rounds_succ]
  go_wp2
  go_ret
  exact ⟨rfl, rfl⟩
set_option maxHeartbeats 1000000 in
theorem decode_calls (g c : Nat) (hc : 1 ≤ c) (w : World) (h0 : w.cell? ⟨g, 0, none⟩ = some (.slice none 0 0)) :
    Calls Tryz.prog 109 #[.slice (some ⟨g, 0, none⟩) 1 c, .int .u64 0, .int .i64 4] w fun e w' => e = .returned (.tuple #[.agg #[.int .i64 0, .int .u64 0, .int .i64 0], .int .i64 17]) ∧ Below w.heap.size w w' := by
  have hg : g < w.heap.size := World.block_lt_of_cell? w _ h0
  have hg1 : g < w.heap.size + 1 := by omega
  have hg2 : g < w.heap.size + 1 + 1 := by omega
  go_enter Tryz.func109, Tryz.ntmps109
  go_wp2_with (go_at_call 209; refine (right_calls g c hc _ (by exact bkeep (balloc (balloc (balloc (brefl w) _) _) _) h0)).mono ?_; rintro e w' ⟨rfl, rfl⟩)
  refine wp_loop_rounds 1 ?_
  rw [rounds_succ]
  go_wp2_with (go_at_call 210; refine (indexBus_calls _ _).mono ?_; rintro e w' ⟨rfl, rfl⟩)
  exact bodyPost_ret (v := .tuple #[.agg #[.int .i64 0, .int .u64 0, .int .i64 0], .int .i64 17]) (by simp [results, Tryz.results109, go_sem]) rfl ⟨rfl, by repeat (first | exact Below.refl _ _ | with_reducible refine bset ?_ (by simp) _ | with_reducible refine balloc ?_ _ | with_reducible refine bdrew ?_ | with_reducible refine bstep ?_ (by assumption))⟩
set_option maxHeartbeats 1000000 in
theorem where_calls (s g c : Nat) (hc : 1 ≤ c) (l : Int) (w : World) (hs : w.heap[s]? = some (soc (.slice (some ⟨g, 0, none⟩) 1 c) l)) (h0 : w.cell? ⟨g, 0, none⟩ = some (.slice none 0 0)) :
    Calls Tryz.prog 33 #[.pointer (some ⟨s, 0, none⟩), .int .u64 0, .int .i64 4] w fun e w' => e = .returned (.tuple #[.int .i64 0, .int .u64 0, .int .i64 17]) ∧ Below w.heap.size w w' := by
  have s0 := bcellAt hs 0 rfl
  have HS := Lib.hid hs
  clear hs
  go_enter Tryz.func33, Tryz.ntmps33
  go_wp2_with (go_at_call 109; refine (decode_calls g c hc _ h0).mono ?_; rintro e w1 ⟨rfl, hb⟩; obtain ⟨hc1, hf1, hz1⟩ := bcell hb)
  go_quiet (fail)
  go_wp2_with fail
  go_ret3
  exact ⟨rfl, bdrewN (balloc hb _) _⟩
theorem load_calls (s g c : Nat) (hc : 1 ≤ c) (l : Int) (w : World) (hs : w.heap[s]? = some (soc (.slice (some ⟨g, 0, none⟩) 1 c) l)) (h0 : w.cell? ⟨g, 0, none⟩ = some (.slice none 0 0)) :
    Calls Tryz.prog 40 #[.pointer (some ⟨s, 0, none⟩), .int .u64 0, .int .i64 4] w fun e w' => e = .returned (.tuple #[.int .u64 0, .int .i64 17]) ∧ Below w.heap.size w w' := by
  have HS := Lib.hid hs
  clear hs
  go_enter Tryz.func40, Tryz.ntmps40
  go_wp2_with (go_at_call 33; refine (where_calls s g c hc l _ HS.out h0).mono ?_; rintro e w1 ⟨rfl, hb⟩; obtain ⟨hc1, hf1, hz1⟩ := bcell hb)
  go_ret2
  exact ⟨rfl, hb⟩
theorem ptrNe (t : TypeId) (a : Addr) (w : World) : (binOp .eql 48 (.pointer (some a)) (.pointer none)).run Tryz.prog w = .ok (.bool false) w := by kernel_rfl
theorem awake_calls (w : World) : Calls Tryz.prog 31 #[] w fun e w' => e = .returned (.bool true) ∧ Below w.heap.size w w' := by
  go_enter Tryz.func31, Tryz.ntmps31
  go_wp2_with (first | (go_at_call 23; refine (new_calls _).mono ?_; rintro e w1 ⟨s, g, c, rfl, hs, hc, h0, hz, hb⟩; have HS := Lib.hid hs; clear hs) | (go_at_call 40; refine (load_calls s g c hc _ _ HS.out h0).mono ?_; rintro e w2 ⟨rfl, hb2⟩; obtain ⟨hc1, hf1, hz1⟩ := bcell hb2))
  go_ret
  exact ⟨rfl, bstep hb hb2⟩
/-! ### A nil machine -/
theorem nTick (w : World) : Calls Tryz.prog 39 #[.pointer none] w fun e w' => e = .returned (.tuple #[]) ∧ w = w' := by
  go_enter Tryz.func39, Tryz.ntmps39
  go_wp2_with fail
  exact bodyPost_ret (results_none rfl _ _ _) rfl ⟨rfl, rfl⟩
theorem nWhere (a : Int) (k : Int) (w : World) : Calls Tryz.prog 33 #[.pointer none, .int .u64 a, .int .i64 k] w fun e w' => e = .returned (.tuple #[.int .i64 0, .int .u64 0, .int .i64 1]) ∧ w = w' := by
  go_enter Tryz.func33, Tryz.ntmps33
  go_wp2_with fail
  go_ret3
  exact ⟨rfl, rfl⟩
theorem nLoad (a : Int) (k : Int) (w : World) : Calls Tryz.prog 40 #[.pointer none, .int .u64 a, .int .i64 k] w fun e w' => e = .returned (.tuple #[.int .u64 0, .int .i64 1]) ∧ w = w' := by
  go_enter Tryz.func40, Tryz.ntmps40
  go_wp2_with (go_at_call 33; refine (nWhere _ _ _).mono ?_; rintro e w' ⟨rfl, rfl⟩)
  go_ret2
  exact ⟨rfl, rfl⟩
theorem nStore (a : Int) (k v : Int) (w : World) : Calls Tryz.prog 41 #[.pointer none, .int .u64 a, .int .i64 k, .int .u64 v] w fun e w' => e = .returned (.int .i64 1) ∧ w = w' := by
  go_enter Tryz.func41, Tryz.ntmps41
  go_wp2_with (go_at_call 33; refine (nWhere _ _ _).mono ?_; rintro e w' ⟨rfl, rfl⟩)
  go_ret
  exact ⟨rfl, rfl⟩
theorem nOf (n k : Int) (w : World) : Calls Tryz.prog 120 #[.pointer none, .int .i64 n, .int .i64 k] w fun e w' => e = .returned (.pointer none) ∧ w = w' := by
  go_enter Tryz.func120, Tryz.ntmps120
  go_wp2_with fail
  go_ret
  exact ⟨rfl, rfl⟩
theorem nCome (n b : Int) (w : World) : Calls Tryz.prog 42 #[.pointer none, .int .i64 n, .int .u8 b] w fun e w' => e = .returned (.int .i64 1) ∧ w = w' := by
  go_enter Tryz.func42, Tryz.ntmps42
  go_wp2_with (go_at_call 120; refine (nOf _ _ _).mono ?_; rintro e w' ⟨rfl, rfl⟩)
  go_ret
  exact ⟨rfl, rfl⟩
theorem nPin (n p : Int) (h : Bool) (w : World) : Calls Tryz.prog 43 #[.pointer none, .int .i64 n, .int .i64 p, .bool h] w fun e w' => e = .returned (.int .i64 1) ∧ w = w' := by
  go_enter Tryz.func43, Tryz.ntmps43
  go_wp2_with (go_at_call 120; refine (nOf _ _ _).mono ?_; rintro e w' ⟨rfl, rfl⟩)
  go_ret
  exact ⟨rfl, rfl⟩
theorem nSent (n : Int) (w : World) : Calls Tryz.prog 44 #[.pointer none, .int .i64 n] w fun e w' => e = .returned (.slice none 0 0) ∧ w = w' := by
  go_enter Tryz.func44, Tryz.ntmps44
  go_wp2_with (go_at_call 120; refine (nOf _ _ _).mono ?_; rintro e w' ⟨rfl, rfl⟩)
  go_ret
  exact ⟨rfl, rfl⟩
theorem nOutside (n : Int) (w : World) : Calls Tryz.prog 45 #[.pointer none, .int .i64 n] w fun e w' => e = .returned (.int .u32 0) ∧ w = w' := by
  go_enter Tryz.func45, Tryz.ntmps45
  go_wp2_with (go_at_call 120; refine (nOf _ _ _).mono ?_; rintro e w' ⟨rfl, rfl⟩)
  go_ret
  exact ⟨rfl, rfl⟩
theorem nHigh (w : World) : Calls Tryz.prog 46 #[.pointer none] w fun e w' => e = .returned (.bool false) ∧ Below w.heap.size w w' := by
  go_enter Tryz.func46, Tryz.ntmps46
  go_wp2_with fail
  go_quiet (fail)
  go_wp2_with fail
  go_ret
  exact ⟨rfl, bdrewN (brefl _) _⟩
theorem nLine (n : Int) (w : World) : Calls Tryz.prog 47 #[.pointer none, .int .i64 n] w fun e w' => e = .returned (.bool false) ∧ Below w.heap.size w w' := by
  go_enter Tryz.func47, Tryz.ntmps47
  go_wp2_with fail
  go_ret
  exact ⟨rfl, brefl _⟩
theorem nAll (w : World) : Calls Tryz.prog 48 #[.pointer none] w fun e w' => e = .returned (.slice none 0 0) ∧ w = w' := by
  go_enter Tryz.func48, Tryz.ntmps48
  go_wp2_with fail
  go_ret
  exact ⟨rfl, rfl⟩
theorem nFabric (w : World) : Calls Tryz.prog 49 #[.pointer none] w fun e w' => e = .returned (.slice none 0 0) ∧ w = w' := by
  go_enter Tryz.func49, Tryz.ntmps49
  go_wp2_with fail
  go_ret
  exact ⟨rfl, rfl⟩
set_option maxRecDepth 100000 in
set_option maxHeartbeats 1000000 in
theorem law (a k n : Int) (w : World) : Calls Tryz.prog 10 #[.int .u64 a, .int .i64 k, .int .i64 n] w fun e w' => e = .returned (.bool true) ∧ Below w.heap.size w w' := by
  go_enter Tryz.func10, Tryz.ntmps10
  go_wp2_with (first | (go_at_call 31; refine (awake_calls _).mono ?_; rintro e w1 ⟨rfl, hb1⟩) | (go_at_call 39; refine (nTick _).mono ?_; rintro e w' ⟨rfl, rfl⟩) | (go_at_call 33; refine (nWhere _ _ _).mono ?_; rintro e w' ⟨rfl, rfl⟩) | (go_at_call 40; refine (nLoad _ _ _).mono ?_; rintro e w' ⟨rfl, rfl⟩) | (go_at_call 41; refine (nStore _ _ _ _).mono ?_; rintro e w' ⟨rfl, rfl⟩) | (go_at_call 42; refine (nCome _ _ _).mono ?_; rintro e w' ⟨rfl, rfl⟩) | (go_at_call 43; refine (nPin _ _ _ _).mono ?_; rintro e w' ⟨rfl, rfl⟩) | (go_at_call 44; refine (nSent _ _).mono ?_; rintro e w' ⟨rfl, rfl⟩) | (go_at_call 45; refine (nOutside _ _).mono ?_; rintro e w' ⟨rfl, rfl⟩) | (go_at_call 46; refine (nHigh _).mono ?_; rintro e w2 ⟨rfl, hb2⟩) | (go_at_call 47; refine (nLine _ _).mono ?_; rintro e w3 ⟨rfl, hb3⟩) | (go_at_call 48; refine (nAll _).mono ?_; rintro e w' ⟨rfl, rfl⟩) | (go_at_call 49; refine (nFabric _).mono ?_; rintro e w' ⟨rfl, rfl⟩))
  go_ret
  exact ⟨rfl, bstep (bstep hb1 hb2) hb3⟩

theorem own : ownKnob Tryz.prog.godebug = none := by kernel_rfl

set_option maxRecDepth 100000 in
/-- WHAT THE WALK GIVES, FOR EVERY ARGUMENT AND EVERY WORLD. -/
theorem contract (H : Type) (enc : TypeId × Value → H) (W : World) (base : Nat) (args : Array Value) (ds gs : List (DataW H)) (before : List MemPlace)
    (hval : ∀ (j : Nat) t v, Tryz.f10.params[j]? = some t → args[j]? = some v → Value.okWide Tryz.prog W .any base t v)
    (hW : DataW.Whole enc Tryz.prog Tryz.f10.params.toList Rows.socNilSpec.vars false W args.toList ds gs before) :
    Calls Tryz.prog 10 args W fun e W' => ∃ v, e = .returned v ∧ Rows.socNilSpec.post enc Tryz.prog Tryz.f10 false true false false W args v W' := by
  have hW' := hW
  obtain ⟨p, q, hA0, hV, rfl, hfz, hnd⟩ := hW
  have hA : DataW.TrodAll enc Tryz.prog W 0 (fun _ => true) true Tryz.f10.params.toList args.toList ds p := hA0
  rw [Tryz.params10] at hA hval
  obtain ⟨v0, v1, v2, d0, d1, d2, p0, p1, p2, rfl, rfl, rfl, h0, h1, h2⟩ := trodAll_three hA
  obtain ⟨rfl, rfl⟩ := trodVars_none hV
  obtain ⟨a, rfl, rfl, rfl, wa⟩ := open_int Tryz.underlying23 (hval 0 23 v0 rfl rfl) h0
  obtain ⟨k, rfl, rfl, rfl, wk⟩ := open_int Tryz.underlying3 (hval 1 3 v1 rfl rfl) h1
  obtain ⟨n, rfl, rfl, rfl, wn⟩ := open_int Tryz.underlying3 (hval 2 3 v2 rfl rfl) h2
  clear hA0
  simp only [List.append_nil] at hW'
  refine (law a k n W).mono fun e W' ⟨he, hb⟩ => ?_
  subst he
  have e1 : Rows.socNilSpec.fn H ([.lit (.int .u64 a), .lit (.int .i64 k), .lit (.int .i64 n)] ++ []) = { results := [.lit (.bool true)], args := [.lit (.int .u64 a), .lit (.int .i64 k), .lit (.int .i64 n)] } := rfl
  refine ⟨_, rfl, _, _, _, [], [], [], hW', ?_, ?_, ?_, hb.frame _, fun h => by cases h⟩
  · rw [e1]; exact trodAll_cons_mk (shut_bool Tryz.underlying4 true) trodAll_mk0
  · rw [e1]; exact trodAll_cons_mk (shut_int Tryz.underlying23 wa) (trodAll_cons_mk (shut_int Tryz.underlying3 wk) (trodAll_cons_mk (shut_int Tryz.underlying3 wn) trodAll_mk0))
  · rw [e1]; rfl

/-- A WORLD FOR THE WITNESS: the settled one, the listed tables holding what their text lays. -/
def relay (c : Array Value) : Obj → Obj
  | .cells _ t frozen => .cells c t frozen
  | o => o
def bytesV (l : List Nat) : Array Value := (l.map fun (n : Nat) => Value.int .u8 (n : Int)).toArray
noncomputable def laidHeap (h : Array Obj) : Array Obj :=
  let a := h.modify 3 (relay (bytesV Pinned.utf8FirstZ))
  let b := a.modify 4 (relay (bytesV [128, 191, 160, 191, 128, 159, 144, 191, 128, 143, 0, 0, 0, 0, 0, 0, 0, 0, 0, 0, 0, 0, 0, 0, 0, 0, 0, 0, 0, 0, 0, 0]))
  b.modify 1 (relay (bytesV [0, 1, 28, 2, 29, 14, 24, 3, 30, 22, 20, 15, 25, 17, 4, 8, 31, 27, 13, 23, 21, 19, 16, 7, 26, 12, 18, 6, 11, 5, 10, 9]))
noncomputable def laidWorld (os : Os) : World :=
  { World.holding Tryz.prog os ⟨#[], #[], []⟩ with heap := laidHeap (World.holding Tryz.prog os ⟨#[], #[], []⟩).heap }
abbrev wargs : Array Value := #[.int .u64 0, .int .i64 0, .int .i64 0]
set_option maxRecDepth 100000 in
theorem laid_met (os : Os) : laidMet Tryz.prog Rows.socNilRow.laid ((laidWorld os).forCall (fun _ _ => 0) ⟨#[], wargs, []⟩).memory :=
  laidMet_of_run' 8 (by kernel_rfl) (by kernel_rfl)
theorem reads (os : Os) {H : Type} (enc : TypeId × Value → H) : ∃ places, DataW.whole enc Tryz.prog ((laidWorld os).forCall (fun _ _ => 0) ⟨#[], wargs, []⟩).memory Tryz.f10.params.toList Rows.socNilSpec.vars false wargs.toList 8 = some ([.lit (.int .u64 0), .lit (.int .i64 0), .lit (.int .i64 0)], [], places) :=
  ⟨[], by kernel_rfl⟩

set_option maxRecDepth 100000 in
/-- THE ROW's STEP. -/
theorem lifted (os : Os) (started : os.Started) (H : Type) (enc : TypeId × Value → H) (F : Stop.Interp) :
    ReturnsInHanded {} Tryz.checked os 10 .any ((OpenSpec.ofChange Rows.socNilSpec).preRow enc Tryz.prog Tryz.f10 Rows.socNilRow.domain false Rows.socNilRow.laid) (((OpenSpec.ofChange Rows.socNilSpec).at F).post enc Tryz.prog Tryz.f10 false true false false) := by
  obtain ⟨places, hx⟩ := reads os enc
  refine returnsInHanded_of_row (C := Tryz.checked) (s := OpenSpec.ofChange Rows.socNilSpec) own started (by kernel_rfl) Tryz.func10
    (witness_row_at (enc := enc) (C := Tryz.checked) false (laidWorld os) wargs rfl (by kernel_rfl) (by kernel_rfl) (by kernel_rfl)
      (OpenSpec.preRow_of_cond 8 hx (by kernel_rfl) (fun k hk => by cases hk) (by kernel_rfl) (laid_met os))) ?_
  intro W base args ds gs before hval hW _ _ _ _ _ _
  exact contract H enc W base args ds gs before hval hW
theorem noStandIn : ∀ (j : Nat) t, Tryz.f10.params[j]? = some t → Tryz.pinned.checked.prog.wantsStandIn t = false := fun j t ht => by
  rw [Tryz.params10] at ht
  have h := Array.mem_of_getElem? ht
  simp only [List.mem_toArray, List.mem_cons, List.mem_nil_iff, or_false] at h
  rcases h with rfl | rfl | rfl
  · exact (show Tryz.prog.wantsStandIn 23 = false by kernel_rfl)
  · exact (show Tryz.prog.wantsStandIn 3 = false by kernel_rfl)
  · exact (show Tryz.prog.wantsStandIn 3 = false by kernel_rfl)
end Go.Proofs.YtdfknlhfdbbogaaGreatDoor.SocNil
