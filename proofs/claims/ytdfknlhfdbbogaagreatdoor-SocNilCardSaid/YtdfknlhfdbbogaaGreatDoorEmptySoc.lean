/-
  soc.New at a tree without properties, nodes and reserves: a machine of one empty bus, without instances. No condition.
-/
import Derived.Test.YtdfknlhfdbbogaaGreatDoorEmpty
namespace Go.Proofs.YtdfknlhfdbbogaaGreatDoor.Bare
open Go.RowKit
set_option linter.unusedSimpArgs false
set_option linter.unusedVariables false

/-- The builder's cells: the tree, the machine, the buses, the devices. -/
abbrev bld (s b : Value) : Obj := .cells #[.int .u32 0, .slice none 0 0, .string ⟨#[]⟩, .slice none 0 0, .slice none 0 0, s, b, .slice none 0 0] 186 (0, 0)
set_option maxHeartbeats 1000000 in
theorem gather_calls (b : Nat) (s : Value) (w : World) (hl : w.heap[b]? = some (bld s (.slice none 0 0))) :
    Calls Tryz.prog 85 #[.pointer (some ⟨b, 0, none⟩)] w fun e w' => e = .returned (.tuple #[]) ∧ ∃ g, w'.heap[b]? = some (bld s (.slice (some ⟨g, 0, none⟩) 1 1)) ∧ w'.heap[g]? = some (.cells #[.slice none 0 0] 79 (0, 0)) ∧ w.heap.size ≤ g ∧ w.grownBy w' (some b) := by
  have hlt := blockLt hl
  have h0 := bcellAt hl 0 rfl
  have h1 := bcellAt hl 1 rfl
  have h2 := bcellAt hl 2 rfl
  have h3 := bcellAt hl 3 rfl
  have h4 := bcellAt hl 4 rfl
  have h6 := bcellAt hl 6 rfl
  have f6 := bfrozenAt hl 6
  have HL := Lib.hid hl
  clear hl
  go_enter Tryz.func85, Tryz.ntmps85
  go_wp2_with (go_at_call 69; refine (all6_calls _).mono ?_; rintro e w1 ⟨g, rfl, hg, hgz, hb⟩; obtain ⟨hc, hf, hz⟩ := bcell hb; have hg0 := bcellAt hg 0 rfl; have hl1 := hz b (by simp; omega); clear hg)
  refine wp_loop_rounds 2 ?_
  rw [rounds_succ]
  go_wp2_with (first | (go_at_call 163; refine (of15_calls _).mono ?_; rintro e w2 ⟨rfl, hb2⟩; obtain ⟨hc2, hf2, hz2⟩ := bcell hb2; have hl2 := hz2 b hl1) | (go_at_call 157; refine (enabled_calls _).mono ?_; rintro e w3 ⟨rfl, hb3⟩; obtain ⟨hc3, hf3, hz3⟩ := bcell hb3; have hl3 := hz3 b hl2))
  rw [rounds_succ]
  go_wp2_with fail
  go_end0
  refine ⟨rfl, w.heap.size, ?_, ?_, Nat.le_refl _, ?_⟩
  · exact bblock (bblock (bblock (bblock_alloc (bsetAt HL.out 6 _) _) hb) hb2) hb3
  · exact bblock (bblock (bblock (blast _ _ _ (by simp [World.setCell])) hb) hb2) hb3
  · exact gtrans (gtrans (gtrans (galloc (gset (gbelow _ (brefl _)) rfl _) _) hb) hb2) hb3
set_option maxHeartbeats 1000000 in
theorem entries22_calls (b : Nat) (s u : Value) (w : World) (hl : w.heap[b]? = some (bld s u)) :
    Calls Tryz.prog 86 #[.pointer (some ⟨b, 0, none⟩), .slice none 0 0] w fun e w' => e = .returned (.slice none 0 0) ∧ Below w.heap.size w w' := by
  have hlt := blockLt hl
  have h0 := bcellAt hl 0 rfl
  have h1 := bcellAt hl 1 rfl
  have h2 := bcellAt hl 2 rfl
  have h3 := bcellAt hl 3 rfl
  have h4 := bcellAt hl 4 rfl
  have HL := Lib.hid hl
  clear hl
  go_enter Tryz.func86, Tryz.ntmps86
  go_wp2_with (go_at_call 155; refine (get_calls _).mono ?_; rintro e w1 ⟨rfl, hb⟩; obtain ⟨hc, hf, hz⟩ := bcell hb)
  refine wp_loop_rounds 1 ?_
  rw [rounds_succ]
  go_wp2_with fail
  go_ret
  exact ⟨rfl, balloc hb _⟩
/-- A fabric of one empty bus. -/
theorem new1_calls (w : World) : Calls Tryz.prog 88 #[.slice none 0 0] w fun e w' => e = .returned (.bool false) ∧ w = w' := by
  go_enter Tryz.func88, Tryz.ntmps88
  go_wp2_with fail
  go_ret
  exact ⟨rfl, rfl⟩
theorem indexFabric_calls (g c : Nat) (hc : 1 ≤ c) (w : World) (h0 : w.cell? ⟨g, 0, none⟩ = some (.slice none 0 0)) :
    Calls Tryz.prog 184 #[.slice (some ⟨g, 0, none⟩) 1 c, .func (.func 88) #[] #[]] w fun e w' => e = .returned (.int .i64 (-1)) ∧ w = w' := by
  go_enter Tryz.func184, Tryz.ntmps184
  go_wp2_with fail
  refine wp_loop_rounds 2 ?_
  rw [rounds_succ]
  go_wp2_with (go_at_call 88; refine (new1_calls _).mono ?_; rintro e w' ⟨rfl, rfl⟩)
  rw [rounds_succ]
  go_wp2_with fail
  go_ret
  exact ⟨rfl, rfl⟩
theorem containsFabric_calls (g c : Nat) (hc : 1 ≤ c) (w : World) (h0 : w.cell? ⟨g, 0, none⟩ = some (.slice none 0 0)) :
    Calls Tryz.prog 87 #[.slice (some ⟨g, 0, none⟩) 1 c, .func (.func 88) #[] #[]] w fun e w' => e = .returned (.bool false) ∧ w = w' := by
  go_enter Tryz.func87, Tryz.ntmps87
  go_wp2_with (go_at_call 184; refine (indexFabric_calls g c hc _ h0).mono ?_; rintro e w' ⟨rfl, rfl⟩)
  go_ret
  exact ⟨rfl, rfl⟩
/-- The machine's cells: its fabric, its devices, their order, the last controller. -/
abbrev soc (f : Value) (last : Int) : Obj := .cells #[f, .slice none 0 0, .slice none 0 0, .int .i64 last] 184 (0, 0)
set_option maxRecDepth 100000 in
set_option maxHeartbeats 1000000 in
theorem wire_calls (b s : Nat) (f u : Value) (l : Int) (w : World) (hl : w.heap[b]? = some (bld (.pointer (some ⟨s, 0, none⟩)) u)) (hs : w.heap[s]? = some (soc f l)) :
    Calls Tryz.prog 89 #[.pointer (some ⟨b, 0, none⟩)] w fun e w' => e = .returned (.tuple #[]) ∧ w'.heap[s]? = some (soc f (-1)) ∧ w.grownBy w' (some s) := by
  have hlt := blockLt hl
  have hls := blockLt hs
  have hbs : b ≠ s := by
    rintro rfl
    rw [hl] at hs
    injection hs with hs
    injection hs with hs
    simp at hs
  have h5 := bcellAt hl 5 rfl
  have h7 := bcellAt hl 7 rfl
  have g1 := bcellAt hs 1 rfl
  have g2 := bcellAt hs 2 rfl
  have g3 := bcellAt hs 3 rfl
  have f3 := bfrozenAt hs 3
  have HL := Lib.hid hl
  have HS := Lib.hid hs
  clear hl hs
  go_enter Tryz.func89, Tryz.ntmps89
  go_wp2_with fail
  refine wp_loop_rounds 1 ?_
  rw [rounds_succ]
  go_wp2_with fail
  refine wp_loop_rounds 1 ?_
  rw [rounds_succ]
  go_wp2_with fail
  go_quiet (fail)
  go_wp2_with fail
  go_end0
  refine ⟨rfl, ?_, ?_⟩
  · exact bblock (bblock_alloc (bsetAt HS.out 3 _) _) (bdrewN (brefl _) _)
  · exact gtrans (galloc (gset (gbelow _ (brefl _)) rfl _) _) (bdrewN (brefl _) _)
theorem settle_calls (s : Nat) (f : Value) (l : Int) (w : World) (hs : w.heap[s]? = some (soc f l)) :
    Calls Tryz.prog 90 #[.pointer (some ⟨s, 0, none⟩)] w fun e w' => e = .returned (.tuple #[]) ∧ w = w' := by
  have hls := blockLt hs
  have g2 := bcellAt hs 2 rfl
  clear hs
  go_enter Tryz.func90, Tryz.ntmps90
  go_wp2_with fail
  refine wp_loop_rounds 1 ?_
  rw [rounds_succ]
  go_wp2_with fail
  go_end0
  exact ⟨rfl, rfl⟩
theorem info187 : (Tryz.prog.info? 187).map (fun i => (i.zero, i.size, i.bytes)) = some (some (.slice none 0 0), 1, 24) := by kernel_rfl
set_option maxRecDepth 100000 in
set_option maxHeartbeats 4000000 in
theorem new_calls (w : World) :
    Calls Tryz.prog 23 #[tr] w fun e w' => ∃ s g c, e = .returned (.tuple #[.pointer (some ⟨s, 0, none⟩), .nilIface]) ∧ w'.heap[s]? = some (soc (.slice (some ⟨g, 0, none⟩) 1 c) (-1)) ∧ 1 ≤ c ∧ w'.cell? ⟨g, 0, none⟩ = some (.slice none 0 0) ∧ w.heap.size ≤ s ∧ Below w.heap.size w w' := by
  obtain ⟨i0, hi0, hz0, hz1, hz2⟩ := info_parts info187
  go_enter Tryz.func23, Tryz.ntmps23
  go_wp2_with (first | (go_at_call 19; refine (validCheck_calls _).mono ?_; rintro e w1 ⟨rfl, hb1⟩; obtain ⟨hc1, hf1, hz1⟩ := bcell hb1; have hl1 := hz1 w.heap.size (by simp)) | (go_at_call 84; refine (clone_calls _).mono ?_; rintro e w2 ⟨rfl, hb2⟩; clear hc1 hf1 hz1) | (go_at_call 85; refine (gather_calls (w2.heap.size + 1) (.pointer (some ⟨w2.heap.size, 0, none⟩)) _ (blast _ _ _ (by simp))).mono ?_; rintro e w3 ⟨rfl, g, hB, hg, hgz, hw3⟩; have hS := gblock (bblock_alloc (blast w2 (.cells #[.slice none 0 0, .slice none 0 0, .slice none 0 0, .int .i64 0] 184) _ rfl) _) hw3 (by simp); have b5 := bcellAt hB 5 rfl; have b6 := bcellAt hB 6 rfl; have s0 := bcellAt hS 0 rfl; have fs0 := bfrozenAt hS 0; have g0 := bcellAt hg 0 rfl; have hltB := blockLt hB; have hltS := blockLt hS; have HB := Lib.hid hB; have HS := Lib.hid hS; have HG := Lib.hid hg; clear hB hS hg))
  refine wp_loop_rounds 2 ?_
  rw [rounds_succ]
  go_upto_block 1 with fail
  go_cut [] (fun wx => ∃ gg cap, wx.heap[w2.heap.size]? = some (soc (.slice (some ⟨gg, 0, none⟩) 1 cap) 0) ∧ 1 ≤ cap ∧ wx.cell? ⟨gg, 0, none⟩ = some (.slice none 0 0) ∧ gg ≠ w2.heap.size ∧ wx.heap[w2.heap.size + 1]? = w3.heap[w2.heap.size + 1]? ∧ w3.grownBy wx (some w2.heap.size))
  case first =>
    go_wp2_with fail
    go_region_law (first | ((refine step_append_lies _ (by rfl) _ _ _ (by rfl) 0 187 i0 _ 1 24 Tryz.underlying102 hi0 hz0 hz1 hz2 rfl (by omega) (.slice none 0 0) 0 [] (by rfl) (by exact World.ownsRow_nil _ _ _ _) ⟨_, 0, none⟩ 1 1 [.slice none 0 0] (by rfl) (by rfl) (by exact World.news_of_block (cs := #[.slice none 0 0]) (t := 187) (fr := (0, 0)) (blast _ _ _ rfl)) (by simp [Value.oneCell']) (by omega) (by unfold maxLen; omega) (by omega) (by omega) _ (by simp; rfl) ?_; intro gg cap w5 hown1 hgrow hat hlt5; have hb5 := ofGrown hgrow rfl; have hS5 := bblock (bblock_alloc (bblock (w := w3.drew) (by exact HS.out) hb4) _) hb5; have fz5 := bfrozenAt hS5 0; have s05 := bcellAt hS5 0 rfl; have hB5 := bblock (bblock_alloc (bblock (w := w3.drew) (by exact HB.out) hb4) _) hb5; have b55 := bcellAt hB5 5 rfl; have lt5 := blockLt hS5; have lt5b := blockLt hB5; have HS5 := Lib.hid hS5; have HB5 := Lib.hid hB5; clear hS5 hB5)) | (go_simp; go_at_call 86; refine (entries22_calls (w2.heap.size + 1) (.pointer (some ⟨w2.heap.size, 0, none⟩)) (.slice (some ⟨g, 0, none⟩) 1 1) _ (by exact HB.out)).mono ?_; rintro e w4 ⟨rfl, hb4⟩; have s04 := bcellAt (bblock (w := w3.drew) (by exact HS.out) hb4) 0 rfl; have b54 := bcellAt (bblock (w := w3.drew) (by exact HB.out) hb4) 5 rfl; have lt4 := blockLt (bblock (w := w3.drew) (by exact HS.out) hb4); have lt4b := blockLt (bblock (w := w3.drew) (by exact HB.out) hb4)))
    all_goals go_wp2_with fail
    all_goals go_meet
    all_goals
      have hgg : gg = w4.heap.size + 1 := by simpa [Value.ownBlock] using hat
      have hne : gg ≠ w2.heap.size := by omega
      have hcap : 1 ≤ cap := by
        rcases hown1.2 with ⟨h, _⟩ | ⟨_, _, _, h, _, _, h1, _⟩
        · cases h
        · injection h with _ _ h
          omega
      refine ⟨gg, cap, bsetAt HS5.out 0 _, hcap, (bcellFar hne _).trans (hown1.cellAt 0 (by omega)), hne, (bsetFar HB5.out (by simp) _).trans HB.out.symm, gset (gbelow _ (bstep (balloc (bstep (bdrew (brefl _)) hb4) _) hb5)) rfl _⟩
  case rest =>
    obtain ⟨gg, cap, hsx, hcap, hgx, hgs, hbx, hwx⟩ := hcut
    have hBx := hbx.trans HB.out
    have b5x := bcellAt hBx 5 rfl
    have b6x := bcellAt hBx 6 rfl
    have s0x := bcellAt hsx 0 rfl
    have hne : w2.heap.size + 1 ≠ w2.heap.size := by omega
    have HBX := Lib.hid hBx
    have HSX := Lib.hid hsx
    have HBE := Lib.hid hbx
    clear hBx hsx hbx b5 b6 s0 fs0 g0
    go_wp2_with fail
    rw [rounds_succ]
    go_wp2_with (first | (go_at_call 87; refine (containsFabric_calls gg cap hcap _ hgx).mono ?_; rintro e w' ⟨rfl, rfl⟩) | (go_at_call 89; refine (wire_calls (w2.heap.size + 1) w2.heap.size _ _ _ _ HBX.out HSX.out).mono ?_; rintro e w6 ⟨rfl, hs6, hw6⟩; have hB6 := gblock HBX.out hw6 (by simp); have b56 := bcellAt hB6 5 rfl; have HB6 := Lib.hid hB6; have HS6 := Lib.hid hs6; clear hB6 hs6) | (go_at_call 90; refine (settle_calls w2.heap.size _ _ _ HS6.out).mono ?_; rintro e w' ⟨rfl, rfl⟩))
    go_ret2
    refine ⟨_, gg, cap, rfl, HS6.out, hcap, hw6.cell hgx ?_, ?_, ?_⟩
    · simpa using hgs
    · have a1 := hb1.size
      have a2 := hb2.size
      rw [World.size_alloc] at a1
      omega
    · have a1 := hb1.size
      have a2 := hb2.size
      rw [World.size_alloc] at a1
      have k3 : Below w.heap.size w w3 := Below.grown (balloc (balloc (bstep (bstep (balloc (brefl w) _) hb1) hb2) _) _) hw3 (by simp; omega) (fun k hk => by injection hk with hk; omega)
      have k4 := k3.grown hwx k3.size (fun k hk => by injection hk with hk; omega)
      exact k4.grown hw6 k4.size (fun k hk => by injection hk with hk; omega)
end Go.Proofs.YtdfknlhfdbbogaaGreatDoor.Bare
