/-
  valid.Check, and what it calls, at a tree without properties, nodes and reserves. No condition.
-/
import Derived.Test.YtdfknlhfdbbogaaGreatDoorBase
import Derived.Test.YtdfknlhfdbbogaaGreatDoorShelf
namespace Go.Proofs.YtdfknlhfdbbogaaGreatDoor.Bare
open Go.RowKit
set_option linter.unusedSimpArgs false
set_option linter.unusedVariables false

theorem names_calls (s : ByteArray) (w : World) :
    Calls Tryz.prog 251 #[.agg #[.string s, .slice none 0 0, .slice none 0 0]] w fun e w' => e = .returned (.tuple #[.slice none 0 0, .slice none 0 0]) ∧ Below w.heap.size w w' := by
  go_enter Tryz.func251, Tryz.ntmps251
  go_wp2
  refine wp_loop_rounds 1 ?_
  rw [rounds_succ]
  go_wp2
  refine wp_loop_rounds 1 ?_
  rw [rounds_succ]
  go_wp2
  go_ret2
  exact ⟨rfl, balloc (brefl _) _⟩

theorem indexFunc_calls (f : Value) (w : World) :
    Calls Tryz.prog 308 #[.slice none 0 0, f] w fun e w' => e = .returned (.int .i64 (-1)) ∧ w = w' := by
  go_enter Tryz.func308, Tryz.ntmps308
  go_wp2
  refine wp_loop_rounds 1 ?_
  rw [rounds_succ]
  go_wp2
  go_ret
  exact ⟨rfl, rfl⟩
theorem containsFunc_calls (f : Value) (w : World) :
    Calls Tryz.prog 253 #[.slice none 0 0, f] w fun e w' => e = .returned (.bool false) ∧ w = w' := by
  go_enter Tryz.func253, Tryz.ntmps253
  go_wp2_with (go_at_call 308; refine (indexFunc_calls _ _).mono ?_; rintro e w' ⟨rfl, rfl⟩)
  go_ret
  exact ⟨rfl, rfl⟩

theorem twice_calls (w : World) : Calls Tryz.prog 256 #[.slice none 0 0] w fun e w' => e = .returned (.bool false) ∧ w = w' := by
  go_enter Tryz.func256, Tryz.ntmps256
  go_wp2_with (first | (go_at_call 309; refine (Tryz.slices_Sort_string_none _ _ _).mono ?_; rintro e w' ⟨rfl, rfl⟩) | (go_at_call 310; refine (Tryz.slices_Compact_string_empty _ _ _).mono ?_; rintro e w' ⟨rfl, rfl⟩))
  go_ret
  exact ⟨rfl, rfl⟩
set_option maxHeartbeats 400000 in
theorem check_calls (w : World) :
    Calls Tryz.prog 150 #[.agg #[.string ⟨#[]⟩, .slice none 0 0, .slice none 0 0], .int .i64 1] w fun e w' => e = .returned (.int .i64 0) ∧ Below w.heap.size w w' := by
  go_enter Tryz.func150, Tryz.ntmps150
  go_wp2_with (first | (go_at_call 251; refine (names_calls _ _).mono ?_; rintro e w1 ⟨rfl, hb⟩; obtain ⟨hc, hf, hz⟩ := bcell hb) | (go_at_call 253; refine (containsFunc_calls _ _).mono ?_; rintro e w' ⟨rfl, rfl⟩) | (go_at_call 256; refine (twice_calls _).mono ?_; rintro e w' ⟨rfl, rfl⟩))
  refine wp_loop_rounds 1 ?_
  rw [rounds_succ]
  go_wp2
  go_ret
  exact ⟨rfl, bstep (balloc (brefl _) _) hb⟩
set_option maxHeartbeats 400000 in
theorem count_calls (s : ByteArray) (w : World) :
    Calls Tryz.prog 115 #[.agg #[.string s, .slice none 0 0, .slice none 0 0]] w fun e w' => e = .returned (.tuple #[.int .i64 1, .int .i64 0]) ∧ Below w.heap.size w w' := by
  go_enter Tryz.func115, Tryz.ntmps115
  go_wp2_with fail
  go_quiet (fail)
  go_wp2_with fail
  refine wp_loop_rounds 1 ?_
  rw [rounds_succ]
  go_wp2_with fail
  go_ret2
  exact ⟨rfl, bdrewN (balloc (brefl _) _) _⟩
theorem index_calls (a b : Int) (w : World) :
    Calls Tryz.prog 257 #[.slice none 0 0, .agg #[.int .u64 a, .int .u64 b]] w fun e w' => e = .returned (.int .i64 (-1)) ∧ Below w.heap.size w w' := by
  go_enter Tryz.func257, Tryz.ntmps257
  go_wp2
  refine wp_loop_rounds 1 ?_
  rw [rounds_succ]
  go_wp2
  go_ret
  exact ⟨rfl, balloc (brefl _) _⟩
theorem contains_calls (a b : Int) (w : World) :
    Calls Tryz.prog 151 #[.slice none 0 0, .agg #[.int .u64 a, .int .u64 b]] w fun e w' => e = .returned (.bool false) ∧ Below w.heap.size w w' := by
  go_enter Tryz.func151, Tryz.ntmps151
  go_wp2_with (go_at_call 257; refine (index_calls _ _ _).mono ?_; rintro e w1 ⟨rfl, hb⟩; obtain ⟨hc, hf, hz⟩ := bcell hb)
  go_ret
  exact ⟨rfl, bstep (balloc (brefl _) _) hb⟩
abbrev tr : Value := .agg #[.int .u32 0, .slice none 0 0, .string ⟨#[]⟩, .slice none 0 0, .slice none 0 0]
abbrev nd : Value := .agg #[.string ⟨#[]⟩, .slice none 0 0, .slice none 0 0]
set_option maxHeartbeats 400000 in
theorem treeCheck_calls (w : World) :
    Calls Tryz.prog 67 #[tr] w fun e w' => e = .returned (.int .i64 0) ∧ Below w.heap.size w w' := by
  go_enter Tryz.func67, Tryz.ntmps67
  go_wp2_with (first | (go_at_call 150; refine (check_calls _).mono ?_; rintro e w1 ⟨rfl, hb1⟩; obtain ⟨hc1, hf1, hz1⟩ := bcell hb1) | (go_at_call 115; refine (count_calls _ _).mono ?_; rintro e w2 ⟨rfl, hb2⟩; obtain ⟨hc2, hf2, hz2⟩ := bcell hb2)  | (go_at_call 151; refine (contains_calls _ _ _).mono ?_; rintro e w3 ⟨rfl, hb3⟩; obtain ⟨hc3, hf3, hz3⟩ := bcell hb3))
  go_ret
  exact ⟨rfl, bstep (bstep (bstep (balloc (brefl _) _) hb1) hb2) hb3⟩
theorem find_calls (s k : ByteArray) (w : World) :
    Calls Tryz.prog 198 #[.agg #[.string s, .slice none 0 0, .slice none 0 0], .string k] w fun e w' => e = .returned (.tuple #[.slice none 0 0, .bool false]) ∧ Below w.heap.size w w' := by
  go_enter Tryz.func198, Tryz.ntmps198
  go_wp2
  refine wp_loop_rounds 1 ?_
  rw [rounds_succ]
  go_wp2
  go_ret2
  exact ⟨rfl, balloc (brefl _) _⟩
theorem one_calls (s k : ByteArray) (w : World) :
    Calls Tryz.prog 258 #[.agg #[.string s, .slice none 0 0, .slice none 0 0], .string k] w fun e w' => e = .returned (.tuple #[.int .u32 0, .bool false, .int .i64 0]) ∧ Below w.heap.size w w' := by
  go_enter Tryz.func258, Tryz.ntmps258
  go_wp2_with (go_at_call 198; refine (find_calls _ _ _).mono ?_; rintro e w1 ⟨rfl, hb⟩; obtain ⟨hc, hf, hz⟩ := bcell hb)
  go_ret3
  exact ⟨rfl, bstep (balloc (brefl _) _) hb⟩
theorem of_calls (s : ByteArray) (m : Value) (w : World) :
    Calls Tryz.prog 152 #[.agg #[.string s, .slice none 0 0, .slice none 0 0], .slice none 0 0, .slice none 0 0, m] w fun e w' => e = .returned (.tuple #[.slice none 0 0, .int .i64 0]) ∧ Below w.heap.size w w' := by
  go_enter Tryz.func152, Tryz.ntmps152
  go_wp2_with (go_at_call 258; refine (one_calls _ _ _).mono ?_; rintro e w1 ⟨rfl, hb⟩; obtain ⟨hc, hf, hz⟩ := bcell hb)
  refine wp_loop_rounds 1 ?_
  rw [rounds_succ]
  go_wp2_with fail
  go_ret2
  exact ⟨rfl, bstep (balloc (brefl _) _) hb⟩
theorem index8_calls (w : World) :
    Calls Tryz.prog 68 #[tr] w fun e w' => e = .returned (.tuple #[.slice none 0 0, .int .i64 0]) ∧ Below w.heap.size w w' := by
  have hmm := @run_makeMap Tryz.prog
  go_enter Tryz.func68, Tryz.ntmps68
  go_wp2_with (go_at_call 152; refine (of_calls _ _ _).mono ?_; rintro e w1 ⟨rfl, hb⟩; obtain ⟨hc, hf, hz⟩ := bcell hb)
  go_ret2
  exact ⟨rfl, bstep (balloc (balloc (brefl _) _) _) hb⟩
theorem all_calls (s : ByteArray) (w : World) :
    Calls Tryz.prog 153 #[.agg #[.string s, .slice none 0 0, .slice none 0 0], .slice none 0 0] w fun e w' => ∃ g, e = .returned (.slice (some ⟨g, 0, none⟩) 1 1) ∧ w'.heap[g]? = some (.cells #[.slice none 0 0] 79 (0, 0)) ∧ w.heap.size ≤ g ∧ Below w.heap.size w w' := by
  go_enter Tryz.func153, Tryz.ntmps153
  go_wp2
  refine wp_loop_rounds 1 ?_
  rw [rounds_succ]
  go_wp2_with fail
  go_ret
  exact ⟨_, rfl, blast _ _ _ (by simp), by omega, balloc (balloc (brefl _) _) _⟩
theorem all6_calls (w : World) :
    Calls Tryz.prog 69 #[tr] w fun e w' => ∃ g, e = .returned (.slice (some ⟨g, 0, none⟩) 1 1) ∧ w'.heap[g]? = some (.cells #[.slice none 0 0] 79 (0, 0)) ∧ w.heap.size ≤ g ∧ Below w.heap.size w w' := by
  go_enter Tryz.func69, Tryz.ntmps69
  go_wp2_with (go_at_call 153; refine (all_calls _ _).mono ?_; rintro e w1 ⟨g, rfl, hg, hgz, hb⟩; obtain ⟨hc, hf, hz⟩ := bcell hb)
  go_ret
  exact ⟨_, rfl, hg, by simp at hgz; omega, bstep (balloc (brefl _) _) hb⟩
theorem cloneNode_calls (s : ByteArray) (w : World) :
    Calls Tryz.prog 179 #[.agg #[.string s, .slice none 0 0, .slice none 0 0]] w fun e w' => e = .returned (.agg #[.string s, .slice none 0 0, .slice none 0 0]) ∧ Below w.heap.size w w' := by
  go_enter Tryz.func179, Tryz.ntmps179
  go_wp2
  refine wp_loop_rounds 1 ?_
  rw [rounds_succ]
  go_wp2_with fail
  refine wp_loop_rounds 1 ?_
  rw [rounds_succ]
  go_wp2_with fail
  exact bodyPost_ret (v := .agg #[.string s, .slice none 0 0, .slice none 0 0]) (by simp [results, Tryz.results179, go_sem]) rfl ⟨rfl, balloc (balloc (balloc (brefl _) _) _) _⟩
theorem get_calls (w : World) :
    Calls Tryz.prog 155 #[tr, .slice none 0 0] w fun e w' => e = .returned (.tuple #[nd, .int .i64 0]) ∧ Below w.heap.size w w' := by
  go_enter Tryz.func155, Tryz.ntmps155
  go_wp2_with fail
  refine wp_loop_rounds 1 ?_
  rw [rounds_succ]
  go_wp2_with (go_at_call 179; refine (cloneNode_calls _ _).mono ?_; rintro e w1 ⟨rfl, hb⟩; obtain ⟨hc, hf, hz⟩ := bcell hb)
  exact bodyPost_ret (v := .tuple #[nd, .int .i64 0]) (by simp [results, Tryz.results155, go_sem, hc, hf, hz]) rfl ⟨rfl, bset (bset (bset (bstep (balloc (balloc (balloc (brefl _) _) _) _) hb) (by simp) _) (by simp) _) (by simp) _⟩
theorem status_calls (s : ByteArray) (w : World) :
    Calls Tryz.prog 156 #[.agg #[.string s, .slice none 0 0, .slice none 0 0]] w fun e w' => e = .returned (.tuple #[.bool true, .int .i64 0]) ∧ Below w.heap.size w w' := by
  go_enter Tryz.func156, Tryz.ntmps156
  go_wp2_with (go_at_call 198; refine (find_calls _ _ _).mono ?_; rintro e w1 ⟨rfl, hb⟩; obtain ⟨hc, hf, hz⟩ := bcell hb)
  go_ret2
  exact ⟨rfl, bstep (balloc (brefl _) _) hb⟩
theorem kind_calls (s : ByteArray) (w : World) :
    Calls Tryz.prog 158 #[.agg #[.string s, .slice none 0 0, .slice none 0 0]] w fun e w' => e = .returned (.tuple #[.int .i64 0, .bool false, .int .i64 0]) ∧ Below w.heap.size w w' := by
  go_enter Tryz.func158, Tryz.ntmps158
  go_wp2_with (go_at_call 198; refine (find_calls _ _ _).mono ?_; rintro e w1 ⟨rfl, hb⟩; obtain ⟨hc, hf, hz⟩ := bcell hb)
  go_ret3
  exact ⟨rfl, bstep (balloc (brefl _) _) hb⟩
theorem of15_calls (w : World) :
    Calls Tryz.prog 163 #[tr, .slice none 0 0] w fun e w' => e = .returned (.tuple #[.int .i64 0, .int .i64 0]) ∧ Below w.heap.size w w' := by
  go_enter Tryz.func163, Tryz.ntmps163
  go_wp2_with (first | (go_at_call 155; refine (get_calls _).mono ?_; rintro e w1 ⟨rfl, hb⟩; obtain ⟨hc, hf, hz⟩ := bcell hb) | (go_at_call 158; refine (kind_calls _ _).mono ?_; rintro e w2 ⟨rfl, hb2⟩; obtain ⟨hc2, hf2, hz2⟩ := bcell hb2))
  go_ret2
  exact ⟨rfl, bstep (balloc (bstep (balloc (brefl _) _) hb) _) hb2⟩
theorem enabled_calls (w : World) :
    Calls Tryz.prog 157 #[tr, .slice none 0 0] w fun e w' => e = .returned (.tuple #[.bool true, .int .i64 0]) ∧ Below w.heap.size w w' := by
  go_enter Tryz.func157, Tryz.ntmps157
  go_wp2_with (first | (go_at_call 155; refine (get_calls _).mono ?_; rintro e w1 ⟨rfl, hb⟩; obtain ⟨hc, hf, hz⟩ := bcell hb) | (go_at_call 156; refine (status_calls _ _).mono ?_; rintro e w2 ⟨rfl, hb2⟩; obtain ⟨hc2, hf2, hz2⟩ := bcell hb2))
  refine wp_loop_rounds 1 ?_
  rw [rounds_succ]
  go_wp2_with (first | (go_at_call 156; refine (status_calls _ _).mono ?_; rintro e w2 ⟨rfl, hb2⟩; obtain ⟨hc2, hf2, hz2⟩ := bcell hb2))
  go_ret2
  exact ⟨rfl, bstep (balloc (balloc (bstep (balloc (brefl _) _) hb) _) _) hb2⟩
theorem entries_calls (w : World) :
    Calls Tryz.prog 164 #[tr, .slice none 0 0] w fun e w' => e = .returned (.tuple #[.slice none 0 0, .int .i64 0]) ∧ Below w.heap.size w w' := by
  go_enter Tryz.func164, Tryz.ntmps164
  go_wp2_with (first | (go_at_call 155; refine (get_calls _).mono ?_; rintro e w1 ⟨rfl, hb⟩; obtain ⟨hc, hf, hz⟩ := bcell hb))
  refine wp_loop_rounds 1 ?_
  rw [rounds_succ]
  go_wp2_with fail
  go_ret2
  exact ⟨rfl, balloc (bstep (balloc (brefl _) _) hb) _⟩
theorem overlap_calls (w : World) :
    Calls Tryz.prog 165 #[.slice none 0 0] w fun e w' => e = .returned (.bool false) ∧ Below w.heap.size w w' := by
  go_enter Tryz.func165, Tryz.ntmps165
  go_wp2_with fail
  refine wp_loop_rounds 1 ?_
  rw [rounds_succ]
  go_wp2_with fail
  go_ret
  exact ⟨rfl, brefl _⟩
set_option maxHeartbeats 1000000 in
theorem twice15_calls (b : Nat) (w : World) (hl : w.heap[b]? = some (.cells #[.int .u32 0, .slice none 0 0, .string ⟨#[]⟩, .slice none 0 0, .slice none 0 0, .int .i64 0, .slice none 0 0] 152 (0, 0))) :
    Calls Tryz.prog 166 #[.pointer (some ⟨b, 0, none⟩)] w fun e w' => e = .returned (.slice none 0 0) ∧ w = w' := by
  have h6 := bcellAt hl 6 rfl
  go_enter Tryz.func166, Tryz.ntmps166
  go_wp2_with fail
  refine wp_loop_rounds 1 ?_
  rw [rounds_succ]
  go_wp2_with fail
  go_ret
  exact ⟨rfl, rfl⟩
set_option maxHeartbeats 1000000 in
theorem whole_calls (b : Nat) (w : World) (hl : w.heap[b]? = some (.cells #[.int .u32 0, .slice none 0 0, .string ⟨#[]⟩, .slice none 0 0, .slice none 0 0, .int .i64 0, .slice none 0 0] 152 (0, 0))) :
    Calls Tryz.prog 72 #[.pointer (some ⟨b, 0, none⟩)] w fun e w' => e = .returned .nilIface ∧ Below w.heap.size w w' := by
  have hlt := blockLt hl
  have h0 := bcellAt hl 0 rfl
  have h1 := bcellAt hl 1 rfl
  have h2 := bcellAt hl 2 rfl
  have h3 := bcellAt hl 3 rfl
  have h4 := bcellAt hl 4 rfl
  have h5 := bcellAt hl 5 rfl
  have HL := Lib.hid hl
  clear hl
  go_enter Tryz.func72, Tryz.ntmps72
  go_wp2_with (go_at_call 69; refine (all6_calls _).mono ?_; rintro e w1 ⟨g, rfl, hg, hgz, hb⟩; obtain ⟨hc, hf, hz⟩ := bcell hb; have hg0 := bcellAt hg 0 rfl; have hl1 := hz b hlt; clear hg)
  refine wp_loop_rounds 2 ?_
  rw [rounds_succ]
  go_wp2_with (first | (go_at_call 157; refine (enabled_calls _).mono ?_; rintro e w2 ⟨rfl, hb2⟩; obtain ⟨hc2, hf2, hz2⟩ := bcell hb2; have hl2 := hz2 b hl1) | (go_at_call 163; refine (of15_calls _).mono ?_; rintro e w3 ⟨rfl, hb3⟩; obtain ⟨hc3, hf3, hz3⟩ := bcell hb3; have hl3 := hz3 b hl2) | (go_at_call 164; refine (entries_calls _).mono ?_; rintro e w4 ⟨rfl, hb4⟩; obtain ⟨hc4, hf4, hz4⟩ := bcell hb4; have hl4 := hz4 b hl3)  | (go_at_call 165; refine (overlap_calls _).mono ?_; rintro e w5 ⟨rfl, hb5⟩; obtain ⟨hc5, hf5, hz5⟩ := bcell hb5; have hl5 := hz5 b hl4))
  rw [rounds_succ]
  go_wp2_with (first | (go_at_call 166; refine (twice15_calls b _ (bblock (bblock (bblock (bblock (bblock HL.out hb) hb2) hb3) hb4) hb5)).mono ?_; rintro e w' ⟨rfl, rfl⟩))
  go_ret
  exact ⟨rfl, bstep (bstep (bstep (bstep hb hb2) hb3) hb4) hb5⟩
set_option maxHeartbeats 1000000 in
theorem validCheck_calls (w : World) :
    Calls Tryz.prog 19 #[tr] w fun e w' => e = .returned .nilIface ∧ Below w.heap.size w w' := by
  go_enter Tryz.func19, Tryz.ntmps19
  go_wp2_with (first | (go_at_call 67; refine (treeCheck_calls _).mono ?_; rintro e w1 ⟨rfl, hb1⟩; obtain ⟨hc1, hf1, hz1⟩ := bcell hb1; have hl1 := hz1 w.heap.size (by simp)) | (go_at_call 68; refine (index8_calls _).mono ?_; rintro e w2 ⟨rfl, hb2⟩; obtain ⟨hc2, hf2, hz2⟩ := bcell hb2; have hl2 := hz2 w.heap.size hl1) | (go_at_call 69; refine (all6_calls _).mono ?_; rintro e w3 ⟨g, rfl, hg, hgz, hb3⟩; obtain ⟨hc3, hf3, hz3⟩ := bcell hb3; have hg0 := bcellAt hg 0 rfl; have hl3 := hz3 w2.heap.size (by simp); clear hg))
  refine wp_loop_rounds 2 ?_
  rw [rounds_succ]
  go_wp2_with fail
  rw [rounds_succ]
  go_wp2_with (first | (go_at_call 72; refine (whole_calls w2.heap.size _ (bblock (blast _ _ _ rfl) hb3)).mono ?_; rintro e w4 ⟨rfl, hb4⟩))
  go_ret
  exact ⟨rfl, bstep (bstep (balloc (bstep (bstep (balloc (brefl _) _) hb1) hb2) _) hb3) hb4⟩
theorem cloneReserves_calls (w : World) :
    Calls Tryz.prog 178 #[.slice none 0 0] w fun e w' => e = .returned (.slice none 0 0) ∧ w = w' := by
  have hq := fun w => Lib.run_eql_slice_nil (P := Tryz.prog) w 28 130 none 0 0 0 0 Tryz.underlying28
  go_enter Tryz.func178, Tryz.ntmps178
  go_wp2_with fail
  go_ret
  exact ⟨rfl, rfl⟩
set_option maxHeartbeats 1000000 in
theorem clone_calls (w : World) :
    Calls Tryz.prog 84 #[tr] w fun e w' => e = .returned tr ∧ Below w.heap.size w w' := by
  go_enter Tryz.func84, Tryz.ntmps84
  go_wp2_with fail
  go_region_held3 (fun w' => w'.cell? ⟨w.heap.size, 0, none⟩ = some (.int .u32 0) ∧ w'.cell? ⟨w.heap.size, 1, none⟩ = some (.slice none 0 0) ∧ w'.cell? ⟨w.heap.size, 2, none⟩ = some (.string ⟨#[]⟩) ∧ w'.cell? ⟨w.heap.size, 3, none⟩ = some (.slice none 0 0) ∧ w'.cell? ⟨w.heap.size, 4, none⟩ = some (.slice none 0 0)) (first | go_keep | (go_split_ands; refine ⟨?_, ?_, ?_, ?_, ?_⟩ <;> exact bkeep hb (by first | assumption | simp))) (first | (go_at_call 178; refine (cloneReserves_calls _).mono ?_; rintro e w' ⟨rfl, rfl⟩) | (go_at_call 179; refine (cloneNode_calls _ _).mono ?_; rintro e w1 ⟨rfl, hb⟩; obtain ⟨hc, hf, hz⟩ := bcell hb))
  go_wp2_with fail
  exact bodyPost_ret (v := tr) (by simp [results, Tryz.results84, go_sem, hc]) rfl ⟨rfl, (by repeat (first | exact Below.refl _ _ | with_reducible refine bset ?_ (by simp) _ | with_reducible refine balloc ?_ _ | with_reducible refine bdrew ?_ | with_reducible refine bstep ?_ (by assumption)))⟩
end Go.Proofs.YtdfknlhfdbbogaaGreatDoor.Bare
