/-
  region: cells' counts, windows, Inside, Meet. No condition.
-/
import Derived.Test.YtdfknlhfdbbogaaGreatDoorProps2
namespace Go.Proofs.YtdfknlhfdbbogaaGreatDoor
open Go.RowKit
set_option linter.unusedSimpArgs false
set_option linter.unusedVariables false
/-- Numbers of 64 bits. -/
def U64 (x : Int) : Prop := 0 ≤ x ∧ x ≤ 18446744073709551615
theorem wholeB_iff (a s : Int) : wholeB a s = true ↔ s = 0 ∨ a + s ≤ 18446744073709551616 := decide_eq_true_iff
theorem insideB_iff (a s x z : Int) : insideB (a, s) x z = true ↔ 0 < z ∧ a ≤ x ∧ x + z ≤ a + s ∧ a + s ≤ 18446744073709551616 := decide_eq_true_iff
theorem meetB_iff (a s x z : Int) : meetB (a, s) (x, z) = true ↔ 0 < s ∧ 0 < z ∧ a < x + z ∧ x < a + s := decide_eq_true_iff
theorem whole_walk (a s : Int) (ha : U64 a) (hs : U64 s) (w : World) :
    Calls Tryz.prog 297 #[.agg #[.int .u64 a, .int .u64 s]] w fun e w' => e = .returned (.bool (wholeB a s)) ∧ Below w.heap.size w w' := by
  obtain ⟨a1, a2⟩ := ha
  obtain ⟨s1, s2⟩ := hs
  go_enter Tryz.func297, Tryz.ntmps297
  go_wp2_with fail
  all_goals (go_ret; refine ⟨?_, (by repeat (first | assumption | exact Below.refl _ _ | with_reducible refine bset ?_ (by simp) _ | with_reducible refine balloc ?_ _ | with_reducible refine bdrew ?_ | with_reducible refine bdrewN ?_ _ | with_reducible refine bstep ?_ (by assumption)))⟩; show Ending.returned (Value.bool _) = .returned (.bool _); congr 2; rw [Bool.eq_iff_iff, wholeB_iff]; simp; try omega)
theorem inside_walk (a s x z : Int) (ha : U64 a) (hs : U64 s) (hx : U64 x) (hz : U64 z) (w : World) :
    Calls Tryz.prog 212 #[.agg #[.int .u64 a, .int .u64 s], .int .u64 x, .int .u64 z] w fun e w' => e = .returned (.bool (insideB (a, s) x z)) ∧ Below w.heap.size w w' := by
  have h1 := fun w1 => whole_walk a s ha hs w1
  have h2 := fun w1 => whole_walk x z hx hz w1
  have hd : insideB (a, s) x z = (wholeB a s && wholeB x z && decide (0 < z) && decide (a ≤ x) && decide (x - a < s) && decide (z ≤ s - (x - a))) := by
    obtain ⟨a1, a2⟩ := ha
    obtain ⟨s1, s2⟩ := hs
    obtain ⟨x1, x2⟩ := hx
    obtain ⟨z1, z2⟩ := hz
    rw [Bool.eq_iff_iff]
    simp only [Bool.and_eq_true, decide_eq_true_eq, insideB_iff, wholeB_iff]
    omega
  rw [hd]
  clear hd
  obtain ⟨p, hp⟩ : ∃ p, p = wholeB a s := ⟨_, rfl⟩
  obtain ⟨q, hq⟩ : ∃ q, q = wholeB x z := ⟨_, rfl⟩
  simp only [← hp] at h1 ⊢
  simp only [← hq] at h2 ⊢
  clear hp hq
  obtain ⟨a1, a2⟩ := ha
  obtain ⟨s1, s2⟩ := hs
  obtain ⟨x1, x2⟩ := hx
  obtain ⟨z1, z2⟩ := hz
  cases p <;> cases q
  all_goals
    go_enter Tryz.func212, Tryz.ntmps212
    go_wp2_with (first
      | (go_at_call 297; refine (h1 _).mono ?_; clear h1; rintro e w1 ⟨rfl, hb1⟩; have hbox := bblock (blast w _ _ rfl) hb1; have d0 := bcellAt (v := .int .u64 a) hbox 0 rfl; have d1 := bcellAt (v := .int .u64 s) hbox 1 rfl; have hbw := bstep (balloc (brefl w) _) hb1)
      | (go_at_call 297; refine (h2 _).mono ?_; clear h2; rintro e w2 ⟨rfl, hb2⟩; replace hbox := bblock hbox hb2; replace d0 := bcellAt (v := .int .u64 a) hbox 0 rfl; replace d1 := bcellAt (v := .int .u64 s) hbox 1 rfl; replace hbw := bstep hbw hb2))
  all_goals (go_ret; refine ⟨?_, (by repeat (first | assumption | exact Below.refl _ _ | with_reducible refine bset ?_ (by simp) _ | with_reducible refine balloc ?_ _ | with_reducible refine bdrew ?_ | with_reducible refine bdrewN ?_ _ | with_reducible refine bstep ?_ (by assumption)))⟩; show Ending.returned (Value.bool _) = .returned (.bool _); congr 2; try rw [Bool.eq_iff_iff]; try simp; try omega)
def lastN (a s : Int) : Int := if a + s ≤ 18446744073709551616 then a + s - 1 else 18446744073709551615
theorem last_walk (a s : Int) (ha : U64 a) (hs : U64 s) (h0 : 0 < s) (w : World) :
    Calls Tryz.prog 315 #[.agg #[.int .u64 a, .int .u64 s]] w fun e w' => e = .returned (.int .u64 (lastN a s)) ∧ Below w.heap.size w w' := by
  have h1 := fun w1 => whole_walk a s ha hs w1
  by_cases hw : a + s ≤ 18446744073709551616
  · have hb : wholeB a s = true := (wholeB_iff a s).2 (by omega)
    have hl : lastN a s = a + (s - 1) := by unfold lastN; rw [if_pos hw]; omega
    rw [hl]
    simp only [hb] at h1
    obtain ⟨a1, a2⟩ := ha
    obtain ⟨s1, s2⟩ := hs
    clear hb hl
    go_enter Tryz.func315, Tryz.ntmps315
    go_wp2_with (first
      | (go_at_call 297; refine (h1 _).mono ?_; clear h1; rintro e w1 ⟨rfl, hb1⟩; have hbox := bblock (blast w _ _ rfl) hb1; have d0 := bcellAt (v := .int .u64 a) hbox 0 rfl; have d1 := bcellAt (v := .int .u64 s) hbox 1 rfl; have hbw := bstep (balloc (brefl w) _) hb1))
    go_ret
    exact ⟨rfl, (by repeat (first | assumption | exact Below.refl _ _ | with_reducible refine bset ?_ (by simp) _ | with_reducible refine balloc ?_ _ | with_reducible refine bdrew ?_ | with_reducible refine bdrewN ?_ _ | with_reducible refine bstep ?_ (by assumption)))⟩
  · have hb : wholeB a s = false := by rw [Bool.eq_false_iff, Ne, wholeB_iff]; omega
    have hl : lastN a s = 18446744073709551615 := by unfold lastN; rw [if_neg hw]
    rw [hl]
    simp only [hb] at h1
    clear hb hl
    go_enter Tryz.func315, Tryz.ntmps315
    go_wp2_with (first
      | (go_at_call 297; refine (h1 _).mono ?_; clear h1; rintro e w1 ⟨rfl, hb1⟩))
    go_ret
    exact ⟨rfl, (by repeat (first | assumption | exact Below.refl _ _ | with_reducible refine bset ?_ (by simp) _ | with_reducible refine balloc ?_ _ | with_reducible refine bdrew ?_ | with_reducible refine bdrewN ?_ _ | with_reducible refine bstep ?_ (by assumption)))⟩
theorem lastN_u64 {a s : Int} (ha : U64 a) (hs : U64 s) (h0 : 0 < s) : 0 ≤ lastN a s ∧ lastN a s ≤ 18446744073709551615 := by
  unfold lastN
  obtain ⟨a1, a2⟩ := ha
  obtain ⟨s1, s2⟩ := hs
  split <;> omega
set_option maxHeartbeats 4000000 in
theorem meet_walk (a s x z : Int) (ha : U64 a) (hs : U64 s) (hx : U64 x) (hz : U64 z) (w : World) :
    Calls Tryz.prog 266 #[.agg #[.int .u64 a, .int .u64 s], .agg #[.int .u64 x, .int .u64 z]] w fun e w' => e = .returned (.bool (meetB (a, s) (x, z))) ∧ Below w.heap.size w w' := by
  by_cases h0 : 0 < s ∧ 0 < z
  · obtain ⟨h1, h2⟩ := h0
    have hd : meetB (a, s) (x, z) = (decide (a ≤ lastN x z) && decide (x ≤ lastN a s)) := by
      obtain ⟨a1, a2⟩ := ha
      obtain ⟨s1, s2⟩ := hs
      obtain ⟨x1, x2⟩ := hx
      obtain ⟨z1, z2⟩ := hz
      have e1 : a ≤ lastN x z ↔ a < x + z := by unfold lastN; split <;> omega
      have e2 : x ≤ lastN a s ↔ x < a + s := by unfold lastN; split <;> omega
      rw [Bool.eq_iff_iff, meetB_iff, Bool.and_eq_true, decide_eq_true_eq, decide_eq_true_eq, e1, e2]
      exact ⟨fun h => h.2.2, fun h => ⟨h1, h2, h⟩⟩
    rw [hd]
    have hl1 := fun w1 => last_walk a s ha hs h1 w1
    have hl2 := fun w1 => last_walk x z hx hz h2 w1
    clear hd ha hs hx hz
    obtain ⟨p, hp⟩ : ∃ p, p = lastN a s := ⟨_, rfl⟩
    obtain ⟨q, hq⟩ : ∃ q, q = lastN x z := ⟨_, rfl⟩
    simp only [← hp] at hl1 ⊢
    simp only [← hq] at hl2 ⊢
    clear hp hq
    by_cases h3 : a ≤ q
    · by_cases h4 : x ≤ p
      · go_enter Tryz.func266, Tryz.ntmps266
        go_wp2_with fail
        go_region_held3 (fun w' => w'.cell? ⟨w.heap.size, 0, none⟩ = some (.int .u64 a) ∧ w'.cell? ⟨w.heap.size, 1, none⟩ = some (.int .u64 s) ∧ w'.cell? ⟨w.heap.size + 1, 0, none⟩ = some (.int .u64 x) ∧ w'.cell? ⟨w.heap.size + 1, 1, none⟩ = some (.int .u64 z) ∧ Below w.heap.size w w')
          (first | ((try go_split_ands); refine ⟨?_, ?_, ?_, ?_, ?_⟩ <;> (first | (simp; done) | assumption | (apply bkeep; assumption; first | assumption | (simp; done)) | exact (by repeat (first | assumption | exact Below.refl _ _ | with_reducible refine bset ?_ (by simp) _ | with_reducible refine balloc ?_ _ | with_reducible refine bdrew ?_ | with_reducible refine bdrewN ?_ _ | with_reducible refine bstep ?_ (by assumption))))))
          ((first
            | (go_at_call 315; (with_reducible refine (hl1 _).mono ?_); rintro e w1 ⟨rfl, hb1⟩)
            | (go_at_call 315; (with_reducible refine (hl2 _).mono ?_); rintro e w2 ⟨rfl, hb2⟩)))
        all_goals go_wp2_with fail
        all_goals (go_ret; refine ⟨?_, (by repeat (first | assumption | exact Below.refl _ _ | with_reducible refine bset ?_ (by simp) _ | with_reducible refine balloc ?_ _ | with_reducible refine bdrew ?_ | with_reducible refine bdrewN ?_ _ | with_reducible refine bstep ?_ (by assumption)))⟩; first | rfl | (show Ending.returned (Value.bool _) = .returned (.bool _); congr 2; simp [*]; done))
      · have hd4 : decide (x ≤ p) = false := decide_eq_false h4
        go_enter Tryz.func266, Tryz.ntmps266
        go_wp2_with fail
        go_region_held3 (fun w' => w'.cell? ⟨w.heap.size, 0, none⟩ = some (.int .u64 a) ∧ w'.cell? ⟨w.heap.size, 1, none⟩ = some (.int .u64 s) ∧ w'.cell? ⟨w.heap.size + 1, 0, none⟩ = some (.int .u64 x) ∧ w'.cell? ⟨w.heap.size + 1, 1, none⟩ = some (.int .u64 z) ∧ Below w.heap.size w w')
          (first | ((try go_split_ands); refine ⟨?_, ?_, ?_, ?_, ?_⟩ <;> (first | (simp; done) | assumption | (apply bkeep; assumption; first | assumption | (simp; done)) | exact (by repeat (first | assumption | exact Below.refl _ _ | with_reducible refine bset ?_ (by simp) _ | with_reducible refine balloc ?_ _ | with_reducible refine bdrew ?_ | with_reducible refine bdrewN ?_ _ | with_reducible refine bstep ?_ (by assumption))))))
          ((first
            | (go_at_call 315; (with_reducible refine (hl1 _).mono ?_); rintro e w1 ⟨rfl, hb1⟩)
            | (go_at_call 315; (with_reducible refine (hl2 _).mono ?_); rintro e w2 ⟨rfl, hb2⟩)))
        all_goals go_wp2_with fail
        all_goals (go_ret; refine ⟨?_, (by repeat (first | assumption | exact Below.refl _ _ | with_reducible refine bset ?_ (by simp) _ | with_reducible refine balloc ?_ _ | with_reducible refine bdrew ?_ | with_reducible refine bdrewN ?_ _ | with_reducible refine bstep ?_ (by assumption)))⟩; first | rfl | (show Ending.returned (Value.bool _) = .returned (.bool _); congr 2; simp [*]; done))
    · have hd3 : decide (a ≤ q) = false := decide_eq_false h3
      clear h3
      go_enter Tryz.func266, Tryz.ntmps266
      go_wp2_with fail
      first
        | (go_region_with (first
            | (go_at_call 315; (with_reducible refine (hl2 _).mono ?_); rintro e w1 ⟨rfl, hb1⟩; have e0 := bkeep hb1 (a := ⟨w.heap.size, 0, none⟩) (v := .int .u64 a) (by simp); have e1 := bkeep hb1 (a := ⟨w.heap.size, 1, none⟩) (v := .int .u64 s) (by simp); have e2 := bkeep hb1 (a := ⟨w.heap.size + 1, 0, none⟩) (v := .int .u64 x) (by simp); have e3 := bkeep hb1 (a := ⟨w.heap.size + 1, 1, none⟩) (v := .int .u64 z) (by simp))))
        | fail
      all_goals go_wp2_with fail
      all_goals (go_ret; refine ⟨?_, (by repeat (first | assumption | exact Below.refl _ _ | with_reducible refine bset ?_ (by simp) _ | with_reducible refine balloc ?_ _ | with_reducible refine bdrew ?_ | with_reducible refine bdrewN ?_ _ | with_reducible refine bstep ?_ (by assumption)))⟩; first | rfl | (show Ending.returned (Value.bool _) = .returned (.bool _); congr 2; simp [*]; done))
  · have hd : meetB (a, s) (x, z) = false := by
      rw [Bool.eq_false_iff, Ne, meetB_iff]
      obtain ⟨s1, s2⟩ := hs
      obtain ⟨z1, z2⟩ := hz
      omega
    rw [hd]
    clear hd
    obtain ⟨s1, s2⟩ := hs
    obtain ⟨z1, z2⟩ := hz
    by_cases h1 : 0 < s
    · have h2 : decide (0 < z) = false := decide_eq_false (by omega)
      have h3 : decide (0 < s) = true := decide_eq_true h1
      clear h0
      go_enter Tryz.func266, Tryz.ntmps266
      go_wp2_with fail
      go_quiet (fail)
      go_wp2_with fail
      go_ret
      exact ⟨rfl, (by repeat (first | assumption | exact Below.refl _ _ | with_reducible refine bset ?_ (by simp) _ | with_reducible refine balloc ?_ _ | with_reducible refine bdrew ?_ | with_reducible refine bdrewN ?_ _ | with_reducible refine bstep ?_ (by assumption)))⟩
    · have h3 : decide (0 < s) = false := decide_eq_false (by omega)
      clear h0
      go_enter Tryz.func266, Tryz.ntmps266
      go_wp2_with fail
      go_quiet (fail)
      go_wp2_with fail
      go_ret
      exact ⟨rfl, (by repeat (first | assumption | exact Below.refl _ _ | with_reducible refine bset ?_ (by simp) _ | with_reducible refine balloc ?_ _ | with_reducible refine bdrew ?_ | with_reducible refine bdrewN ?_ _ | with_reducible refine bstep ?_ (by assumption)))⟩
end Go.Proofs.YtdfknlhfdbbogaaGreatDoor
