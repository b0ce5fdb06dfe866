/-
  valid: the look behind its pointer; the closures; buses. No condition.
-/
import Derived.Test.YtdfknlhfdbbogaaGreatDoorFuncs
namespace Go.Proofs.YtdfknlhfdbbogaaGreatDoor
open Go.RowKit
set_option linter.unusedSimpArgs false
set_option linter.unusedVariables false
/-- The look behind a pointer: the tree, how many controllers have no line, the lines. -/
def LkB (w : World) (g : Nat) (t : Tr) (c : Int) (vl : Value) : Prop := ∃ A1 c1 A2 c2 A3 c3, w.heap[g]? = some (.cells #[.int .u32 t.boot, .slice A1 t.res.length c1, .string t.root.name, .slice A2 t.root.props.length c2, .slice A3 t.root.kids.length c3, .int .i64 c, vl] 152 (0, 0)) ∧
  TrV w (· < g) (.agg #[.int .u32 t.boot, .slice A1 t.res.length c1, .string t.root.name, .slice A2 t.root.props.length c2, .slice A3 t.root.kids.length c3]) t
theorem LkB.below {w w1 : World} {g : Nat} {t : Tr} {c : Int} {vl : Value} (h : LkB w g t c vl) (hb : Below w.heap.size w w1) : LkB w1 g t c vl := by
  obtain ⟨A1, c1, A2, c2, A3, c3, h1, h2⟩ := h
  exact ⟨A1, c1, A2, c2, A3, c3, bblock h1 hb, h2.below hb⟩
theorem over_walk (x : Ln) (A : Option Addr) (c : Nat) (w : World) : Calls Tryz.prog 313 #[.agg #[.slice A x.1.length c, .int .u32 x.2]] w fun e w' => e = .returned (.bool (decide (32 ≤ x.2))) ∧ Below w.heap.size w w' := by
  obtain ⟨y, hy⟩ : ∃ y, y = x.2 := ⟨_, rfl⟩
  rw [← hy]
  go_enter Tryz.func313, Tryz.ntmps313
  go_wp2_with fail
  all_goals (go_ret; refine ⟨?_, (by repeat (first | assumption | exact Below.refl _ _ | with_reducible refine bset ?_ (by simp) _ | with_reducible refine balloc ?_ _ | with_reducible refine bdrew ?_ | with_reducible refine bdrewN ?_ _ | with_reducible refine bstep ?_ (by assumption)))⟩; show Ending.returned (Value.bool _) = .returned (.bool _); congr 2 <;> (try rw [Bool.eq_iff_iff]) <;> (try simp) <;> (try omega))
theorem beyondB_iff (r : Rng) : beyondB r = true ↔ 0 < r.2.2 ∧ (18446744073709551616 < r.1 + r.2.2 ∨ 18446744073709551616 < r.2.1 + r.2.2) := decide_eq_true_iff
theorem beyond_walk (x : Rng) (h0 : U64 x.1) (h1 : U64 x.2.1) (h2 : U64 x.2.2) (w : World) : Calls Tryz.prog 261 #[.agg #[.int .u64 x.1, .int .u64 x.2.1, .int .u64 x.2.2]] w fun e w' => e = .returned (.bool (beyondB x)) ∧ Below w.heap.size w w' := by
  have hb := beyondB_iff x
  obtain ⟨R, hR⟩ : ∃ R, R = beyondB x := ⟨_, rfl⟩
  rw [← hR] at hb ⊢
  obtain ⟨a, b, c⟩ := x
  simp only at hb h0 h1 h2 ⊢
  obtain ⟨a1, a2⟩ := h0
  obtain ⟨b1, b2⟩ := h1
  obtain ⟨s1, s2⟩ := h2
  have HB := Lib.hid hb
  clear hb hR
  go_enter Tryz.func261, Tryz.ntmps261
  go_wp2_with fail
  all_goals (go_ret; refine ⟨?_, (by repeat (first | assumption | exact Below.refl _ _ | with_reducible refine bset ?_ (by simp) _ | with_reducible refine balloc ?_ _ | with_reducible refine bdrew ?_ | with_reducible refine bdrewN ?_ _ | with_reducible refine bstep ?_ (by assumption)))⟩; show Ending.returned (Value.bool _) = .returned (.bool _); congr 2; rw [Bool.eq_iff_iff, HB.out]; simp; try omega)
theorem meets_walk (a x : Win) (h0 : U64 a.1) (h1 : U64 a.2) (k0 : U64 x.1) (k1 : U64 x.2) (B : Nat) (w : World) (hB : w.heap[B]? = some (.cells #[.int .u64 a.1, .int .u64 a.2] 322 (0, 0))) :
    Calls Tryz.prog 265 #[.agg #[.int .u64 x.1, .int .u64 x.2], .pointer (some ⟨B, 0, none⟩)] w fun e w' => e = .returned (.bool (meetB a x)) ∧ Below w.heap.size w w' := by
  have hm := fun w1 => meet_walk a.1 a.2 x.1 x.2 h0 h1 k0 k1 w1
  have a0 := bcellAt hB 0 rfl
  have a1 := bcellAt hB 1 rfl
  have lb := blockLt hB
  go_enter Tryz.func265, Tryz.ntmps265
  go_wp2_with (first | (go_at_call 266; refine (hm _).mono ?_; clear hm; rintro e w1 ⟨rfl, hb1⟩))
  go_ret
  exact ⟨rfl, (by repeat (first | assumption | exact Below.refl _ _ | with_reducible refine bset ?_ (by simp) _ | with_reducible refine balloc ?_ _ | with_reducible refine bdrew ?_ | with_reducible refine bdrewN ?_ _ | with_reducible refine bstep ?_ (by assumption)))⟩
end Go.Proofs.YtdfknlhfdbbogaaGreatDoor
