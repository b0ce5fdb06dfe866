/-
  prop: One and its kin. No condition.
-/
import Derived.Test.YtdfknlhfdbbogaaGreatDoorWords
namespace Go.Proofs.YtdfknlhfdbbogaaGreatDoor
open Go.RowKit
set_option linter.unusedSimpArgs false
set_option linter.unusedVariables false
/-- The one cell of a node's property: the number, whether there is one, what is wrong. -/
def oneN (n : Nd) (s : ByteArray) : Nat × Bool × Int := match n.find s with
  | none => (0, false, 0)
  | some b => if b.length = 4 then (numN b, true, 0) else (0, false, 4)
theorem one_walk (n : Nd) (hsz : n.size ≤ 1073741824) (s : ByteArray) (w : World) (ok : Nat → Prop) (v : Value) (hv : NdV w ok v n) :
    Calls Tryz.prog 258 #[v, .string s] w fun e w' => e = .returned (.tuple #[.int .u32 (oneN n s).1, .bool (oneN n s).2.1, .int .i64 (oneN n s).2.2]) ∧ Below w.heap.size w w' := by
  obtain ⟨A2, c2, A, c, rfl, hc2, hl2, ha2, hc, hl, ha⟩ := hv.form
  have hfind := fun w1 (h : Below w.heap.size w w1) => find_walk n hsz s w1 ok _ (hv.below h)
  have hfs : ∀ b, n.find s = some b → b.length ≤ 1073741824 := fun b h => by
    have := findP_size h
    have := Nd.size_eq n
    omega
  cases hf : n.find s with
  | none =>
    simp only [hf, Option.isSome_none, Option.getD_none] at hfind
    have ho : oneN n s = (0, false, 0) := by unfold oneN; rw [hf]
    simp only [ho]
    clear hfs hf ho
    go_enter Tryz.func258, Tryz.ntmps258
    go_wp2_with (first
      | (go_at_call 198; refine (hfind _ (by repeat (first | assumption | exact Below.refl _ _ | with_reducible refine bset ?_ (by simp) _ | with_reducible refine balloc ?_ _ | with_reducible refine bdrew ?_ | with_reducible refine bdrewN ?_ _ | with_reducible refine bstep ?_ (by assumption)))).mono ?_; clear hfind; rintro e w1 ⟨v1, rfl, hr1, hb1⟩))
    go_ret3
    exact ⟨rfl, (by repeat (first | assumption | exact Below.refl _ _ | with_reducible refine bset ?_ (by simp) _ | with_reducible refine balloc ?_ _ | with_reducible refine bdrew ?_ | with_reducible refine bdrewN ?_ _ | with_reducible refine bstep ?_ (by assumption)))⟩
  | some b =>
    have hb := hfs b hf
    simp only [hf, Option.isSome_some, Option.getD_some] at hfind
    have ho0 : oneN n s = if b.length = 4 then (numN b, true, 0) else (0, false, 4) := by unfold oneN; rw [hf]
    clear hfs hf
    by_cases h4 : b.length = 4
    · have h1 : cellIn b 0 4 = true := decide_eq_true (by omega)
      have h2 : cellAt b 0 4 = numN b := by
        unfold cellAt
        rw [if_pos (by omega)]
        show numN ((b.drop 0).take 4) = numN b
        rw [List.drop_zero, List.take_of_length_le (by omega)]
      have hg := fun w1 v1 (h : Sl tByte w1 (w1.heap.size ≤ ·) v1 b) => get32_walk b hb 0 (by omega) (by omega) w1 _ v1 h
      rw [if_pos h4] at ho0
      simp only [ho0]
      clear ho0
      go_enter Tryz.func258, Tryz.ntmps258
      go_wp2_with (first
        | (go_at_call 198; refine (hfind _ (by repeat (first | assumption | exact Below.refl _ _ | with_reducible refine bset ?_ (by simp) _ | with_reducible refine balloc ?_ _ | with_reducible refine bdrew ?_ | with_reducible refine bdrewN ?_ _ | with_reducible refine bstep ?_ (by assumption)))).mono ?_; clear hfind; rintro e w1 ⟨v1, rfl, hr1, hb1⟩; have hs1 := hr1.sl; obtain ⟨A5, c5, rfl, hA5⟩ := hr1.form; rw [h4] at hs1; clear hA5)
        | (go_at_call 215; refine (get32_walk b hb 0 (by omega) (by omega) _ _ _ hs1).mono ?_; rw [h1, h2]; clear h1 h2; rintro e w2 ⟨rfl, rfl⟩))
      go_ret3
      exact ⟨rfl, (by repeat (first | assumption | exact Below.refl _ _ | with_reducible refine bset ?_ (by simp) _ | with_reducible refine balloc ?_ _ | with_reducible refine bdrew ?_ | with_reducible refine bdrewN ?_ _ | with_reducible refine bstep ?_ (by assumption)))⟩
    · rw [if_neg h4] at ho0
      simp only [ho0]
      clear ho0
      obtain ⟨x, y, hxy⟩ : ∃ x y, x = cellAt b 0 4 ∧ y = cellIn b 0 4 := ⟨_, _, rfl, rfl⟩
      go_enter Tryz.func258, Tryz.ntmps258
      go_wp2_with (first
        | (go_at_call 198; refine (hfind _ (by repeat (first | assumption | exact Below.refl _ _ | with_reducible refine bset ?_ (by simp) _ | with_reducible refine balloc ?_ _ | with_reducible refine bdrew ?_ | with_reducible refine bdrewN ?_ _ | with_reducible refine bstep ?_ (by assumption)))).mono ?_; clear hfind; rintro e w1 ⟨v1, rfl, hr1, hb1⟩; have hs1 := hr1.sl; obtain ⟨A5, c5, rfl, hA5⟩ := hr1.form; clear hA5)
        | (go_at_call 215; refine (get32_walk b hb 0 (by omega) (by omega) _ _ _ hs1).mono ?_; rw [← hxy.1, ← hxy.2]; clear hxy; rintro e w2 ⟨rfl, rfl⟩))
      all_goals go_ret3
      all_goals exact ⟨rfl, (by repeat (first | assumption | exact Below.refl _ _ | with_reducible refine bset ?_ (by simp) _ | with_reducible refine balloc ?_ _ | with_reducible refine bdrew ?_ | with_reducible refine bdrewN ?_ _ | with_reducible refine bstep ?_ (by assumption)))⟩
end Go.Proofs.YtdfknlhfdbbogaaGreatDoor
