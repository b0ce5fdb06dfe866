/-
  valid: status. No condition.
-/
import Derived.Test.YtdfknlhfdbbogaaGreatDoorOf
namespace Go.Proofs.YtdfknlhfdbbogaaGreatDoor
open Go.RowKit
set_option linter.unusedSimpArgs false
set_option linter.unusedVariables false
theorem status_walk (n : Nd) (hn : n.size ≤ 1073741824) (w : World) (ok : Nat → Prop) (v : Value) (hv : NdV w ok v n) :
    Calls Tryz.prog 156 #[v] w fun e w' => e = .returned (.tuple #[.bool (statusM n).1, .int .i64 (statusM n).2]) ∧ Below w.heap.size w w' := by
  have hf1 := fun w1 (h : Below w.heap.size w w1) => find_walk n hn statusS w1 ok _ (hv.below h)
  have e1 : statusS = (⟨#[115, 116, 97, 116, 117, 115]⟩ : ByteArray) := rfl
  have hfs : ∀ b, n.find statusS = some b → b.length ≤ 1073741824 := fun b h => by have := findP_size h; have := Nd.size_eq n; omega
  obtain ⟨R, hR⟩ : ∃ R, R = statusM n := ⟨_, rfl⟩
  rw [← hR]
  unfold statusM at hR
  obtain ⟨A5, c5, A6, c6, rfl, hnn⟩ := hv.form
  clear hnn
  cases hf : n.find statusS with
  | none =>
    rw [hf] at hR
    simp only at hR
    simp only [hf, Option.isSome_none, Option.getD_none] at hf1
    rw [e1] at hf1
    clear hf hfs e1
    subst hR
    go_enter Tryz.func156, Tryz.ntmps156
    go_wp2_with (first
      | (go_at_call 198; (refine (hf1 _ (by repeat (first | assumption | exact Below.refl _ _ | with_reducible refine bset ?_ (by simp) _ | with_reducible refine balloc ?_ _ | with_reducible refine bdrew ?_ | with_reducible refine bdrewN ?_ _ | with_reducible refine bstep ?_ (by assumption)))).mono ?_); clear hf1; rintro e w1 ⟨v1, rfl, hr1, hb1⟩; obtain ⟨A7, c7, rfl, hA7⟩ := hr1.form; clear hA7))
    go_ret2
    exact ⟨rfl, (by repeat (first | assumption | exact Below.refl _ _ | with_reducible refine bset ?_ (by simp) _ | with_reducible refine balloc ?_ _ | with_reducible refine bdrew ?_ | with_reducible refine bdrewN ?_ _ | with_reducible refine bstep ?_ (by assumption)))⟩
  | some b =>
    rw [hf] at hR
    simp only at hR
    have hbl := hfs _ hf
    simp only [hf, Option.isSome_some, Option.getD_some] at hf1
    rw [e1] at hf1
    have htx := fun w1 okb bv hbv => text_walk b hbl w1 okb bv hbv
    obtain ⟨s, e2, hte⟩ : ∃ s e2, textM b = (s, e2) := ⟨_, _, rfl⟩
    simp only [hte] at htx hR
    clear hf hfs e1 hte
    have H : ∀ q1 q2, (s.toList == [111, 107, 97, 121]) = q1 → (s.toList == [111, 107]) = q2 → R = (q1 || q2, e2) := fun q1 q2 h1 h2 => by
      rw [hR, ← h1, ← h2]
      congr 1
      rw [Bool.eq_iff_iff, Bool.or_eq_true, decide_eq_true_iff]
      have l1 : okayS.toList = [111, 107, 97, 121] := by kernel_rfl
      have l2 : okS.toList = [111, 107] := by kernel_rfl
      rw [← l1, ← l2]
      constructor
      · rintro (h | h)
        · left; rw [h]; exact beq_self_eq_true _
        · right; rw [h]; exact beq_self_eq_true _
      · rintro (h | h)
        · left; exact seq_true h
        · right; exact seq_true h
    clear hR
    cases q1 : (s.toList == [111, 107, 97, 121]) <;> cases q2 : (s.toList == [111, 107])
    all_goals
      have hfin := H _ _ q1 q2
      clear H
      simp only [Bool.or_false, Bool.or_true, Bool.false_or, Bool.true_or] at hfin
      subst hfin
      go_enter Tryz.func156, Tryz.ntmps156
      go_wp2_with (first
        | (go_at_call 198; (refine (hf1 _ (by repeat (first | assumption | exact Below.refl _ _ | with_reducible refine bset ?_ (by simp) _ | with_reducible refine balloc ?_ _ | with_reducible refine bdrew ?_ | with_reducible refine bdrewN ?_ _ | with_reducible refine bstep ?_ (by assumption)))).mono ?_); clear hf1; rintro e w1 ⟨v1, rfl, hr1, hb1⟩; have hs1 := hr1.sl; have hbw1 := bstep (balloc (brefl w) _) hb1; obtain ⟨A7, c7, rfl, hA7⟩ := hr1.form; clear hA7)
        | (go_at_call 259; (refine (htx _ _ _ hs1).mono ?_); clear htx; rintro e w2 ⟨rfl, hw2⟩; replace hw2 := hw2.symm; subst hw2))
      go_ret2
      exact ⟨rfl, (by repeat (first | assumption | exact Below.refl _ _ | with_reducible refine bset ?_ (by simp) _ | with_reducible refine balloc ?_ _ | with_reducible refine bdrew ?_ | with_reducible refine bdrewN ?_ _ | with_reducible refine bstep ?_ (by assumption)))⟩
end Go.Proofs.YtdfknlhfdbbogaaGreatDoor
