/-
  valid: Of. No condition.
-/
import Derived.Test.YtdfknlhfdbbogaaGreatDoorKind
namespace Go.Proofs.YtdfknlhfdbbogaaGreatDoor
open Go.RowKit
set_option linter.unusedSimpArgs false
set_option linter.unusedVariables false
theorem ofT_walk (t : Tr) (hsz : t.root.size ≤ 536870912) (place : List Int) (w : World) (hw : Wd w) (ok okp : Nat → Prop) (v pv : Value) (hv : TrV w ok v t) (hp : Sl tInt w okp pv place) :
    Calls Tryz.prog 163 #[v, pv] w fun e w' => e = .returned (.tuple #[.int .i64 (ofM t place).1, .int .i64 (ofM t place).2]) ∧ Below w.heap.size w w' := by
  have hget := fun w1 (h : Below w.heap.size w w1) => get_walk t (by omega) place w1 (fun k => ok k ∨ okp k) _ _ ((hv.mono fun k h _ => Or.inl h).below h) ((hp.mono fun k h _ => Or.inr h).below h)
  obtain ⟨A1, c1, A2, c2, A3, c3, rfl, hrl⟩ := hv.form
  obtain ⟨A4, c4, rfl, hc4, hl4, ha4⟩ := hp
  have hns := getN_le t place
  obtain ⟨R, hR⟩ : ∃ R, R = ofM t place := ⟨_, rfl⟩
  rw [← hR]
  unfold ofM at hR
  obtain ⟨n, e0, hg0⟩ : ∃ n e0, getN t place = (n, e0) := ⟨_, _, rfl⟩
  simp only [hg0] at hget hns hR
  clear hg0
  by_cases g1 : e0 = 0
  · subst g1
    rw [if_neg (by simp)] at hR
    have hkd := fun w1 h1 ok1 v1 h2 => kind_walk n (by omega) w1 h1 ok1 v1 h2
    obtain ⟨k1, k2, k3, hk⟩ : ∃ k1 k2 k3, kindM n = (k1, k2, k3) := ⟨_, _, _, rfl⟩
    simp only [hk] at hkd hR
    clear hk
    subst hR
    go_enter Tryz.func163, Tryz.ntmps163
    go_wp2_with (first
      | (go_at_call 155; refine (hget _ (by repeat (first | assumption | exact Below.refl _ _ | with_reducible refine bset ?_ (by simp) _ | with_reducible refine balloc ?_ _ | with_reducible refine bdrew ?_ | with_reducible refine bdrewN ?_ _ | with_reducible refine bstep ?_ (by assumption)))).mono ?_; clear hget; rintro e w1 ⟨v1, rfl, hv1, hb1⟩; obtain ⟨A5, c5, A6, c6, rfl, hA5⟩ := hv1.form; clear hA5; have hbw := bstep (balloc (brefl w) _) hb1)
      | (go_at_call 158; refine (hkd _ (hw.below (balloc hbw _)) _ _ (hv1.below (balloc (brefl _) _))).mono ?_; clear hkd; rintro e w2 ⟨rfl, hb2⟩))
    go_ret2
    exact ⟨rfl, bstep (balloc hbw _) hb2⟩
  · rw [if_pos g1] at hR
    have q4 : (e0 != 0) = true := by rw [bne_iff_ne]; exact g1
    subst hR
    go_enter Tryz.func163, Tryz.ntmps163
    go_wp2_with (first
      | (go_at_call 155; refine (hget _ (by repeat (first | assumption | exact Below.refl _ _ | with_reducible refine bset ?_ (by simp) _ | with_reducible refine balloc ?_ _ | with_reducible refine bdrew ?_ | with_reducible refine bdrewN ?_ _ | with_reducible refine bstep ?_ (by assumption)))).mono ?_; clear hget; rintro e w1 ⟨v1, rfl, hv1, hb1⟩; obtain ⟨A5, c5, A6, c6, rfl, hA5⟩ := hv1.form; clear hA5; have hbw := bstep (balloc (brefl w) _) hb1))
    go_ret2
    exact ⟨rfl, balloc hbw _⟩
end Go.Proofs.YtdfknlhfdbbogaaGreatDoor
