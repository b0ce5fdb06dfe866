/-
  valid: window. No condition.
-/
import Derived.Test.YtdfknlhfdbbogaaGreatDoorBuses
namespace Go.Proofs.YtdfknlhfdbbogaaGreatDoor
open Go.RowKit
set_option linter.unusedSimpArgs false
set_option linter.unusedVariables false
theorem windowM_err {t : Tr} {place : List Int} {k : Int} (h : (windowsM t place).2 ≠ 0) : windowM t place k = (windowsM t place).2 := by unfold windowM; rw [if_pos h]
theorem windowM_many {t : Tr} {place : List Int} {k : Int} (h : (windowsM t place).2 = 0) (hl : (windowsM t place).1.length ≠ 1) : windowM t place k = 12 := by
  unfold windowM
  rw [if_neg (by simp [h])]
  match hm : (windowsM t place).1 with
  | [] => rfl
  | [x] => rw [hm] at hl; simp at hl
  | _ :: _ :: _ => rfl
theorem windowM_one {t : Tr} {place : List Int} {k : Int} {x : Win} (h : (windowsM t place).2 = 0) (hl : (windowsM t place).1 = [x]) :
    windowM t place k = if (k = 2 ∧ (x.2 < 1 ∨ 65536 < x.2)) ∨ (k ≠ 2 ∧ x.2 ≠ sizeOfK k) then 12 else if insideB x x.1 x.2 = true then 0 else 12 := by
  unfold windowM
  rw [if_neg (by simp [h]), hl]
theorem sizeOfK_u64 (k : Int) : U64 (sizeOfK k) := by
  unfold sizeOfK
  split
  · exact ⟨by decide, by decide⟩
  · split <;> exact ⟨by decide, by decide⟩
theorem sizeK_same (k : Int) (w : World) : Calls Tryz.prog 14 #[.int .i64 k] w fun e w' => e = .returned (.int .u64 (sizeOfK k)) ∧ w' = w := by
  obtain ⟨K, hK⟩ : ∃ K, K = sizeOfK k := ⟨_, rfl⟩
  rw [← hK]
  unfold sizeOfK at hK
  by_cases h3 : k = 3
  · subst h3
    have hf : K = 16 := by rw [hK]; rfl
    clear hK
    subst hf
    go_enter Tryz.func14, Tryz.ntmps14
    go_wp2_with fail
    go_ret
    exact ⟨rfl, rfl⟩
  have q3 : (k == 3) = false := by rw [beq_eq_false_iff_ne]; exact h3
  by_cases h4 : k = 4
  · subst h4
    have hf : K = 16 := by rw [hK]; rfl
    clear hK
    subst hf
    go_enter Tryz.func14, Tryz.ntmps14
    go_wp2_with fail
    go_ret
    exact ⟨rfl, rfl⟩
  have q4 : (k == 4) = false := by rw [beq_eq_false_iff_ne]; exact h4
  by_cases h6 : k = 6
  · subst h6
    have hf : K = 16 := by rw [hK]; rfl
    clear hK
    subst hf
    go_enter Tryz.func14, Tryz.ntmps14
    go_wp2_with fail
    go_ret
    exact ⟨rfl, rfl⟩
  have q6 : (k == 6) = false := by rw [beq_eq_false_iff_ne]; exact h6
  by_cases h7 : k = 7
  · subst h7
    have hf : K = 16 := by rw [hK]; rfl
    clear hK
    subst hf
    go_enter Tryz.func14, Tryz.ntmps14
    go_wp2_with fail
    go_ret
    exact ⟨rfl, rfl⟩
  have q7 : (k == 7) = false := by rw [beq_eq_false_iff_ne]; exact h7
  by_cases h5 : k = 5
  · subst h5
    have hf : K = 32 := by rw [hK]; rfl
    clear hK
    subst hf
    go_enter Tryz.func14, Tryz.ntmps14
    go_wp2_with fail
    go_ret
    exact ⟨rfl, rfl⟩
  have q5 : (k == 5) = false := by rw [beq_eq_false_iff_ne]; exact h5
  have hf : K = 0 := by rw [hK]; simp [h3, h4, h5, h6, h7]
  clear h3 h4 h5 h6 h7 hK
  subst hf
  go_enter Tryz.func14, Tryz.ntmps14
  go_wp2_with fail
  go_ret
  exact ⟨rfl, rfl⟩
set_option maxRecDepth 100000 in
set_option maxHeartbeats 2000000 in
theorem window_walk (t : Tr) (hsz : t.root.size ≤ 536870912) (place : List Int) (k : Int) (w : World) (g : Nat) (c : Int) (vl : Value) (okp : Nat → Prop) (pv : Value) (hl : LkB w g t c vl) (hp : Sl tInt w okp pv place) :
    Calls Tryz.prog 161 #[.pointer (some ⟨g, 0, none⟩), pv, .int .i64 k] w fun e w' => e = .returned (.int .i64 (windowM t place k)) ∧ Below w.heap.size w w' := by
  obtain ⟨A1, c1, A2, c2, A3, c3, hL, hT⟩ := hl
  have hwin := fun w1 (h : Below w.heap.size w w1) => windows_walk t (by omega) place w1 (· < g) okp _ _ (hT.below h) (hp.below h)
  have herr := windowM_err (t := t) (place := place) (k := k)
  have hmany := windowM_many (t := t) (place := place) (k := k)
  have hone := fun x => windowM_one (t := t) (place := place) (k := k) (x := x)
  obtain ⟨A4, c4, rfl, hc4, hl4, ha4⟩ := hp
  obtain ⟨R, hR⟩ : ∃ R, R = windowM t place k := ⟨_, rfl⟩
  rw [← hR] at herr hmany hone ⊢
  clear hR
  obtain ⟨l, e1, hq⟩ : ∃ l e1, windowsM t place = (l, e1) := ⟨_, _, rfl⟩
  simp only [hq] at hwin herr hmany hone
  have t0 := bcellAt hL 0 rfl
  have t1 := bcellAt hL 1 rfl
  have t2 := bcellAt hL 2 rfl
  have t3 := bcellAt hL 3 rfl
  have t4 := bcellAt hL 4 rfl
  have lt1 := blockLt hL
  by_cases g1 : e1 = 0
  · subst g1
    clear herr
    by_cases g2 : l.length = 1
    · obtain ⟨x, rfl⟩ := List.length_eq_one_iff.1 g2
      have hRx := hone x rfl rfl
      clear hone hmany g2
      obtain ⟨a, s⟩ := x
      simp only at hRx
      obtain ⟨q, hqi⟩ : ∃ q, q = insideB (a, s) a s := ⟨_, rfl⟩
      have hin := fun ha hs w1 => inside_walk a s a s ha hs ha hs w1
      have hsz1 := fun w1 => sizeK_same k w1
      rw [← hqi] at hRx
      simp only [← hqi] at hin
      obtain ⟨z, hz⟩ : ∃ z, z = sizeOfK k := ⟨_, rfl⟩
      rw [← hz] at hRx
      simp only [← hz] at hsz1
      have HR := Lib.hid hRx
      clear hRx hqi hq hz
      have hU : ∀ (w1 : World) (A5 : Option Addr) (ok5 : Nat → Prop), SlA tWin w1 ok5 A5 [(a, s)] → U64 a ∧ U64 s := fun w1 A5 ok5 h => by
        obtain ⟨b, off, _, _, _, _, _, u0, u1, u2, u3⟩ := h.res_at (j := 0) rfl
        exact ⟨U64.of_lt u0 u1, U64.of_lt u2 u3⟩
      by_cases g3 : k = 2
      · subst g3
        by_cases g4 : s < 1 ∨ 65536 < s
        · have hfin : R = 12 := by rw [HR.out, if_pos (.inl ⟨rfl, g4⟩)]
          subst hfin
          clear hin hsz1 hU
          rcases g4 with g4 | g4
          all_goals
            go_enter Tryz.func161, Tryz.ntmps161
            go_wp2_with (first
              | (go_at_call 200; refine (hwin _ (by repeat (first | assumption | exact Below.refl _ _ | with_reducible refine bset ?_ (by simp) _ | with_reducible refine balloc ?_ _ | with_reducible refine bdrew ?_ | with_reducible refine bdrewN ?_ _ | with_reducible refine bstep ?_ (by assumption)))).mono ?_; clear hwin; rintro e w1 ⟨v1, rfl, hs1, hb1⟩; obtain ⟨A5, c5, rfl, hc5, hl5, ha5⟩ := hs1; obtain ⟨b, off, rfl, hob, hbl, r0, r1, u0, u1, u2, u3⟩ := ha5.res_at (j := 0) rfl; simp only [Nat.zero_mul, Nat.add_zero] at r0 r1; clear ha5 t0 t1 t2 t3 t4))
            all_goals (first | (go_ret; exact ⟨rfl, hb1⟩) | (exfalso; omega))
        · have hfin : R = if q = true then 0 else 12 := by rw [HR.out, if_neg]; rintro (h | h); exact g4 h.2; exact h.1 rfl
          have g5 : 1 ≤ s := by omega
          have g6 : s ≤ 65536 := by omega
          clear HR g4 hsz1
          go_enter Tryz.func161, Tryz.ntmps161
          go_upto_region 7 with (first
            | (go_at_call 200; refine (hwin _ (by repeat (first | assumption | exact Below.refl _ _ | with_reducible refine bset ?_ (by simp) _ | with_reducible refine balloc ?_ _ | with_reducible refine bdrew ?_ | with_reducible refine bdrewN ?_ _ | with_reducible refine bstep ?_ (by assumption)))).mono ?_; clear hwin; rintro e w1 ⟨v1, rfl, hs1, hb1⟩; obtain ⟨A5, c5, rfl, hc5, hl5, ha5⟩ := hs1; obtain ⟨b, off, rfl, hob, hbl, r0, r1, u0, u1, u2, u3⟩ := ha5.res_at (j := 0) rfl; simp only [Nat.zero_mul, Nat.add_zero] at r0 r1; obtain ⟨hu0, hu1⟩ := hU _ _ _ ha5; clear ha5 hU t0 t1 t2 t3 t4))
          go_quiet (fail)
          have hc1 : (1 : Int) ≤ (c5 : Int) := by simp at hc5; omega
          go_upto_region 9 with fail
          go_cut [66] (fun v wx => v = .bool (!q) ∧ Below w1.heap.size w1 wx)
          case first =>
            go_region_law (first
              | (go_simp; go_at_call 212; (refine (hin hu0 hu1 _).mono ?_); rintro e w5 ⟨rfl, hb5⟩))
            all_goals go_wp2_with fail
            all_goals go_meet
            all_goals exact ⟨rfl, bstep (by repeat (first | assumption | exact Below.refl _ _ | with_reducible refine bset ?_ (by simp) _ | with_reducible refine balloc ?_ _ | with_reducible refine bdrew ?_ | with_reducible refine bdrewN ?_ _ | with_reducible refine bstep ?_ (by assumption))) hb5⟩
          case rest =>
            obtain ⟨rfl, hbx⟩ := hcut
            clear hin
            cases q
            all_goals
              simp only [Bool.false_eq_true, if_false, if_true] at hfin
              subst hfin
              go_wp2_with fail
              go_ret
              exact ⟨rfl, bstep hb1 hbx⟩
      · have q3 : (k == 2) = false := by rw [beq_eq_false_iff_ne]; exact g3
        have q4 : (k != 2) = true := by rw [bne_iff_ne]; exact g3
        by_cases g4 : s = z
        · have hfin : R = if q = true then 0 else 12 := by rw [HR.out, if_neg]; rintro (h | h); exact g3 h.1; exact h.2 g4
          have q5 : (s != z) = false := by rw [bne_eq_false_iff_eq]; exact g4
          clear HR g3 g4
          go_enter Tryz.func161, Tryz.ntmps161
          go_upto_region 7 with (first
            | (go_at_call 200; refine (hwin _ (by repeat (first | assumption | exact Below.refl _ _ | with_reducible refine bset ?_ (by simp) _ | with_reducible refine balloc ?_ _ | with_reducible refine bdrew ?_ | with_reducible refine bdrewN ?_ _ | with_reducible refine bstep ?_ (by assumption)))).mono ?_; clear hwin; rintro e w1 ⟨v1, rfl, hs1, hb1⟩; obtain ⟨A5, c5, rfl, hc5, hl5, ha5⟩ := hs1; obtain ⟨b, off, rfl, hob, hbl, r0, r1, u0, u1, u2, u3⟩ := ha5.res_at (j := 0) rfl; simp only [Nat.zero_mul, Nat.add_zero] at r0 r1; obtain ⟨hu0, hu1⟩ := hU _ _ _ ha5; clear ha5 hU t0 t1 t2 t3 t4))
          go_cut [26] (fun v wx => v = .bool false ∧ Below w1.heap.size w1 wx)
          case first =>
            first
              | (go_region_with (first
                  | (go_at_call 14; (with_reducible refine (hsz1 _).mono ?_); rintro e w5 ⟨rfl, h5⟩; replace h5 := h5.symm; subst h5)))
              | fail
            all_goals go_wp2_with fail
            all_goals go_meet
            all_goals exact ⟨rfl, (by repeat (first | assumption | exact Below.refl _ _ | with_reducible refine bset ?_ (by simp) _ | with_reducible refine balloc ?_ _ | with_reducible refine bdrew ?_ | with_reducible refine bdrewN ?_ _ | with_reducible refine bstep ?_ (by assumption)))⟩
          case rest =>
            obtain ⟨rfl, hbc⟩ := hcut
            have r0 := bkeep hbc r0
            have r1 := bkeep hbc r1
            have hbl := Nat.lt_of_lt_of_le hbl hbc.size
            have hb1 := bstep hb1 hbc
            clear hsz1 q5
            have hc1 : (1 : Int) ≤ (c5 : Int) := by simp at hc5; omega
            go_upto_region 9 with fail
            go_cut [66] (fun v wx => v = .bool (!q) ∧ Below wc.heap.size wc wx)
            case first =>
              go_region_law (first
                | (go_simp; go_at_call 212; (refine (hin hu0 hu1 _).mono ?_); rintro e w5 ⟨rfl, hb5⟩))
              all_goals go_wp2_with fail
              all_goals go_meet
              all_goals exact ⟨rfl, bstep (by repeat (first | assumption | exact Below.refl _ _ | with_reducible refine bset ?_ (by simp) _ | with_reducible refine balloc ?_ _ | with_reducible refine bdrew ?_ | with_reducible refine bdrewN ?_ _ | with_reducible refine bstep ?_ (by assumption))) hb5⟩
            case rest =>
              obtain ⟨rfl, hbx⟩ := hcut
              clear hin
              cases q
              all_goals
                simp only [Bool.false_eq_true, if_false, if_true] at hfin
                subst hfin
                go_wp2_with fail
                go_ret
                exact ⟨rfl, bstep hb1 hbx⟩
        · have hfin : R = 12 := by rw [HR.out, if_pos (.inr ⟨g3, g4⟩)]
          have q5 : (s != z) = true := by rw [bne_iff_ne]; exact g4
          subst hfin
          clear HR g3 hin
          go_enter Tryz.func161, Tryz.ntmps161
          go_upto_region 7 with (first
            | (go_at_call 200; refine (hwin _ (by repeat (first | assumption | exact Below.refl _ _ | with_reducible refine bset ?_ (by simp) _ | with_reducible refine balloc ?_ _ | with_reducible refine bdrew ?_ | with_reducible refine bdrewN ?_ _ | with_reducible refine bstep ?_ (by assumption)))).mono ?_; clear hwin; rintro e w1 ⟨v1, rfl, hs1, hb1⟩; obtain ⟨A5, c5, rfl, hc5, hl5, ha5⟩ := hs1; obtain ⟨b, off, rfl, hob, hbl, r0, r1, u0, u1, u2, u3⟩ := ha5.res_at (j := 0) rfl; simp only [Nat.zero_mul, Nat.add_zero] at r0 r1; clear ha5 t0 t1 t2 t3 t4))
          first
            | (go_region_with (first
                | (go_at_call 14; (with_reducible refine (hsz1 _).mono ?_); rintro e w5 ⟨rfl, h5⟩; replace h5 := h5.symm; subst h5)))
            | fail
          all_goals go_wp2_with fail
          all_goals go_ret
          all_goals exact ⟨rfl, (by repeat (first | assumption | exact Below.refl _ _ | with_reducible refine bset ?_ (by simp) _ | with_reducible refine balloc ?_ _ | with_reducible refine bdrew ?_ | with_reducible refine bdrewN ?_ _ | with_reducible refine bstep ?_ (by assumption)))⟩
    · have hfin := hmany rfl g2
      have q2 : ((l.length : Int) != 1) = true := by rw [bne_iff_ne]; omega
      subst hfin
      clear hmany hone g2 hq
      go_enter Tryz.func161, Tryz.ntmps161
      go_wp2_with (first
        | (go_at_call 200; refine (hwin _ (by repeat (first | assumption | exact Below.refl _ _ | with_reducible refine bset ?_ (by simp) _ | with_reducible refine balloc ?_ _ | with_reducible refine bdrew ?_ | with_reducible refine bdrewN ?_ _ | with_reducible refine bstep ?_ (by assumption)))).mono ?_; clear hwin; rintro e w1 ⟨v1, rfl, hs1, hb1⟩; obtain ⟨A5, c5, rfl, hA5⟩ := hs1; clear hA5))
      go_ret
      exact ⟨rfl, hb1⟩
  · have hfin := herr g1
    have q2 : (e1 != 0) = true := by rw [bne_iff_ne]; exact g1
    subst hfin
    clear herr hmany hone g1 hq
    go_enter Tryz.func161, Tryz.ntmps161
    go_wp2_with (first
      | (go_at_call 200; refine (hwin _ (by repeat (first | assumption | exact Below.refl _ _ | with_reducible refine bset ?_ (by simp) _ | with_reducible refine balloc ?_ _ | with_reducible refine bdrew ?_ | with_reducible refine bdrewN ?_ _ | with_reducible refine bstep ?_ (by assumption)))).mono ?_; clear hwin; rintro e w1 ⟨v1, rfl, hs1, hb1⟩; obtain ⟨A5, c5, rfl, hA5⟩ := hs1; clear hA5))
    go_ret
    exact ⟨rfl, hb1⟩
end Go.Proofs.YtdfknlhfdbbogaaGreatDoor
