/-
  valid: node. No condition.
-/
import Derived.Test.YtdfknlhfdbbogaaGreatDoorWires
namespace Go.Proofs.YtdfknlhfdbbogaaGreatDoor
open Go.RowKit
set_option linter.unusedSimpArgs false
set_option linter.unusedVariables false
theorem nodeM_status {t : Tr} {place : List Int} {s : Lk} (h : (statusM (getN t place).1).2 ≠ 0) : nodeM t place s = ((statusM (getN t place).1).2, s) := by unfold nodeM; rw [if_pos h]
theorem nodeM_off {t : Tr} {place : List Int} {s : Lk} (h : (statusM (getN t place).1).2 = 0) (h2 : (enabledM t place).2 ≠ 0 ∨ (enabledM t place).1 = false) : nodeM t place s = (0, s) := by unfold nodeM; rw [if_neg (by simp [h]), if_pos h2]
theorem nodeM_on {t : Tr} {place : List Int} {s : Lk} (h : (statusM (getN t place).1).2 = 0) (h2 : (enabledM t place).2 = 0) (h3 : (enabledM t place).1 = true) : nodeM t place s =
    if (kindM (getN t place).1).2.2 ≠ 0 then ((kindM (getN t place).1).2.2, s)
    else if (kindM (getN t place).1).2.1 = true then (15, s)
    else if (kindM (getN t place).1).1 = 0 then (0, s)
    else if (kindM (getN t place).1).1 = 1 then (busM t (getN t place).1 place, s)
    else if busesM t place = false then (15, s)
    else if windowM t place (kindM (getN t place).1).1 ≠ 0 then (windowM t place (kindM (getN t place).1).1, s)
    else wiresM t (getN t place).1 place (kindM (getN t place).1).1 s := by unfold nodeM; rw [if_neg (by simp [h]), if_neg (by simp [h2, h3])]
set_option maxRecDepth 100000 in
set_option maxHeartbeats 2000000 in
theorem node_walk2 (t : Tr) (hsz : t.root.size ≤ 536870912) (place : List Int) (hne : place ≠ []) (hpl : place.length ≤ 536870912) (s : Lk) (hs1 : 0 ≤ s.1) (hs2 : s.1 ≤ 536870912) (hs3 : s.2.length ≤ 536870912) (w : World) (hw : Wd w) (g B : Nat) (vl : Value) (okp : Nat → Prop) (pv : Value)
    (hlk : LkB w g t s.1 vl) (hrow : Row tWl 403 w B vl s.2) (hgB : g < B) (hB : B ≤ w.heap.size) (hp : Sl tInt w okp pv place) :
    Calls Tryz.prog 71 #[.pointer (some ⟨g, 0, none⟩), pv] w fun e w' => e = .returned (.int .i64 (nodeM t place s).1) ∧ LkRes t vl B g w (nodeM t place s).2 w' := by
  obtain ⟨A1, c1, A2, c2, A3, c3, hL, hT⟩ := id hlk
  have hget := fun w1 (h : Below w.heap.size w w1) => get_walk t (by omega) place w1 (fun k => k < g ∨ okp k) _ _ ((hT.mono fun k h _ => Or.inl h).below h) ((hp.mono fun k h _ => Or.inr h).below h)
  have hen := fun w1 (h : Below w.heap.size w w1) => enabled_walk t hsz place w1 _ _ _ _ (hT.below h) (hp.below h)
  have hms := getN_le t place
  have hst0 := nodeM_status (t := t) (place := place) (s := s)
  have hof0 := nodeM_off (t := t) (place := place) (s := s)
  have hon0 := nodeM_on (t := t) (place := place) (s := s)
  have hbs := fun w1 (h : Below w.heap.size w w1) => buses_walk t hsz place w1 (hw.below h) g s.1 vl okp _ (hlk.below h) (hp.below h)
  obtain ⟨R, hR⟩ : ∃ R, R = nodeM t place s := ⟨_, rfl⟩
  rw [← hR]
  simp only [← hR] at hst0 hof0 hon0
  clear hR
  obtain ⟨m, me, hm⟩ : ∃ m me, getN t place = (m, me) := ⟨_, _, rfl⟩
  simp only [hm] at hget hms hst0 hof0 hon0
  clear hm
  have hst := fun w1 ok1 v1 h => status_walk m (by omega) w1 ok1 v1 h
  have hkd := fun w1 h1 ok1 v1 h => kind_walk m (by omega) w1 h1 ok1 v1 h
  have hbus := fun w1 (h : Below w.heap.size w w1) ok1 v1 h1 => bus_walk t hsz place hne m (by omega) w1 g s.1 vl okp ok1 _ v1 (hlk.below h) (hp.below h) h1
  have hwi0 := fun k w1 (h : Below w.heap.size w w1) => window_walk t hsz place k w1 g s.1 vl okp _ (hlk.below h) (hp.below h)
  have hwr0 := fun k w1 (h : Below w.heap.size w w1) ok1 v1 h1 => wires_walk t hsz place hpl m (by omega) k s hs1 hs2 hs3 w1 (hw.below h) g B vl okp ok1 _ v1 (hlk.below h) (hrow.below h) hgB (Nat.le_trans hB h.size) (hp.below h) h1
  obtain ⟨A4, c4, rfl, hc4, hl4, ha4⟩ := id hp
  clear ha4
  have t0 := bcellAt hL 0 rfl
  have t1 := bcellAt hL 1 rfl
  have t2 := bcellAt hL 2 rfl
  have t3 := bcellAt hL 3 rfl
  have t4 := bcellAt hL 4 rfl
  have lt1 := blockLt hL
  obtain ⟨s0, e1, hse⟩ : ∃ s0 e1, statusM m = (s0, e1) := ⟨_, _, rfl⟩
  simp only [hse] at hst hst0 hof0 hon0
  obtain ⟨on, e2, hee⟩ : ∃ on e2, enabledM t place = (on, e2) := ⟨_, _, rfl⟩
  simp only [hee] at hen hof0 hon0
  obtain ⟨k, odd, e3, hke⟩ : ∃ k odd e3, kindM m = (k, odd, e3) := ⟨_, _, _, rfl⟩
  simp only [hke] at hkd hon0
  clear hse hee hke
  obtain ⟨bq, hbq⟩ : ∃ bq, bq = busM t m place := ⟨_, rfl⟩
  obtain ⟨sq, hsq⟩ : ∃ sq, sq = busesM t place := ⟨_, rfl⟩
  simp only [← hbq] at hbus hon0
  simp only [← hsq] at hbs hon0
  clear hbq hsq
  by_cases g1 : e1 = 0
  · subst g1
    clear hst0
    by_cases g2 : e2 = 0
    · subst g2
      cases on
      · have hfin := hof0 rfl (.inr rfl)
        subst hfin
        clear hof0 hon0 hkd hbus hwi0 hwr0 hbs
        go_enter Tryz.func71, Tryz.ntmps71
        go_wp2_with (first
          | (go_at_call 155; refine (hget _ (by repeat (first | assumption | exact Below.refl _ _ | with_reducible refine bset ?_ (by simp) _ | with_reducible refine balloc ?_ _ | with_reducible refine bdrew ?_ | with_reducible refine bdrewN ?_ _ | with_reducible refine bstep ?_ (by assumption)))).mono ?_; clear hget; rintro e w1 ⟨v1, rfl, hv1, hb1⟩; obtain ⟨A6, c6, A7, c7, rfl, hA6⟩ := hv1.form; clear hA6; clear t0 t1 t2 t3 t4 lt1; have hL1 := bblock hL (balloc hb1 (.cells #[.string m.name, .slice A6 m.props.length c6, .slice A7 m.kids.length c7] 32)); have t0 := bcellAt hL1 0 rfl; have t1 := bcellAt hL1 1 rfl; have t2 := bcellAt hL1 2 rfl; have t3 := bcellAt hL1 3 rfl; have t4 := bcellAt hL1 4 rfl; have lt1 := blockLt hL1)
          | (go_at_call 156; refine (hst _ _ _ (hv1.below (balloc (brefl _) _))).mono ?_; clear hst; rintro e w2 ⟨rfl, hb2⟩; have hbw2 := bstep (balloc hb1 _) hb2; have nb2 := bblock (blast w1 (.cells #[.string m.name, .slice A6 m.props.length c6, .slice A7 m.kids.length c7] 32) _ rfl) hb2; clear t0 t1 t2 t3 t4 lt1; have hL2 := bblock hL hbw2; have t0 := bcellAt hL2 0 rfl; have t1 := bcellAt hL2 1 rfl; have t2 := bcellAt hL2 2 rfl; have t3 := bcellAt hL2 3 rfl; have t4 := bcellAt hL2 4 rfl; have lt1 := blockLt hL2; have n0 := bcellAt (v := .string m.name) nb2 0 rfl; have n1 := bcellAt (v := .slice A6 m.props.length c6) nb2 1 rfl; have n2 := bcellAt (v := .slice A7 m.kids.length c7) nb2 2 rfl; have ln := blockLt nb2; have hv2 := (hv1.below (balloc (brefl _) (.cells #[.string m.name, .slice A6 m.props.length c6, .slice A7 m.kids.length c7] 32))).below hb2)
          | (go_at_call 157; refine (hen _ hbw2).mono ?_; clear hen; rintro e w3 ⟨rfl, hb3⟩; have hbw3 := bstep hbw2 hb3; have nb3 := bblock nb2 hb3; clear n0 n1 n2 ln; have n0 := bcellAt (v := .string m.name) nb3 0 rfl; have n1 := bcellAt (v := .slice A6 m.props.length c6) nb3 1 rfl; have n2 := bcellAt (v := .slice A7 m.kids.length c7) nb3 2 rfl; have ln := blockLt nb3; have hv3 := hv2.below hb3))
        go_ret
        exact ⟨rfl, LkRes.same hlk hrow hbw3⟩
      · have hon := hon0 rfl rfl rfl
        clear hof0 hon0
        by_cases g3 : e3 = 0
        · subst g3
          rw [if_neg (by simp)] at hon
          cases odd
          · rw [if_neg (by simp)] at hon
            by_cases k0 : k = 0
            · subst k0
              rw [if_pos rfl] at hon
              subst hon
              clear hbus hwi0 hwr0 hbs
              go_enter Tryz.func71, Tryz.ntmps71
              go_wp2_with (first
                | (go_at_call 155; refine (hget _ (by repeat (first | assumption | exact Below.refl _ _ | with_reducible refine bset ?_ (by simp) _ | with_reducible refine balloc ?_ _ | with_reducible refine bdrew ?_ | with_reducible refine bdrewN ?_ _ | with_reducible refine bstep ?_ (by assumption)))).mono ?_; clear hget; rintro e w1 ⟨v1, rfl, hv1, hb1⟩; obtain ⟨A6, c6, A7, c7, rfl, hA6⟩ := hv1.form; clear hA6; clear t0 t1 t2 t3 t4 lt1; have hL1 := bblock hL (balloc hb1 (.cells #[.string m.name, .slice A6 m.props.length c6, .slice A7 m.kids.length c7] 32)); have t0 := bcellAt hL1 0 rfl; have t1 := bcellAt hL1 1 rfl; have t2 := bcellAt hL1 2 rfl; have t3 := bcellAt hL1 3 rfl; have t4 := bcellAt hL1 4 rfl; have lt1 := blockLt hL1)
                | (go_at_call 156; refine (hst _ _ _ (hv1.below (balloc (brefl _) _))).mono ?_; clear hst; rintro e w2 ⟨rfl, hb2⟩; have hbw2 := bstep (balloc hb1 _) hb2; have nb2 := bblock (blast w1 (.cells #[.string m.name, .slice A6 m.props.length c6, .slice A7 m.kids.length c7] 32) _ rfl) hb2; clear t0 t1 t2 t3 t4 lt1; have hL2 := bblock hL hbw2; have t0 := bcellAt hL2 0 rfl; have t1 := bcellAt hL2 1 rfl; have t2 := bcellAt hL2 2 rfl; have t3 := bcellAt hL2 3 rfl; have t4 := bcellAt hL2 4 rfl; have lt1 := blockLt hL2; have n0 := bcellAt (v := .string m.name) nb2 0 rfl; have n1 := bcellAt (v := .slice A6 m.props.length c6) nb2 1 rfl; have n2 := bcellAt (v := .slice A7 m.kids.length c7) nb2 2 rfl; have ln := blockLt nb2; have hv2 := (hv1.below (balloc (brefl _) (.cells #[.string m.name, .slice A6 m.props.length c6, .slice A7 m.kids.length c7] 32))).below hb2)
                | (go_at_call 157; refine (hen _ hbw2).mono ?_; clear hen; rintro e w3 ⟨rfl, hb3⟩; have hbw3 := bstep hbw2 hb3; have nb3 := bblock nb2 hb3; clear n0 n1 n2 ln; have n0 := bcellAt (v := .string m.name) nb3 0 rfl; have n1 := bcellAt (v := .slice A6 m.props.length c6) nb3 1 rfl; have n2 := bcellAt (v := .slice A7 m.kids.length c7) nb3 2 rfl; have ln := blockLt nb3; have hv3 := hv2.below hb3)
                | (go_at_call 158; refine (hkd _ (hw.below hbw3) _ _ hv3).mono ?_; clear hkd; rintro e w4 ⟨rfl, hb4⟩; have hbw4 := bstep hbw3 hb4; have nb4 := bblock nb3 hb4; clear n0 n1 n2 ln; have n0 := bcellAt (v := .string m.name) nb4 0 rfl; have n1 := bcellAt (v := .slice A6 m.props.length c6) nb4 1 rfl; have n2 := bcellAt (v := .slice A7 m.kids.length c7) nb4 2 rfl; have ln := blockLt nb4; have hv4 := hv3.below hb4))
              go_ret
              exact ⟨rfl, LkRes.same hlk hrow hbw4⟩
            · rw [if_neg k0] at hon
              have q0 : (k == 0) = false := by rw [beq_eq_false_iff_ne]; exact k0
              by_cases k1 : k = 1
              · subst k1
                rw [if_pos rfl] at hon
                subst hon
                clear hwi0 hwr0 hbs k0
                go_enter Tryz.func71, Tryz.ntmps71
                go_wp2_with (first
                  | (go_at_call 155; refine (hget _ (by repeat (first | assumption | exact Below.refl _ _ | with_reducible refine bset ?_ (by simp) _ | with_reducible refine balloc ?_ _ | with_reducible refine bdrew ?_ | with_reducible refine bdrewN ?_ _ | with_reducible refine bstep ?_ (by assumption)))).mono ?_; clear hget; rintro e w1 ⟨v1, rfl, hv1, hb1⟩; obtain ⟨A6, c6, A7, c7, rfl, hA6⟩ := hv1.form; clear hA6; clear t0 t1 t2 t3 t4 lt1; have hL1 := bblock hL (balloc hb1 (.cells #[.string m.name, .slice A6 m.props.length c6, .slice A7 m.kids.length c7] 32)); have t0 := bcellAt hL1 0 rfl; have t1 := bcellAt hL1 1 rfl; have t2 := bcellAt hL1 2 rfl; have t3 := bcellAt hL1 3 rfl; have t4 := bcellAt hL1 4 rfl; have lt1 := blockLt hL1)
                  | (go_at_call 156; refine (hst _ _ _ (hv1.below (balloc (brefl _) _))).mono ?_; clear hst; rintro e w2 ⟨rfl, hb2⟩; have hbw2 := bstep (balloc hb1 _) hb2; have nb2 := bblock (blast w1 (.cells #[.string m.name, .slice A6 m.props.length c6, .slice A7 m.kids.length c7] 32) _ rfl) hb2; clear t0 t1 t2 t3 t4 lt1; have hL2 := bblock hL hbw2; have t0 := bcellAt hL2 0 rfl; have t1 := bcellAt hL2 1 rfl; have t2 := bcellAt hL2 2 rfl; have t3 := bcellAt hL2 3 rfl; have t4 := bcellAt hL2 4 rfl; have lt1 := blockLt hL2; have n0 := bcellAt (v := .string m.name) nb2 0 rfl; have n1 := bcellAt (v := .slice A6 m.props.length c6) nb2 1 rfl; have n2 := bcellAt (v := .slice A7 m.kids.length c7) nb2 2 rfl; have ln := blockLt nb2; have hv2 := (hv1.below (balloc (brefl _) (.cells #[.string m.name, .slice A6 m.props.length c6, .slice A7 m.kids.length c7] 32))).below hb2)
                  | (go_at_call 157; refine (hen _ hbw2).mono ?_; clear hen; rintro e w3 ⟨rfl, hb3⟩; have hbw3 := bstep hbw2 hb3; have nb3 := bblock nb2 hb3; clear n0 n1 n2 ln; have n0 := bcellAt (v := .string m.name) nb3 0 rfl; have n1 := bcellAt (v := .slice A6 m.props.length c6) nb3 1 rfl; have n2 := bcellAt (v := .slice A7 m.kids.length c7) nb3 2 rfl; have ln := blockLt nb3; have hv3 := hv2.below hb3)
                  | (go_at_call 158; refine (hkd _ (hw.below hbw3) _ _ hv3).mono ?_; clear hkd; rintro e w4 ⟨rfl, hb4⟩; have hbw4 := bstep hbw3 hb4; have nb4 := bblock nb3 hb4; clear n0 n1 n2 ln; have n0 := bcellAt (v := .string m.name) nb4 0 rfl; have n1 := bcellAt (v := .slice A6 m.props.length c6) nb4 1 rfl; have n2 := bcellAt (v := .slice A7 m.kids.length c7) nb4 2 rfl; have ln := blockLt nb4; have hv4 := hv3.below hb4)
                  | (go_at_call 159; refine (hbus _ hbw4 _ _ hv4).mono ?_; clear hbus; rintro e w5 ⟨rfl, hb5⟩))
                go_ret
                exact ⟨rfl, LkRes.same hlk hrow (bstep hbw4 hb5)⟩
              · rw [if_neg k1] at hon
                have q1 : (k == 1) = false := by rw [beq_eq_false_iff_ne]; exact k1
                clear hbus
                have hwi := hwi0 k
                have hwr := hwr0 k
                clear hwi0 hwr0 k0 k1
                cases sq
                · rw [if_pos rfl] at hon
                  subst hon
                  clear hwi hwr
                  go_enter Tryz.func71, Tryz.ntmps71
                  go_wp2_with (first
                    | (go_at_call 155; refine (hget _ (by repeat (first | assumption | exact Below.refl _ _ | with_reducible refine bset ?_ (by simp) _ | with_reducible refine balloc ?_ _ | with_reducible refine bdrew ?_ | with_reducible refine bdrewN ?_ _ | with_reducible refine bstep ?_ (by assumption)))).mono ?_; clear hget; rintro e w1 ⟨v1, rfl, hv1, hb1⟩; obtain ⟨A6, c6, A7, c7, rfl, hA6⟩ := hv1.form; clear hA6; clear t0 t1 t2 t3 t4 lt1; have hL1 := bblock hL (balloc hb1 (.cells #[.string m.name, .slice A6 m.props.length c6, .slice A7 m.kids.length c7] 32)); have t0 := bcellAt hL1 0 rfl; have t1 := bcellAt hL1 1 rfl; have t2 := bcellAt hL1 2 rfl; have t3 := bcellAt hL1 3 rfl; have t4 := bcellAt hL1 4 rfl; have lt1 := blockLt hL1)
                    | (go_at_call 156; refine (hst _ _ _ (hv1.below (balloc (brefl _) _))).mono ?_; clear hst; rintro e w2 ⟨rfl, hb2⟩; have hbw2 := bstep (balloc hb1 _) hb2; have nb2 := bblock (blast w1 (.cells #[.string m.name, .slice A6 m.props.length c6, .slice A7 m.kids.length c7] 32) _ rfl) hb2; clear t0 t1 t2 t3 t4 lt1; have hL2 := bblock hL hbw2; have t0 := bcellAt hL2 0 rfl; have t1 := bcellAt hL2 1 rfl; have t2 := bcellAt hL2 2 rfl; have t3 := bcellAt hL2 3 rfl; have t4 := bcellAt hL2 4 rfl; have lt1 := blockLt hL2; have n0 := bcellAt (v := .string m.name) nb2 0 rfl; have n1 := bcellAt (v := .slice A6 m.props.length c6) nb2 1 rfl; have n2 := bcellAt (v := .slice A7 m.kids.length c7) nb2 2 rfl; have ln := blockLt nb2; have hv2 := (hv1.below (balloc (brefl _) (.cells #[.string m.name, .slice A6 m.props.length c6, .slice A7 m.kids.length c7] 32))).below hb2)
                    | (go_at_call 157; refine (hen _ hbw2).mono ?_; clear hen; rintro e w3 ⟨rfl, hb3⟩; have hbw3 := bstep hbw2 hb3; have nb3 := bblock nb2 hb3; clear n0 n1 n2 ln; have n0 := bcellAt (v := .string m.name) nb3 0 rfl; have n1 := bcellAt (v := .slice A6 m.props.length c6) nb3 1 rfl; have n2 := bcellAt (v := .slice A7 m.kids.length c7) nb3 2 rfl; have ln := blockLt nb3; have hv3 := hv2.below hb3)
                    | (go_at_call 158; refine (hkd _ (hw.below hbw3) _ _ hv3).mono ?_; clear hkd; rintro e w4 ⟨rfl, hb4⟩; have hbw4 := bstep hbw3 hb4; have nb4 := bblock nb3 hb4; clear n0 n1 n2 ln; have n0 := bcellAt (v := .string m.name) nb4 0 rfl; have n1 := bcellAt (v := .slice A6 m.props.length c6) nb4 1 rfl; have n2 := bcellAt (v := .slice A7 m.kids.length c7) nb4 2 rfl; have ln := blockLt nb4; have hv4 := hv3.below hb4)
                    | (go_at_call 160; refine (hbs _ hbw4).mono ?_; clear hbs; rintro e w5 ⟨rfl, hb5⟩; have hbw5 := bstep hbw4 hb5; have nb5 := bblock nb4 hb5; clear n0 n1 n2 ln; have n0 := bcellAt (v := .string m.name) nb5 0 rfl; have n1 := bcellAt (v := .slice A6 m.props.length c6) nb5 1 rfl; have n2 := bcellAt (v := .slice A7 m.kids.length c7) nb5 2 rfl; have ln := blockLt nb5; have hv5 := hv4.below hb5))
                  go_ret
                  exact ⟨rfl, LkRes.same hlk hrow hbw5⟩
                · rw [if_neg (by simp)] at hon
                  obtain ⟨wq, hwq⟩ : ∃ wq, wq = windowM t place k := ⟨_, rfl⟩
                  simp only [← hwq] at hwi hon
                  clear hwq
                  by_cases g6 : wq = 0
                  · subst g6
                    rw [if_neg (by simp)] at hon
                    rw [← hon] at hwr
                    clear hon
                    go_enter Tryz.func71, Tryz.ntmps71
                    go_wp2_with (first
                      | (go_at_call 155; refine (hget _ (by repeat (first | assumption | exact Below.refl _ _ | with_reducible refine bset ?_ (by simp) _ | with_reducible refine balloc ?_ _ | with_reducible refine bdrew ?_ | with_reducible refine bdrewN ?_ _ | with_reducible refine bstep ?_ (by assumption)))).mono ?_; clear hget; rintro e w1 ⟨v1, rfl, hv1, hb1⟩; obtain ⟨A6, c6, A7, c7, rfl, hA6⟩ := hv1.form; clear hA6; clear t0 t1 t2 t3 t4 lt1; have hL1 := bblock hL (balloc hb1 (.cells #[.string m.name, .slice A6 m.props.length c6, .slice A7 m.kids.length c7] 32)); have t0 := bcellAt hL1 0 rfl; have t1 := bcellAt hL1 1 rfl; have t2 := bcellAt hL1 2 rfl; have t3 := bcellAt hL1 3 rfl; have t4 := bcellAt hL1 4 rfl; have lt1 := blockLt hL1)
                      | (go_at_call 156; refine (hst _ _ _ (hv1.below (balloc (brefl _) _))).mono ?_; clear hst; rintro e w2 ⟨rfl, hb2⟩; have hbw2 := bstep (balloc hb1 _) hb2; have nb2 := bblock (blast w1 (.cells #[.string m.name, .slice A6 m.props.length c6, .slice A7 m.kids.length c7] 32) _ rfl) hb2; clear t0 t1 t2 t3 t4 lt1; have hL2 := bblock hL hbw2; have t0 := bcellAt hL2 0 rfl; have t1 := bcellAt hL2 1 rfl; have t2 := bcellAt hL2 2 rfl; have t3 := bcellAt hL2 3 rfl; have t4 := bcellAt hL2 4 rfl; have lt1 := blockLt hL2; have n0 := bcellAt (v := .string m.name) nb2 0 rfl; have n1 := bcellAt (v := .slice A6 m.props.length c6) nb2 1 rfl; have n2 := bcellAt (v := .slice A7 m.kids.length c7) nb2 2 rfl; have ln := blockLt nb2; have hv2 := (hv1.below (balloc (brefl _) (.cells #[.string m.name, .slice A6 m.props.length c6, .slice A7 m.kids.length c7] 32))).below hb2)
                      | (go_at_call 157; refine (hen _ hbw2).mono ?_; clear hen; rintro e w3 ⟨rfl, hb3⟩; have hbw3 := bstep hbw2 hb3; have nb3 := bblock nb2 hb3; clear n0 n1 n2 ln; have n0 := bcellAt (v := .string m.name) nb3 0 rfl; have n1 := bcellAt (v := .slice A6 m.props.length c6) nb3 1 rfl; have n2 := bcellAt (v := .slice A7 m.kids.length c7) nb3 2 rfl; have ln := blockLt nb3; have hv3 := hv2.below hb3)
                      | (go_at_call 158; refine (hkd _ (hw.below hbw3) _ _ hv3).mono ?_; clear hkd; rintro e w4 ⟨rfl, hb4⟩; have hbw4 := bstep hbw3 hb4; have nb4 := bblock nb3 hb4; clear n0 n1 n2 ln; have n0 := bcellAt (v := .string m.name) nb4 0 rfl; have n1 := bcellAt (v := .slice A6 m.props.length c6) nb4 1 rfl; have n2 := bcellAt (v := .slice A7 m.kids.length c7) nb4 2 rfl; have ln := blockLt nb4; have hv4 := hv3.below hb4)
                      | (go_at_call 160; refine (hbs _ hbw4).mono ?_; clear hbs; rintro e w5 ⟨rfl, hb5⟩; have hbw5 := bstep hbw4 hb5; have nb5 := bblock nb4 hb5; clear n0 n1 n2 ln; have n0 := bcellAt (v := .string m.name) nb5 0 rfl; have n1 := bcellAt (v := .slice A6 m.props.length c6) nb5 1 rfl; have n2 := bcellAt (v := .slice A7 m.kids.length c7) nb5 2 rfl; have ln := blockLt nb5; have hv5 := hv4.below hb5)
                      | (go_at_call 161; refine (hwi _ hbw5).mono ?_; clear hwi; rintro e w6 ⟨rfl, hb6⟩; have hbw6 := bstep hbw5 hb6; have nb6 := bblock nb5 hb6; clear n0 n1 n2 ln; have n0 := bcellAt (v := .string m.name) nb6 0 rfl; have n1 := bcellAt (v := .slice A6 m.props.length c6) nb6 1 rfl; have n2 := bcellAt (v := .slice A7 m.kids.length c7) nb6 2 rfl; have ln := blockLt nb6; have hv6 := hv5.below hb6)
                      | (go_at_call 162; refine (hwr _ hbw6 _ _ hv6).mono ?_; clear hwr; rintro e w7 ⟨rfl, hres⟩))
                    go_ret
                    exact ⟨rfl, LkRes.lift hbw6 hres⟩
                  · rw [if_pos g6] at hon
                    have q6 : (wq != 0) = true := by rw [bne_iff_ne]; exact g6
                    subst hon
                    clear hwr g6
                    go_enter Tryz.func71, Tryz.ntmps71
                    go_wp2_with (first
                      | (go_at_call 155; refine (hget _ (by repeat (first | assumption | exact Below.refl _ _ | with_reducible refine bset ?_ (by simp) _ | with_reducible refine balloc ?_ _ | with_reducible refine bdrew ?_ | with_reducible refine bdrewN ?_ _ | with_reducible refine bstep ?_ (by assumption)))).mono ?_; clear hget; rintro e w1 ⟨v1, rfl, hv1, hb1⟩; obtain ⟨A6, c6, A7, c7, rfl, hA6⟩ := hv1.form; clear hA6; clear t0 t1 t2 t3 t4 lt1; have hL1 := bblock hL (balloc hb1 (.cells #[.string m.name, .slice A6 m.props.length c6, .slice A7 m.kids.length c7] 32)); have t0 := bcellAt hL1 0 rfl; have t1 := bcellAt hL1 1 rfl; have t2 := bcellAt hL1 2 rfl; have t3 := bcellAt hL1 3 rfl; have t4 := bcellAt hL1 4 rfl; have lt1 := blockLt hL1)
                      | (go_at_call 156; refine (hst _ _ _ (hv1.below (balloc (brefl _) _))).mono ?_; clear hst; rintro e w2 ⟨rfl, hb2⟩; have hbw2 := bstep (balloc hb1 _) hb2; have nb2 := bblock (blast w1 (.cells #[.string m.name, .slice A6 m.props.length c6, .slice A7 m.kids.length c7] 32) _ rfl) hb2; clear t0 t1 t2 t3 t4 lt1; have hL2 := bblock hL hbw2; have t0 := bcellAt hL2 0 rfl; have t1 := bcellAt hL2 1 rfl; have t2 := bcellAt hL2 2 rfl; have t3 := bcellAt hL2 3 rfl; have t4 := bcellAt hL2 4 rfl; have lt1 := blockLt hL2; have n0 := bcellAt (v := .string m.name) nb2 0 rfl; have n1 := bcellAt (v := .slice A6 m.props.length c6) nb2 1 rfl; have n2 := bcellAt (v := .slice A7 m.kids.length c7) nb2 2 rfl; have ln := blockLt nb2; have hv2 := (hv1.below (balloc (brefl _) (.cells #[.string m.name, .slice A6 m.props.length c6, .slice A7 m.kids.length c7] 32))).below hb2)
                      | (go_at_call 157; refine (hen _ hbw2).mono ?_; clear hen; rintro e w3 ⟨rfl, hb3⟩; have hbw3 := bstep hbw2 hb3; have nb3 := bblock nb2 hb3; clear n0 n1 n2 ln; have n0 := bcellAt (v := .string m.name) nb3 0 rfl; have n1 := bcellAt (v := .slice A6 m.props.length c6) nb3 1 rfl; have n2 := bcellAt (v := .slice A7 m.kids.length c7) nb3 2 rfl; have ln := blockLt nb3; have hv3 := hv2.below hb3)
                      | (go_at_call 158; refine (hkd _ (hw.below hbw3) _ _ hv3).mono ?_; clear hkd; rintro e w4 ⟨rfl, hb4⟩; have hbw4 := bstep hbw3 hb4; have nb4 := bblock nb3 hb4; clear n0 n1 n2 ln; have n0 := bcellAt (v := .string m.name) nb4 0 rfl; have n1 := bcellAt (v := .slice A6 m.props.length c6) nb4 1 rfl; have n2 := bcellAt (v := .slice A7 m.kids.length c7) nb4 2 rfl; have ln := blockLt nb4; have hv4 := hv3.below hb4)
                      | (go_at_call 160; refine (hbs _ hbw4).mono ?_; clear hbs; rintro e w5 ⟨rfl, hb5⟩; have hbw5 := bstep hbw4 hb5; have nb5 := bblock nb4 hb5; clear n0 n1 n2 ln; have n0 := bcellAt (v := .string m.name) nb5 0 rfl; have n1 := bcellAt (v := .slice A6 m.props.length c6) nb5 1 rfl; have n2 := bcellAt (v := .slice A7 m.kids.length c7) nb5 2 rfl; have ln := blockLt nb5; have hv5 := hv4.below hb5)
                      | (go_at_call 161; refine (hwi _ hbw5).mono ?_; clear hwi; rintro e w6 ⟨rfl, hb6⟩; have hbw6 := bstep hbw5 hb6; have nb6 := bblock nb5 hb6; clear n0 n1 n2 ln; have n0 := bcellAt (v := .string m.name) nb6 0 rfl; have n1 := bcellAt (v := .slice A6 m.props.length c6) nb6 1 rfl; have n2 := bcellAt (v := .slice A7 m.kids.length c7) nb6 2 rfl; have ln := blockLt nb6; have hv6 := hv5.below hb6))
                    go_ret
                    exact ⟨rfl, LkRes.same hlk hrow hbw6⟩
          · rw [if_pos rfl] at hon
            subst hon
            clear hbus hwi0 hwr0 hbs
            go_enter Tryz.func71, Tryz.ntmps71
            go_wp2_with (first
              | (go_at_call 155; refine (hget _ (by repeat (first | assumption | exact Below.refl _ _ | with_reducible refine bset ?_ (by simp) _ | with_reducible refine balloc ?_ _ | with_reducible refine bdrew ?_ | with_reducible refine bdrewN ?_ _ | with_reducible refine bstep ?_ (by assumption)))).mono ?_; clear hget; rintro e w1 ⟨v1, rfl, hv1, hb1⟩; obtain ⟨A6, c6, A7, c7, rfl, hA6⟩ := hv1.form; clear hA6; clear t0 t1 t2 t3 t4 lt1; have hL1 := bblock hL (balloc hb1 (.cells #[.string m.name, .slice A6 m.props.length c6, .slice A7 m.kids.length c7] 32)); have t0 := bcellAt hL1 0 rfl; have t1 := bcellAt hL1 1 rfl; have t2 := bcellAt hL1 2 rfl; have t3 := bcellAt hL1 3 rfl; have t4 := bcellAt hL1 4 rfl; have lt1 := blockLt hL1)
              | (go_at_call 156; refine (hst _ _ _ (hv1.below (balloc (brefl _) _))).mono ?_; clear hst; rintro e w2 ⟨rfl, hb2⟩; have hbw2 := bstep (balloc hb1 _) hb2; have nb2 := bblock (blast w1 (.cells #[.string m.name, .slice A6 m.props.length c6, .slice A7 m.kids.length c7] 32) _ rfl) hb2; clear t0 t1 t2 t3 t4 lt1; have hL2 := bblock hL hbw2; have t0 := bcellAt hL2 0 rfl; have t1 := bcellAt hL2 1 rfl; have t2 := bcellAt hL2 2 rfl; have t3 := bcellAt hL2 3 rfl; have t4 := bcellAt hL2 4 rfl; have lt1 := blockLt hL2; have n0 := bcellAt (v := .string m.name) nb2 0 rfl; have n1 := bcellAt (v := .slice A6 m.props.length c6) nb2 1 rfl; have n2 := bcellAt (v := .slice A7 m.kids.length c7) nb2 2 rfl; have ln := blockLt nb2; have hv2 := (hv1.below (balloc (brefl _) (.cells #[.string m.name, .slice A6 m.props.length c6, .slice A7 m.kids.length c7] 32))).below hb2)
              | (go_at_call 157; refine (hen _ hbw2).mono ?_; clear hen; rintro e w3 ⟨rfl, hb3⟩; have hbw3 := bstep hbw2 hb3; have nb3 := bblock nb2 hb3; clear n0 n1 n2 ln; have n0 := bcellAt (v := .string m.name) nb3 0 rfl; have n1 := bcellAt (v := .slice A6 m.props.length c6) nb3 1 rfl; have n2 := bcellAt (v := .slice A7 m.kids.length c7) nb3 2 rfl; have ln := blockLt nb3; have hv3 := hv2.below hb3)
              | (go_at_call 158; refine (hkd _ (hw.below hbw3) _ _ hv3).mono ?_; clear hkd; rintro e w4 ⟨rfl, hb4⟩; have hbw4 := bstep hbw3 hb4; have nb4 := bblock nb3 hb4; clear n0 n1 n2 ln; have n0 := bcellAt (v := .string m.name) nb4 0 rfl; have n1 := bcellAt (v := .slice A6 m.props.length c6) nb4 1 rfl; have n2 := bcellAt (v := .slice A7 m.kids.length c7) nb4 2 rfl; have ln := blockLt nb4; have hv4 := hv3.below hb4))
            go_ret
            exact ⟨rfl, LkRes.same hlk hrow hbw4⟩
        · rw [if_pos g3] at hon
          have q3 : (e3 != 0) = true := by rw [bne_iff_ne]; exact g3
          subst hon
          clear hbus hwi0 hwr0 hbs g3
          go_enter Tryz.func71, Tryz.ntmps71
          go_wp2_with (first
            | (go_at_call 155; refine (hget _ (by repeat (first | assumption | exact Below.refl _ _ | with_reducible refine bset ?_ (by simp) _ | with_reducible refine balloc ?_ _ | with_reducible refine bdrew ?_ | with_reducible refine bdrewN ?_ _ | with_reducible refine bstep ?_ (by assumption)))).mono ?_; clear hget; rintro e w1 ⟨v1, rfl, hv1, hb1⟩; obtain ⟨A6, c6, A7, c7, rfl, hA6⟩ := hv1.form; clear hA6; clear t0 t1 t2 t3 t4 lt1; have hL1 := bblock hL (balloc hb1 (.cells #[.string m.name, .slice A6 m.props.length c6, .slice A7 m.kids.length c7] 32)); have t0 := bcellAt hL1 0 rfl; have t1 := bcellAt hL1 1 rfl; have t2 := bcellAt hL1 2 rfl; have t3 := bcellAt hL1 3 rfl; have t4 := bcellAt hL1 4 rfl; have lt1 := blockLt hL1)
            | (go_at_call 156; refine (hst _ _ _ (hv1.below (balloc (brefl _) _))).mono ?_; clear hst; rintro e w2 ⟨rfl, hb2⟩; have hbw2 := bstep (balloc hb1 _) hb2; have nb2 := bblock (blast w1 (.cells #[.string m.name, .slice A6 m.props.length c6, .slice A7 m.kids.length c7] 32) _ rfl) hb2; clear t0 t1 t2 t3 t4 lt1; have hL2 := bblock hL hbw2; have t0 := bcellAt hL2 0 rfl; have t1 := bcellAt hL2 1 rfl; have t2 := bcellAt hL2 2 rfl; have t3 := bcellAt hL2 3 rfl; have t4 := bcellAt hL2 4 rfl; have lt1 := blockLt hL2; have n0 := bcellAt (v := .string m.name) nb2 0 rfl; have n1 := bcellAt (v := .slice A6 m.props.length c6) nb2 1 rfl; have n2 := bcellAt (v := .slice A7 m.kids.length c7) nb2 2 rfl; have ln := blockLt nb2; have hv2 := (hv1.below (balloc (brefl _) (.cells #[.string m.name, .slice A6 m.props.length c6, .slice A7 m.kids.length c7] 32))).below hb2)
            | (go_at_call 157; refine (hen _ hbw2).mono ?_; clear hen; rintro e w3 ⟨rfl, hb3⟩; have hbw3 := bstep hbw2 hb3; have nb3 := bblock nb2 hb3; clear n0 n1 n2 ln; have n0 := bcellAt (v := .string m.name) nb3 0 rfl; have n1 := bcellAt (v := .slice A6 m.props.length c6) nb3 1 rfl; have n2 := bcellAt (v := .slice A7 m.kids.length c7) nb3 2 rfl; have ln := blockLt nb3; have hv3 := hv2.below hb3)
            | (go_at_call 158; refine (hkd _ (hw.below hbw3) _ _ hv3).mono ?_; clear hkd; rintro e w4 ⟨rfl, hb4⟩; have hbw4 := bstep hbw3 hb4; have nb4 := bblock nb3 hb4; clear n0 n1 n2 ln; have n0 := bcellAt (v := .string m.name) nb4 0 rfl; have n1 := bcellAt (v := .slice A6 m.props.length c6) nb4 1 rfl; have n2 := bcellAt (v := .slice A7 m.kids.length c7) nb4 2 rfl; have ln := blockLt nb4; have hv4 := hv3.below hb4))
          go_ret
          exact ⟨rfl, LkRes.same hlk hrow hbw4⟩
    · have hfin := hof0 rfl (.inl g2)
      have q2 : (e2 != 0) = true := by rw [bne_iff_ne]; exact g2
      subst hfin
      clear hof0 hon0 hkd hbus hwi0 hwr0 hbs g2
      go_enter Tryz.func71, Tryz.ntmps71
      go_wp2_with (first
        | (go_at_call 155; refine (hget _ (by repeat (first | assumption | exact Below.refl _ _ | with_reducible refine bset ?_ (by simp) _ | with_reducible refine balloc ?_ _ | with_reducible refine bdrew ?_ | with_reducible refine bdrewN ?_ _ | with_reducible refine bstep ?_ (by assumption)))).mono ?_; clear hget; rintro e w1 ⟨v1, rfl, hv1, hb1⟩; obtain ⟨A6, c6, A7, c7, rfl, hA6⟩ := hv1.form; clear hA6; clear t0 t1 t2 t3 t4 lt1; have hL1 := bblock hL (balloc hb1 (.cells #[.string m.name, .slice A6 m.props.length c6, .slice A7 m.kids.length c7] 32)); have t0 := bcellAt hL1 0 rfl; have t1 := bcellAt hL1 1 rfl; have t2 := bcellAt hL1 2 rfl; have t3 := bcellAt hL1 3 rfl; have t4 := bcellAt hL1 4 rfl; have lt1 := blockLt hL1)
        | (go_at_call 156; refine (hst _ _ _ (hv1.below (balloc (brefl _) _))).mono ?_; clear hst; rintro e w2 ⟨rfl, hb2⟩; have hbw2 := bstep (balloc hb1 _) hb2; have nb2 := bblock (blast w1 (.cells #[.string m.name, .slice A6 m.props.length c6, .slice A7 m.kids.length c7] 32) _ rfl) hb2; clear t0 t1 t2 t3 t4 lt1; have hL2 := bblock hL hbw2; have t0 := bcellAt hL2 0 rfl; have t1 := bcellAt hL2 1 rfl; have t2 := bcellAt hL2 2 rfl; have t3 := bcellAt hL2 3 rfl; have t4 := bcellAt hL2 4 rfl; have lt1 := blockLt hL2; have n0 := bcellAt (v := .string m.name) nb2 0 rfl; have n1 := bcellAt (v := .slice A6 m.props.length c6) nb2 1 rfl; have n2 := bcellAt (v := .slice A7 m.kids.length c7) nb2 2 rfl; have ln := blockLt nb2; have hv2 := (hv1.below (balloc (brefl _) (.cells #[.string m.name, .slice A6 m.props.length c6, .slice A7 m.kids.length c7] 32))).below hb2)
        | (go_at_call 157; refine (hen _ hbw2).mono ?_; clear hen; rintro e w3 ⟨rfl, hb3⟩; have hbw3 := bstep hbw2 hb3; have nb3 := bblock nb2 hb3; clear n0 n1 n2 ln; have n0 := bcellAt (v := .string m.name) nb3 0 rfl; have n1 := bcellAt (v := .slice A6 m.props.length c6) nb3 1 rfl; have n2 := bcellAt (v := .slice A7 m.kids.length c7) nb3 2 rfl; have ln := blockLt nb3; have hv3 := hv2.below hb3))
      go_ret
      exact ⟨rfl, LkRes.same hlk hrow hbw3⟩
  · have hfin := hst0 g1
    have q2 : (e1 != 0) = true := by rw [bne_iff_ne]; exact g1
    subst hfin
    clear hst0 hof0 hon0 hkd hbus hwi0 hwr0 hbs hen g1
    go_enter Tryz.func71, Tryz.ntmps71
    go_wp2_with (first
      | (go_at_call 155; refine (hget _ (by repeat (first | assumption | exact Below.refl _ _ | with_reducible refine bset ?_ (by simp) _ | with_reducible refine balloc ?_ _ | with_reducible refine bdrew ?_ | with_reducible refine bdrewN ?_ _ | with_reducible refine bstep ?_ (by assumption)))).mono ?_; clear hget; rintro e w1 ⟨v1, rfl, hv1, hb1⟩; obtain ⟨A6, c6, A7, c7, rfl, hA6⟩ := hv1.form; clear hA6; clear t0 t1 t2 t3 t4 lt1; have hL1 := bblock hL (balloc hb1 (.cells #[.string m.name, .slice A6 m.props.length c6, .slice A7 m.kids.length c7] 32)); have t0 := bcellAt hL1 0 rfl; have t1 := bcellAt hL1 1 rfl; have t2 := bcellAt hL1 2 rfl; have t3 := bcellAt hL1 3 rfl; have t4 := bcellAt hL1 4 rfl; have lt1 := blockLt hL1)
      | (go_at_call 156; refine (hst _ _ _ (hv1.below (balloc (brefl _) _))).mono ?_; clear hst; rintro e w2 ⟨rfl, hb2⟩; have hbw2 := bstep (balloc hb1 _) hb2; have nb2 := bblock (blast w1 (.cells #[.string m.name, .slice A6 m.props.length c6, .slice A7 m.kids.length c7] 32) _ rfl) hb2; clear t0 t1 t2 t3 t4 lt1; have hL2 := bblock hL hbw2; have t0 := bcellAt hL2 0 rfl; have t1 := bcellAt hL2 1 rfl; have t2 := bcellAt hL2 2 rfl; have t3 := bcellAt hL2 3 rfl; have t4 := bcellAt hL2 4 rfl; have lt1 := blockLt hL2; have n0 := bcellAt (v := .string m.name) nb2 0 rfl; have n1 := bcellAt (v := .slice A6 m.props.length c6) nb2 1 rfl; have n2 := bcellAt (v := .slice A7 m.kids.length c7) nb2 2 rfl; have ln := blockLt nb2; have hv2 := (hv1.below (balloc (brefl _) (.cells #[.string m.name, .slice A6 m.props.length c6, .slice A7 m.kids.length c7] 32))).below hb2))
    go_ret
    exact ⟨rfl, LkRes.same hlk hrow hbw2⟩
end Go.Proofs.YtdfknlhfdbbogaaGreatDoor
