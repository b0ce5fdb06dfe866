/-
  valid: buses, window. No condition.
-/
import Derived.Test.YtdfknlhfdbbogaaGreatDoorLook
namespace Go.Proofs.YtdfknlhfdbbogaaGreatDoor
open Go.RowKit
set_option linter.unusedSimpArgs false
set_option linter.unusedVariables false
def busAt (t : Tr) (place : List Int) (k : Nat) : Bool := decide (k = 0 ∨ ((ofM t (place.take k)).2 = 0 ∧ (ofM t (place.take k)).1 = 1))
theorem busesM_eq (t : Tr) (place : List Int) : busesM t place = (List.range place.length).all (busAt t place) := rfl
theorem range_all_next {f : Nat → Bool} {k : Nat} (h : (List.range k).all f = true) (hk : f k = true) : (List.range (k + 1)).all f = true := by
  rw [List.range_succ, List.all_append, h]
  simp [hk]
theorem range_all_stop {f : Nat → Bool} {k n : Nat} (hn : k < n) (hk : f k = false) : (List.range n).all f = false := by
  rw [List.all_eq_false]
  exact ⟨k, List.mem_range.2 hn, by simp [hk]⟩
set_option maxRecDepth 100000 in
theorem buses_walk (t : Tr) (hsz : t.root.size ≤ 536870912) (place : List Int) (w : World) (hw : Wd w) (g : Nat) (c : Int) (vl : Value) (okp : Nat → Prop) (pv : Value) (hl : LkB w g t c vl) (hp : Sl tInt w okp pv place) :
    Calls Tryz.prog 160 #[.pointer (some ⟨g, 0, none⟩), pv] w fun e w' => e = .returned (.bool (busesM t place)) ∧ Below w.heap.size w w' := by
  obtain ⟨A1, c1, A2, c2, A3, c3, hL, hT⟩ := hl
  obtain ⟨A4, c4, rfl, hc4, hl4, ha4⟩ := hp
  rw [busesM_eq]
  obtain ⟨R, hR⟩ : ∃ R, R = (List.range place.length).all (busAt t place) := ⟨_, rfl⟩
  rw [← hR]
  have HR := Lib.hid hR
  clear hR
  go_enter Tryz.func160, Tryz.ntmps160
  go_wp2_with fail
  go_loopw [5] (fun i wr => ∃ k : Nat, 1 ≤ k ∧ k ≤ max 1 place.length ∧ i = .int .i64 k ∧ (List.range k).all (busAt t place) = true ∧ Below w.heap.size w wr) (fun i _ => place.length + 1 - (intOf i).toNat)
  case atStart => exact ⟨1, by omega, by omega, rfl, by simp [busAt], (by repeat (first | assumption | exact Below.refl _ _ | with_reducible refine bset ?_ (by simp) _ | with_reducible refine balloc ?_ _ | with_reducible refine bdrew ?_ | with_reducible refine bdrewN ?_ _ | with_reducible refine bstep ?_ (by assumption)))⟩
  case round =>
    obtain ⟨k, hk1, hk2, rfl, hall, hb⟩ := hrel
    have HALL := Lib.hid hall
    clear hall
    by_cases hkl : k < place.length
    · have hpl := Sl.cut0 (T := tInt) rfl ha4 hc4 hl4 k (by omega)
      have hof := fun w1 (h : Below w.heap.size w w1) => ofT_walk t hsz (place.take k) w1 (hw.below h) (· < g) okp _ _ (hT.below h) (hpl.below h)
      obtain ⟨q1, q2, hq⟩ : ∃ q1 q2, ofM t (place.take k) = (q1, q2) := ⟨_, _, rfl⟩
      have hba : busAt t place k = decide (q2 = 0 ∧ q1 = 1) := by unfold busAt; rw [hq]; congr 1; rw [eq_iff_iff]; constructor; rintro (h | h); omega; exact h; exact .inr
      simp only [hq] at hof
      have HBA := Lib.hid hba
      clear hq hba
      have e1 : IntKind.i64.wrap (k : Int) = (k : Int) := by rw [IntKind.wrap_i64]; omega
      have e2 : (0 : Int) ≤ (k : Int) := by omega
      have e3 : (k : Int) ≤ (c4 : Int) := by omega
      have e4 : (k : Int) < (place.length : Int) := by omega
      have hL2 := bblock hL hb
      have t0 := bcellAt hL2 0 rfl
      have t1 := bcellAt hL2 1 rfl
      have t2 := bcellAt hL2 2 rfl
      have t3 := bcellAt hL2 3 rfl
      have t4 := bcellAt hL2 4 rfl
      have lt1 := blockLt hL2
      go_upto_region 4 with fail
      go_cut [6, 7] (fun a b wx => a = .int .i64 q1 ∧ b = .int .i64 q2 ∧ Below wr.heap.size wr wx)
      case first =>
        go_region_law (first
          | (go_simp; go_at_call 163; (refine (hof _ ?_).mono ?_); exact (by repeat (first | assumption | exact Below.refl _ _ | with_reducible refine bset ?_ (by simp) _ | with_reducible refine balloc ?_ _ | with_reducible refine bdrew ?_ | with_reducible refine bdrewN ?_ _ | with_reducible refine bstep ?_ (by assumption))); rintro e w5 ⟨rfl, hb5⟩))
        all_goals go_wp2_with fail
        all_goals go_meet
        all_goals exact ⟨rfl, rfl, bstep (bdrew (brefl wr)) hb5⟩
      case rest =>
        obtain ⟨rfl, rfl, hbx⟩ := hcut
        clear hof t0 t1 t2 t3 t4
        by_cases g2 : q2 = 0 ∧ q1 = 1
        · obtain ⟨rfl, rfl⟩ := g2
          go_wp2_with fail
          go_roundw
          case rel => exact ⟨k + 1, by omega, by omega, by go_num, range_all_next HALL.out (by rw [HBA.out]; rfl), bstep hb hbx⟩
          case measure => simp [intOf]; omega
        · have hfin : R = false := by rw [HR.out]; exact range_all_stop hkl (by rw [HBA.out]; exact decide_eq_false g2)
          subst hfin
          by_cases g3 : q2 = 0
          · have q6 : (q1 != 1) = true := by rw [bne_iff_ne]; exact fun h => g2 ⟨g3, h⟩
            subst g3
            clear g2
            go_wp2_with fail
            go_ret
            exact ⟨rfl, bstep hb hbx⟩
          · have q6 : (q2 != 0) = true := by rw [bne_iff_ne]; exact g3
            clear g2 g3
            go_wp2_with fail
            go_ret
            exact ⟨rfl, bstep hb hbx⟩
    · have hfin : R = true := by
        rw [HR.out]
        rcases Nat.eq_zero_or_pos place.length with h0 | h0
        · rw [h0]; rfl
        · rw [show place.length = k by omega]; exact HALL.out
      subst hfin
      go_wp2_with fail
      go_ret
      exact ⟨rfl, hb⟩
end Go.Proofs.YtdfknlhfdbbogaaGreatDoor
