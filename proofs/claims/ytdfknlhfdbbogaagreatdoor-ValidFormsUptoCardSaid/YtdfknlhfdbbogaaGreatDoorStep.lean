/-
  xlate.step: an address one node further up. No condition.
-/
import Derived.Test.YtdfknlhfdbbogaaGreatDoorRanges
namespace Go.Proofs.YtdfknlhfdbbogaaGreatDoor
open Go.RowKit
set_option linter.unusedSimpArgs false
set_option linter.unusedVariables false
theorem SlA.rng_at {w : World} {ok : Nat → Prop} {A : Option Addr} {xs : List Rng} {j : Nat} {x : Rng} (h : SlA tRng w ok A xs) (hx : xs[j]? = some x) : ∃ b off, A = some ⟨b, off, none⟩ ∧ ok b ∧ b < w.heap.size ∧
    w.cell? ⟨b, off + j * 3, none⟩ = some (.int .u64 x.1) ∧ w.cell? ⟨b, off + j * 3 + 1, none⟩ = some (.int .u64 x.2.1) ∧ w.cell? ⟨b, off + j * 3 + 2, none⟩ = some (.int .u64 x.2.2) ∧ U64 x.1 ∧ U64 x.2.1 ∧ U64 x.2.2 := by
  obtain ⟨b, off, cs, rfl, hb, hlt, ⟨ds, es, rfl, ⟨rfl, h1, h2⟩, ⟨fs, gs, rfl, ⟨rfl, h3, h4⟩, rfl, h5, h6⟩⟩, hc⟩ := h.at hx
  exact ⟨b, off, rfl, hb, hlt, hc 0 _ rfl, hc 1 _ rfl, hc 2 _ rfl, U64.of_lt h1 h2, U64.of_lt h3 h4, U64.of_lt h5 h6⟩
theorem stepL_hit {a z : Int} {l : List Rng} {k : Nat} {r : Rng} (h : l[k]? = some r) (ha : ∀ q ∈ l.take k, insideB (q.1, q.2.2) a z = false) (hr : insideB (r.1, r.2.2) a z = true) :
    stepL a z l = if big < r.2.1 + (a - r.1) + z then (0, 12) else (r.2.1 + (a - r.1), 0) := by
  induction l generalizing k with
  | nil => simp at h
  | cons x l ih =>
    rw [stepL]
    rcases k with _ | k
    · simp at h
      subst h
      rw [if_pos hr]
    · rw [if_neg (by rw [ha x (by simp)]; simp)]
      exact ih (by simpa using h) fun q hq => ha q (by simp [hq])
theorem stepL_none {a z : Int} {l : List Rng} (ha : ∀ q ∈ l, insideB (q.1, q.2.2) a z = false) : stepL a z l = (0, 12) := by
  induction l with
  | nil => rfl
  | cons x l ih => rw [stepL, if_neg (by rw [ha x (by simp)]; simp)]; exact ih fun q hq => ha q (by simp [hq])
set_option maxRecDepth 100000 in
theorem step_walk (p n : Nd) (hp : p.size ≤ 1073741824) (hsz : n.size ≤ 1073741824) (a z : Int) (ha : U64 a) (hz : U64 z) (w : World) (okp okn : Nat → Prop) (vp v : Value) (hvp : NdV w okp vp p) (hv : NdV w okn v n) :
    Calls Tryz.prog 322 #[vp, v, .int .u64 a, .int .u64 z] w fun e w' => e = .returned (.tuple #[.int .u64 (stepM p n a z).1, .int .i64 (stepM p n a z).2]) ∧ U64 (stepM p n a z).1 ∧ Below w.heap.size w w' := by
  have hrng := fun w1 (h : Below w.heap.size w w1) => ranges_walk p n hp hsz w1 okp okn _ _ (hvp.below h) (hv.below h)
  obtain ⟨A1, c1, B1, d1, rfl, _, _, _, _, _, _⟩ := hvp.form
  obtain ⟨A2, c2, B2, d2, rfl, _, _, _, _, _, _⟩ := hv.form
  have hd : stepM p n a z = if (rangesM p n).2.2 ≠ 0 then (0, (rangesM p n).2.2) else stepL a z (rangesM p n).1 := rfl
  rw [hd]
  clear hd
  obtain ⟨l, f, e0, hr⟩ : ∃ l f e0, rangesM p n = (l, f, e0) := ⟨_, _, _, rfl⟩
  rw [hr] at hrng ⊢
  simp only at hrng ⊢
  clear hr
  by_cases g1 : e0 = 0
  · subst g1
    rw [if_neg (by simp)]
    obtain ⟨R, hR⟩ : ∃ R, R = stepL a z l := ⟨_, rfl⟩
    rw [← hR]
    have HR := Lib.hid hR
    clear hR
    go_enter Tryz.func322, Tryz.ntmps322
    go_wp2_with (first
      | (go_at_call 183; refine (hrng _ (by repeat (first | assumption | exact Below.refl _ _ | with_reducible refine bset ?_ (by simp) _ | with_reducible refine balloc ?_ _ | with_reducible refine bdrew ?_ | with_reducible refine bdrewN ?_ _ | with_reducible refine bstep ?_ (by assumption)))).mono ?_; clear hrng; rintro e w1 ⟨v1, rfl, hr1, hb1⟩; obtain ⟨A5, c5, rfl, hc5, hl5, ha5⟩ := hr1; have hbw := bstep (balloc (balloc (brefl w) _) _) hb1))
    go_loopw [28] (fun i wr => ∃ k : Nat, k ≤ l.length ∧ i = .int .i64 k ∧ (∀ q ∈ l.take k, insideB (q.1, q.2.2) a z = false) ∧ Below w1.heap.size w1 wr) (fun i _ => l.length - (intOf i).toNat)
    case atStart => exact ⟨0, by omega, rfl, by simp, brefl _⟩
    case round =>
      obtain ⟨k, hk, rfl, hall, hb⟩ := hrel
      have HA := Lib.hid hall
      clear hall
      by_cases hkl : k < l.length
      · have hx : l[k]? = some l[k] := List.getElem?_eq_getElem hkl
        obtain ⟨x, hxe⟩ : ∃ x, x = l[k] := ⟨_, rfl⟩
        rw [← hxe] at hx
        obtain ⟨b, off, rfl, hob, hlb, r0, r1, r2, hu0, hu1, hu2⟩ := (ha5.below hb).rng_at hx
        obtain ⟨x0, x1, x2⟩ := x
        simp only at r0 r1 r2 hu0 hu1 hu2
        have hin := fun w2 => inside_walk x0 x2 a z hu0 hu2 ha hz w2
        by_cases h1 : insideB (x0, x2) a z = true
        · obtain ⟨i1, i2, i3, i4⟩ := (insideB_iff _ _ _ _).1 h1
          have hfin := HR.out.trans (stepL_hit hx HA.out h1)
          simp only at hfin
          simp only [h1] at hin
          obtain ⟨a1, a2⟩ := ha
          obtain ⟨z1, z2⟩ := hz
          obtain ⟨u1, u2⟩ := hu0
          obtain ⟨u3, u4⟩ := hu1
          obtain ⟨u5, u6⟩ := hu2
          clear hxe hx h1 ha5
          by_cases g2 : 18446744073709551616 < x1 + (a - x0) + z
          · rw [if_pos (show big < _ from g2)] at hfin
            subst hfin
            have hbw2 := bstep hbw hb
            go_wp2_with (first
              | (go_at_call 212; refine (hin _).mono ?_; clear hin; rintro e w3 ⟨rfl, hb3⟩; have hbox := bblock (blast wr _ _ rfl) hb3; have d0 := bcellAt (v := .int .u64 x0) hbox 0 rfl; have d1 := bcellAt (v := .int .u64 x1) hbox 1 rfl; have d2 := bcellAt (v := .int .u64 x2) hbox 2 rfl; have hbw3 := bstep (balloc hbw2 _) hb3))
            all_goals (go_ret2; exact ⟨rfl, by first | exact ⟨by decide, by decide⟩ | exact ⟨by omega, by omega⟩, (by repeat (first | assumption | exact Below.refl _ _ | with_reducible refine bset ?_ (by simp) _ | with_reducible refine balloc ?_ _ | with_reducible refine bdrew ?_ | with_reducible refine bdrewN ?_ _ | with_reducible refine bstep ?_ (by assumption)))⟩)
          · rw [if_neg (show ¬ big < _ from g2)] at hfin
            subst hfin
            have hbw2 := bstep hbw hb
            go_wp2_with (first
              | (go_at_call 212; refine (hin _).mono ?_; clear hin; rintro e w3 ⟨rfl, hb3⟩; have hbox := bblock (blast wr _ _ rfl) hb3; have d0 := bcellAt (v := .int .u64 x0) hbox 0 rfl; have d1 := bcellAt (v := .int .u64 x1) hbox 1 rfl; have d2 := bcellAt (v := .int .u64 x2) hbox 2 rfl; have hbw3 := bstep (balloc hbw2 _) hb3))
            go_ret2
            exact ⟨rfl, by first | exact ⟨by decide, by decide⟩ | exact ⟨by omega, by omega⟩, (by repeat (first | assumption | exact Below.refl _ _ | with_reducible refine bset ?_ (by simp) _ | with_reducible refine balloc ?_ _ | with_reducible refine bdrew ?_ | with_reducible refine bdrewN ?_ _ | with_reducible refine bstep ?_ (by assumption)))⟩
        · have h2 : insideB (x0, x2) a z = false := by simpa using h1
          simp only [h2] at hin
          have hnext := all_snoc (P := fun q : Rng => insideB (q.1, q.2.2) a z = false) hx HA.out h2
          have HN := Lib.hid hnext
          have hbw2 := bstep hbw hb
          clear h1 h2 hnext hxe hx ha5
          go_wp2_with (first
            | (go_at_call 212; refine (hin _).mono ?_; clear hin; rintro e w3 ⟨rfl, hb3⟩))
          go_roundw
          case rel => exact ⟨k + 1, by omega, by go_num, HN.out, bstep (balloc hb _) hb3⟩
          case measure => simp [intOf]; omega
      · obtain rfl : k = l.length := by omega
        have h5 := HA.out
        rw [List.take_length] at h5
        have hfin := HR.out.trans (stepL_none h5)
        subst hfin
        have hbw2 := bstep hbw hb
        clear h5
        go_wp2_with fail
        go_ret2
        exact ⟨rfl, by first | exact ⟨by decide, by decide⟩ | exact ⟨by omega, by omega⟩, (by repeat (first | assumption | exact Below.refl _ _ | with_reducible refine bset ?_ (by simp) _ | with_reducible refine balloc ?_ _ | with_reducible refine bdrew ?_ | with_reducible refine bdrewN ?_ _ | with_reducible refine bstep ?_ (by assumption)))⟩
  · rw [if_pos g1]
    have g3 : (e0 != 0) = true := by rw [bne_iff_ne]; exact g1
    go_enter Tryz.func322, Tryz.ntmps322
    go_wp2_with (first
      | (go_at_call 183; refine (hrng _ (by repeat (first | assumption | exact Below.refl _ _ | with_reducible refine bset ?_ (by simp) _ | with_reducible refine balloc ?_ _ | with_reducible refine bdrew ?_ | with_reducible refine bdrewN ?_ _ | with_reducible refine bstep ?_ (by assumption)))).mono ?_; clear hrng; rintro e w1 ⟨v1, rfl, hr1, hb1⟩))
    go_ret2
    exact ⟨rfl, by first | exact ⟨by decide, by decide⟩ | exact ⟨by omega, by omega⟩, (by repeat (first | assumption | exact Below.refl _ _ | with_reducible refine bset ?_ (by simp) _ | with_reducible refine balloc ?_ _ | with_reducible refine bdrew ?_ | with_reducible refine bdrewN ?_ _ | with_reducible refine bstep ?_ (by assumption)))⟩
theorem getN_le (t : Tr) (place : List Int) : (getN t place).1.size ≤ t.root.size := by
  have := Nd.size_pos t.root
  unfold getN
  split
  · exact this
  · cases h : downN t.root place with
    | some n => exact downN_size h
    | none => exact this
end Go.Proofs.YtdfknlhfdbbogaaGreatDoor
