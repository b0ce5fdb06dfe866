/-
  valid: way. No condition.
-/
import Derived.Test.YtdfknlhfdbbogaaGreatDoorBus
namespace Go.Proofs.YtdfknlhfdbbogaaGreatDoor
open Go.RowKit
set_option linter.unusedSimpArgs false
set_option linter.unusedVariables false
def wayB (t : Tr) (x : Ln) : Bool := decide (x.1 = [] ∨ (ofM t x.1).2 ≠ 0 ∨ (enabledM t x.1).2 ≠ 0 ∨ (ofM t x.1).1 ≠ 7 ∨ (enabledM t x.1).1 = false)
theorem wayL_stop {t : Tr} {l : List Ln} {k : Nat} {x : Ln} (h : l[k]? = some x) (ha : ∀ q ∈ l.take k, wayB t q = false) (hx : wayB t x = true) : wayL t l = 15 := by
  induction l generalizing k with
  | nil => simp at h
  | cons a r ih =>
    rw [wayL]
    rcases k with _ | k
    · simp at h
      subst h
      rw [if_pos (of_decide_eq_true hx)]
    · rw [if_neg (of_decide_eq_false (ha a (by simp)))]
      exact ih (by simpa using h) fun q hq => ha q (by simp [hq])
theorem wayL_all {t : Tr} {l : List Ln} (ha : ∀ q ∈ l, wayB t q = false) : wayL t l = 0 := by
  induction l with
  | nil => rfl
  | cons a r ih => rw [wayL, if_neg (of_decide_eq_false (ha a (by simp)))]; exact ih fun q hq => ha q (by simp [hq])
theorem wayM_err {t : Tr} {l : Ln} {a : Ln} {way : List Ln} {e : Int} (h : rootM t l = (a, way, e)) (he : e ≠ 0) : wayM t l = e := by unfold wayM; rw [h]; simp only; rw [if_pos he]
theorem wayM_over {t : Tr} {l : Ln} {a : Ln} {way : List Ln} (h : rootM t l = (a, way, 0)) (ho : way.any (fun x => decide (32 ≤ x.2)) = true) : wayM t l = 12 := by unfold wayM; rw [h]; simp only; rw [if_neg (by simp), if_pos ho]
theorem wayM_go {t : Tr} {l : Ln} {a : Ln} {way : List Ln} (h : rootM t l = (a, way, 0)) (ho : way.any (fun x => decide (32 ≤ x.2)) = false) : wayM t l = wayL t way := by unfold wayM; rw [h]; simp only; rw [if_neg (by simp), if_neg (by simp [ho])]
set_option maxRecDepth 100000 in
set_option maxHeartbeats 2000000 in
theorem way_walk (t : Tr) (hsz : t.root.size ≤ 536870912) (l0 : Ln) (hl0 : 0 ≤ l0.2) (hl1 : l0.2 < 4294967296) (w : World) (hw : Wd w) (g : Nat) (c : Int) (vl : Value) (okp : Nat → Prop) (pv : Value) (hl : LkB w g t c vl) (hp : Sl tInt w okp pv l0.1) :
    Calls Tryz.prog 263 #[.pointer (some ⟨g, 0, none⟩), .agg #[pv, .int .u32 l0.2]] w fun e w' => e = .returned (.int .i64 (wayM t l0)) ∧ Below w.heap.size w w' := by
  obtain ⟨A1, c1, A2, c2, A3, c3, hL, hT⟩ := hl
  have hroot := fun w1 pv1 (h : Below w.heap.size w w1) (hp1 : Sl tInt w1 okp pv1 l0.1) => root_walk t hsz l0 hl0 hl1 w1 (· < g) okp _ pv1 (hT.below h) hp1
  have herr := fun a way e => wayM_err (t := t) (l := l0) (a := a) (way := way) (e := e)
  have hover := fun a way => wayM_over (t := t) (l := l0) (a := a) (way := way)
  have hgo := fun a way => wayM_go (t := t) (l := l0) (a := a) (way := way)
  obtain ⟨R, hR⟩ : ∃ R, R = wayM t l0 := ⟨_, rfl⟩
  rw [← hR]
  simp only [← hR] at herr hover hgo
  clear hR
  obtain ⟨la, way, e1, hr⟩ : ∃ la way e1, rootM t l0 = (la, way, e1) := ⟨_, _, _, rfl⟩
  have herr := fun h => herr la way e1 hr h
  have hover := fun (h : e1 = 0) => hover la way (by rw [hr, h])
  have hgo := fun (h : e1 = 0) => hgo la way (by rw [hr, h])
  simp only [hr] at hroot
  clear hr
  obtain ⟨A4, c4, rfl, hc4, hl4, ha4⟩ := id hp
  obtain ⟨ln0, hln⟩ : ∃ x, x = l0.2 := ⟨_, rfl⟩
  simp only [← hln] at hroot hl0 hl1 ⊢
  have t0 := bcellAt hL 0 rfl
  have t1 := bcellAt hL 1 rfl
  have t2 := bcellAt hL 2 rfl
  have t3 := bcellAt hL 3 rfl
  have t4 := bcellAt hL 4 rfl
  have lt1 := blockLt hL
  clear ha4 hln
  go_enter Tryz.func263, Tryz.ntmps263
  go_upto_region 1 with fail
  obtain ⟨W, hW⟩ : ∃ W, W = w.alloc (.cells #[.slice A4 l0.1.length c4, .int .u32 ln0] 331) := ⟨_, rfl⟩
  rw [← hW]
  have hWb : Below w.heap.size w W := by rw [hW]; exact balloc (brefl _) _
  have hnb : W.heap[w.heap.size]? = some (.cells #[.slice A4 l0.1.length c4, .int .u32 ln0] 331 (0, 0)) := by rw [hW]; exact blast _ _ _ rfl
  have t0 := bkeep hWb t0
  have t1 := bkeep hWb t1
  have t2 := bkeep hWb t2
  have t3 := bkeep hWb t3
  have t4 := bkeep hWb t4
  have n0 := bcellAt (v := .slice A4 l0.1.length c4) hnb 0 rfl
  have n1 := bcellAt (v := .int .u32 ln0) hnb 1 rfl
  have lb1 := blockLt hnb
  have lt1 := Nat.lt_of_lt_of_le lt1 hWb.size
  clear hW
  go_cut [6, 7] (fun a b wx => ∃ (Aw : Option Addr) (cw : Nat), a = .slice Aw way.length cw ∧ b = .int .i64 e1 ∧ Sl tLn wx (W.heap.size ≤ ·) (.slice Aw way.length cw) way ∧ Below W.heap.size W wx)
  case first =>
    go_region_law (first
      | (go_simp; go_at_call 292; (refine (hroot _ _ (bstep hWb ?_) (hp.below (bstep hWb ?_))).mono ?_); exact (by repeat (first | assumption | exact Below.refl _ _ | with_reducible refine bset ?_ (by simp) _ | with_reducible refine balloc ?_ _ | with_reducible refine bdrew ?_ | with_reducible refine bdrewN ?_ _ | with_reducible refine bstep ?_ (by assumption))); exact (by repeat (first | assumption | exact Below.refl _ _ | with_reducible refine bset ?_ (by simp) _ | with_reducible refine balloc ?_ _ | with_reducible refine bdrew ?_ | with_reducible refine bdrewN ?_ _ | with_reducible refine bstep ?_ (by assumption))); rintro e w5 ⟨v5, wv, rfl, hs5, hrow5, hu0, hu1, hb5⟩; have hsl5 := hrow5.sl; obtain ⟨A6, c6, rfl, hA6⟩ := hs5; obtain ⟨A7, c7, rfl, hA7⟩ := id hsl5; clear hA6 hA7; (try (have hz : w5.heap[W.heap.size]? = some (.cells #[.slice none 0 0, .int .u32 0] 331 (0, 0)) := bblock (blast W.drew _ W.heap.size rfl) hb5; have z0 := bcellAt (v := .slice none 0 0) hz 0 rfl; have z1 := bcellAt (v := .int .u32 0) hz 1 rfl; have y0 := bfrozenAt hz 0; have y1 := bfrozenAt hz 1; have zl := blockLt hz; have HZ := Lib.hid hz; clear hz))))
    all_goals go_wp2_with fail
    all_goals go_meet
    all_goals first
      | (refine ⟨A7, c7, ?_, ?_, ?_, ?_⟩; (with_reducible rfl); (with_reducible rfl); exact ((hsl5.below (balloc (brefl _) _)).mono fun k h _ => h); exact balloc (bstep (bdrew (brefl W)) hb5) _)
      | (refine ⟨A7, c7, ?_, ?_, ?_, ?_⟩; (with_reducible rfl); (with_reducible rfl); exact ((hsl5.move (w1 := (w5.setCell ⟨W.heap.size, 0, none⟩ _).setCell ⟨W.heap.size, 1, none⟩ _) fun j h hlt => by have h9 : (W.alloc (.cells #[.slice none 0 0, .int .u32 0] 331)).drew.heap.size ≤ j := h; simp at h9; rw [Below.heap_setCell _ _ _ _ (by simp; omega), Below.heap_setCell _ _ _ _ (by simp; omega)]).mono fun j h _ => by have h9 : (W.alloc (.cells #[.slice none 0 0, .int .u32 0] 331)).drew.heap.size ≤ j := h; simp at h9; show W.heap.size ≤ j; omega); exact bset (bset (bstep (bdrew (balloc (brefl W) _)) hb5) (by simp) _) (by simp) _)
  case rest =>
    obtain ⟨Aw, cw, rfl, rfl, hsw, hbx⟩ := hcut
    clear t0 t1 t2 t3 t4 n0 n1 hroot hnb lb1 lt1
    have hbw := bstep hWb hbx
    have hlnw : way.length ≤ 9223372036854775807 := by obtain ⟨_, _, _, _, h, _⟩ := hsw; exact h
    clear hbx hWb
    by_cases g1 : e1 = 0
    · subst g1
      clear herr
      obtain ⟨q, hq⟩ : ∃ q, q = way.any (fun x => decide (32 ≤ x.2)) := ⟨_, rfl⟩
      have hcon := fun w1 ok1 v1 h => ln_contains way w1 ok1 v1 h (fun x => decide (32 ≤ x.2)) (fun W2 x A c _ _ _ _ _ => over_walk x A c W2)
      simp only [← hq] at hcon hover hgo
      clear hq
      cases q
      · have hRw := hgo trivial rfl
        have HR := Lib.hid hRw
        clear hover hgo hRw
        go_wp2_with (first
          | (go_at_call 312; refine (hcon _ _ _ hsw).mono ?_; clear hcon; rintro e w7 ⟨rfl, hb7⟩; have hbw7 := bstep hbw hb7; have hsw7 := hsw.below hb7))
        go_loopw [31] (fun i wr => ∃ k : Nat, k ≤ way.length ∧ i = .int .i64 k ∧ (∀ q ∈ way.take k, wayB t q = false) ∧ Below w7.heap.size w7 wr) (fun i _ => way.length - (intOf i).toNat)
        case atStart => exact ⟨0, by omega, rfl, by simp, brefl _⟩
        case round =>
          obtain ⟨k, hk, rfl, hall, hb⟩ := hrel
          have HALL := Lib.hid hall
          have hbr := bstep hbw7 hb
          clear hall
          by_cases hkl : k < way.length
          · have hx : way[k]? = some way[k] := List.getElem?_eq_getElem hkl
            obtain ⟨x, hxe⟩ : ∃ x, x = way[k] := ⟨_, rfl⟩
            rw [← hxe] at hx
            have HX := Lib.hid hx
            obtain ⟨A7, c7, he7, hc7, _, ha7⟩ := hsw7.below hb
            injection he7 with i1 i2 i3
            subst i1
            subst i3
            obtain ⟨b, off, Ax, cx, rfl, hob, hlb, r0, r1, hx0, hx1, hsx⟩ := ha7.ln_at hx
            clear hx hxe ha7 hsw7
            have hk1 : (k : Int) < (way.length : Int) := by omega
            have hk0 : (0 : Int) ≤ (k : Int) := by omega
            go_upto_region 9 with fail
            obtain ⟨V, hV⟩ : ∃ V, V = wr.alloc (.cells #[.slice Ax x.1.length cx, .int .u32 x.2] 331) := ⟨_, rfl⟩
            rw [← hV]
            have hVb : Below wr.heap.size wr V := by rw [hV]; exact balloc (brefl _) _
            have hxb : V.heap[wr.heap.size]? = some (.cells #[.slice Ax x.1.length cx, .int .u32 x.2] 331 (0, 0)) := by rw [hV]; exact blast _ _ _ rfl
            have hbV := bstep hbr hVb
            have hL2 := bblock hL hbV
            have t0 := bcellAt hL2 0 rfl
            have t1 := bcellAt hL2 1 rfl
            have t2 := bcellAt hL2 2 rfl
            have t3 := bcellAt hL2 3 rfl
            have t4 := bcellAt hL2 4 rfl
            have lt1 := blockLt hL2
            have x0 := bcellAt (v := .slice Ax x.1.length cx) hxb 0 rfl
            have lx := blockLt hxb
            have hof := fun w1 (h : Below V.heap.size V w1) => ofT_walk t hsz x.1 w1 (hw.below (bstep hbV h)) _ _ _ _ (hT.below (bstep hbV h)) ((hsx.below hVb).below h)
            have hen := fun w1 (h : Below V.heap.size V w1) => enabled_walk t hsz x.1 w1 _ _ _ _ (hT.below (bstep hbV h)) ((hsx.below hVb).below h)
            have hwb : wayB t x = decide (x.1 = [] ∨ (ofM t x.1).2 ≠ 0 ∨ (enabledM t x.1).2 ≠ 0 ∨ (ofM t x.1).1 ≠ 7 ∨ (enabledM t x.1).1 = false) := rfl
            obtain ⟨p1, p2, hp1⟩ : ∃ p1 p2, ofM t x.1 = (p1, p2) := ⟨_, _, rfl⟩
            obtain ⟨s1, s2, hs1⟩ : ∃ s1 s2, enabledM t x.1 = (s1, s2) := ⟨_, _, rfl⟩
            simp only [hp1] at hof hwb
            simp only [hs1] at hen hwb
            have HWB := Lib.hid hwb
            clear hp1 hs1 hwb r0 r1 hV
            go_cut [10, 11] (fun a b wx => a = .int .i64 p1 ∧ b = .int .i64 p2 ∧ Below V.heap.size V wx)
            case first =>
              go_region_law (first
                | (go_simp; go_at_call 163; (refine (hof _ ?_).mono ?_); exact (by repeat (first | assumption | exact Below.refl _ _ | with_reducible refine bset ?_ (by simp) _ | with_reducible refine balloc ?_ _ | with_reducible refine bdrew ?_ | with_reducible refine bdrewN ?_ _ | with_reducible refine bstep ?_ (by assumption))); rintro e w5 ⟨rfl, hb5⟩))
              all_goals go_wp2_with fail
              all_goals go_meet
              all_goals exact ⟨rfl, rfl, bstep (bdrew (brefl V)) hb5⟩
            case rest =>
              obtain ⟨rfl, rfl, hb5⟩ := hcut
              have t0 := bkeep hb5 t0
              have t1 := bkeep hb5 t1
              have t2 := bkeep hb5 t2
              have t3 := bkeep hb5 t3
              have t4 := bkeep hb5 t4
              have x0 := bkeep hb5 x0
              have lt1 := Nat.lt_of_lt_of_le lt1 hb5.size
              have lx := Nat.lt_of_lt_of_le lx hb5.size
              clear hof
              obtain ⟨wd, hwd⟩ : ∃ wd, wd = wc := ⟨_, rfl⟩
              rw [← hwd] at t0 t1 t2 t3 t4 x0 lt1 lx hb5 ⊢
              clear hwd
              go_upto_region 10 with fail
              go_cut [12, 13] (fun a b wx => a = .bool s1 ∧ b = .int .i64 s2 ∧ Below V.heap.size V wx)
              case first =>
                go_region_law (first
                  | (go_simp; go_at_call 157; (refine (hen _ (bstep hb5 ?_)).mono ?_); exact (by repeat (first | assumption | exact Below.refl _ _ | with_reducible refine bset ?_ (by simp) _ | with_reducible refine balloc ?_ _ | with_reducible refine bdrew ?_ | with_reducible refine bdrewN ?_ _ | with_reducible refine bstep ?_ (by assumption))); rintro e w6 ⟨rfl, hb6⟩))
                all_goals go_wp2_with fail
                all_goals go_meet
                all_goals exact ⟨rfl, rfl, bstep hb5 (bstep (bdrew (brefl wd)) hb6)⟩
              case rest =>
                obtain ⟨rfl, rfl, hb6⟩ := hcut
                have hxb2 := bblock hxb hb6
                have x0 := bcellAt (v := .slice Ax x.1.length cx) hxb2 0 rfl
                clear t0 t1 t2 t3 t4 hen
                have stop : wayB t x = true → R = 15 := fun h => HR.out.trans (wayL_stop HX.out HALL.out h)
                have next : wayB t x = false → ∀ q ∈ way.take (k + 1), wayB t q = false := fun h => all_snoc HX.out HALL.out h
                by_cases c1 : x.1 = []
                · have q1 : ((x.1.length : Int) == 0) = true := by rw [c1]; rfl
                  have hfin := stop (by rw [HWB.out]; exact decide_eq_true (.inl c1))
                  subst hfin
                  clear stop next c1
                  go_wp2_with fail
                  go_ret
                  exact ⟨rfl, bstep hbV hb6⟩
                · have q1 : ((x.1.length : Int) == 0) = false := by rw [beq_eq_false_iff_ne]; have := List.length_pos_iff.2 c1; omega
                  by_cases c2 : p2 = 0
                  · subst c2
                    by_cases c3 : s2 = 0
                    · subst c3
                      by_cases c4 : p1 = 7
                      · subst c4
                        cases s1
                        · have hfin := stop (by rw [HWB.out]; exact decide_eq_true (.inr (.inr (.inr (.inr rfl)))))
                          subst hfin
                          clear stop next c1
                          go_wp2_with fail
                          go_ret
                          exact ⟨rfl, bstep hbV hb6⟩
                        · have hn := next (by rw [HWB.out]; exact decide_eq_false (by rintro (h | h | h | h | h); exact c1 h; exact h rfl; exact h rfl; exact h rfl; cases h))
                          have HN := Lib.hid hn
                          clear stop next hn c1
                          go_wp2_with fail
                          go_roundw
                          case rel => exact ⟨k + 1, by omega, by go_num, HN.out, bstep hb (bstep hVb hb6)⟩
                          case measure => simp [intOf]; omega
                      · have q4 : (p1 != 7) = true := by rw [bne_iff_ne]; exact c4
                        have hfin := stop (by rw [HWB.out]; exact decide_eq_true (.inr (.inr (.inr (.inl c4)))))
                        subst hfin
                        clear stop next c1 c4
                        go_wp2_with fail
                        go_ret
                        exact ⟨rfl, bstep hbV hb6⟩
                    · have q3 : (s2 != 0) = true := by rw [bne_iff_ne]; exact c3
                      have hfin := stop (by rw [HWB.out]; exact decide_eq_true (.inr (.inr (.inl c3))))
                      subst hfin
                      clear stop next c1 c3
                      go_wp2_with fail
                      go_ret
                      exact ⟨rfl, bstep hbV hb6⟩
                  · have q2 : (p2 != 0) = true := by rw [bne_iff_ne]; exact c2
                    have hfin := stop (by rw [HWB.out]; exact decide_eq_true (.inr (.inl c2)))
                    subst hfin
                    clear stop next c1 c2
                    go_wp2_with fail
                    go_ret
                    exact ⟨rfl, bstep hbV hb6⟩
          · obtain rfl : k = way.length := by omega
            have hall := HALL.out
            rw [List.take_length] at hall
            have hfin : R = 0 := HR.out.trans (wayL_all hall)
            clear hall
            subst hfin
            go_wp2_with fail
            go_ret
            exact ⟨rfl, hbr⟩
      · have hfin := hover trivial rfl
        subst hfin
        clear hover hgo
        go_wp2_with (first
          | (go_at_call 312; refine (hcon _ _ _ hsw).mono ?_; clear hcon; rintro e w7 ⟨rfl, hb7⟩))
        go_ret
        exact ⟨rfl, bstep hbw hb7⟩
    · have hfin := herr g1
      have q2 : (e1 != 0) = true := by rw [bne_iff_ne]; exact g1
      subst hfin
      clear hover hgo herr g1
      go_wp2_with fail
      go_ret
      exact ⟨rfl, hbw⟩
end Go.Proofs.YtdfknlhfdbbogaaGreatDoor
