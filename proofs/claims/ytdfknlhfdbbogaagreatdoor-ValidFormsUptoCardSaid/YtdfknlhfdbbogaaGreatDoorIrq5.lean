/-
  irq: Through. No condition.
-/
import Derived.Test.YtdfknlhfdbbogaaGreatDoorIrq4
namespace Go.Proofs.YtdfknlhfdbbogaaGreatDoor
open Go.RowKit
set_option linter.unusedSimpArgs false
set_option linter.unusedVariables false
theorem throughK_succ (t : Tr) (k : Nat) (l : Ln) : throughK t (k + 1) l = if (getN t l.1).2 ≠ 0 then (([], 0), (getN t l.1).2)
    else if controllerM (getN t l.1).1 = true then (l, 0)
    else if (mappedM t (getN t l.1).1 l.2).2 ≠ 0 then (([], 0), (mappedM t (getN t l.1).1 l.2).2)
    else throughK t k (mappedM t (getN t l.1).1 l.2).1 := rfl
theorem getN_len {t : Tr} {l : List Int} (h : (getN t l).2 = 0) : l.length ≤ 16 := by
  unfold getN at h
  split at h
  · cases h
  · omega
set_option maxRecDepth 100000 in
set_option maxHeartbeats 2000000 in
theorem through_walk (t : Tr) (hsz : t.root.size ≤ 536870912) (l0 : Ln) (hl0 : 0 ≤ l0.2) (hl1 : l0.2 < 4294967296) (w : World) (ok okp : Nat → Prop) (v pv : Value) (hv : TrV w ok v t) (hp : Sl tInt w okp pv l0.1) :
    Calls Tryz.prog 186 #[v, .agg #[pv, .int .u32 l0.2]] w fun e w' => ∃ pv', e = .returned (.tuple #[.agg #[pv', .int .u32 (throughM t l0).1.2], .int .i64 (throughM t l0).2]) ∧ Sl tInt w' (w.heap.size ≤ ·) pv' (throughM t l0).1.1 ∧ 0 ≤ (throughM t l0).1.2 ∧ (throughM t l0).1.2 < 4294967296 ∧ Below w.heap.size w w' := by
  obtain ⟨A1, c1, A2, c2, A3, c3, rfl, hrl⟩ := hv.form
  obtain ⟨R, hR⟩ : ∃ R, R = throughM t l0 := ⟨_, rfl⟩
  rw [← hR]
  have hR2 : R = throughK t 16 l0 := hR
  have HR := Lib.hid hR2
  clear hR hR2
  have hpx : Sl tInt w (fun k => k ≠ w.heap.size ∧ k ≠ w.heap.size + 1 ∧ k ≠ w.heap.size + 2) pv l0.1 := hp.mono fun k _ h => ⟨by omega, by omega, by omega⟩
  clear hp
  go_enter Tryz.func186, Tryz.ntmps186
  go_wp2_with fail
  go_loopw [8] (fun i wr => ∃ (k : Nat) (pv1 : Value) (l : Ln), k ≤ 16 ∧ i = .int .i64 k ∧ R = throughK t (16 - k) l ∧ 0 ≤ l.2 ∧ l.2 < 4294967296 ∧
    Sl tInt wr (fun k => k ≠ w.heap.size ∧ k ≠ w.heap.size + 1 ∧ k ≠ w.heap.size + 2) pv1 l.1 ∧
    wr.heap[w.heap.size]? = some (.cells #[.int .u32 t.boot, .slice A1 t.res.length c1, .string t.root.name, .slice A2 t.root.props.length c2, .slice A3 t.root.kids.length c3] 34 (0, 0)) ∧
    wr.heap[w.heap.size + 1]? = some (.cells #[pv1, .int .u32 l.2] 331 (0, 0)) ∧
    wr.heap[w.heap.size + 2]? = some (.cells #[.slice none 0 0, .int .u32 0] 331 (0, 0)) ∧ Below w.heap.size w wr) (fun i _ => 16 - (intOf i).toNat)
  case atStart => exact ⟨0, pv, l0, by omega, rfl, HR.out, hl0, hl1, hpx.below (by repeat (first | assumption | exact Below.refl _ _ | with_reducible refine bset ?_ (by simp) _ | with_reducible refine balloc ?_ _ | with_reducible refine bdrew ?_ | with_reducible refine bdrewN ?_ _ | with_reducible refine bstep ?_ (by assumption))), (by repeat (first | assumption | exact blast _ _ _ (by simp) | with_reducible refine bblock_alloc ?_ _)), (by repeat (first | assumption | exact blast _ _ _ (by simp) | with_reducible refine bblock_alloc ?_ _)), (by repeat (first | assumption | exact blast _ _ _ (by simp) | with_reducible refine bblock_alloc ?_ _)), (by repeat (first | assumption | exact Below.refl _ _ | with_reducible refine bset ?_ (by simp) _ | with_reducible refine balloc ?_ _ | with_reducible refine bdrew ?_ | with_reducible refine bdrewN ?_ _ | with_reducible refine bstep ?_ (by assumption)))⟩
  case round =>
    clear hpx HR hl0 hl1
    obtain ⟨k, pv1, l, hk, rfl, hRe, hl0, hl1, hp, hT, hL, hS, hb⟩ := hrel
    by_cases hkl : k < 16
    · rw [show 16 - k = (15 - k) + 1 by omega, throughK_succ] at hRe
      obtain ⟨Al, cl, rfl, hcl, hll, hal⟩ := id hp
      clear hcl hal
      have hget := get_walk t (by omega) l.1 wr (fun j => ok j ∨ (j ≠ w.heap.size ∧ j ≠ w.heap.size + 1 ∧ j ≠ w.heap.size + 2)) _ _ ((hv.mono fun j h _ => Or.inl h).below hb) (hp.mono fun j h _ => Or.inr h)
      have hns := getN_le t l.1
      have hgl := getN_len (t := t) (l := l.1)
      obtain ⟨n, e1, hge⟩ : ∃ n e1, getN t l.1 = (n, e1) := ⟨_, _, rfl⟩
      simp only [hge] at hget hRe hns hgl
      clear hge
      have T0 := hT
      have L0 := hL
      have S0 := hS
      have t0 := bcellAt (v := .int .u32 t.boot) T0 0 rfl
      have t1 := bcellAt (v := .slice A1 t.res.length c1) T0 1 rfl
      have t2 := bcellAt (v := .string t.root.name) T0 2 rfl
      have t3 := bcellAt (v := .slice A2 t.root.props.length c2) T0 3 rfl
      have t4 := bcellAt (v := .slice A3 t.root.kids.length c3) T0 4 rfl
      have l0 := bcellAt (v := .slice Al l.1.length cl) L0 0 rfl
      have l1 := bcellAt (v := .int .u32 l.2) L0 1 rfl
      have m0 := bfrozenAt L0 0
      have m1 := bfrozenAt L0 1
      have s0 := bcellAt (v := .slice none 0 0) S0 0 rfl
      have s1 := bcellAt (v := .int .u32 0) S0 1 rfl
      have y0 := bfrozenAt S0 0
      have y1 := bfrozenAt S0 1
      have lt0 := blockLt S0
      clear hT hL hS
      by_cases g1 : e1 = 0
      · subst g1
        rw [if_neg (by simp)] at hRe
        have hgl := hgl rfl
        have hcon := fun w1 ok1 v1 h => controller_walk n (by omega) w1 ok1 v1 h
        have hmap := fun w1 ok1 ok2 v1 v2 h1 h2 => mapped_walk t hsz n (by omega) l.2 hl0 hl1 w1 ok1 ok2 v1 v2 h1 h2
        obtain ⟨q, hq⟩ : ∃ q, q = controllerM n := ⟨_, rfl⟩
        simp only [← hq] at hcon hRe
        obtain ⟨ln, e2, hme⟩ : ∃ ln e2, mappedM t n l.2 = (ln, e2) := ⟨_, _, rfl⟩
        simp only [hme] at hmap hRe
        have HRE := Lib.hid hRe
        have HP := Lib.hid hp
        have HL := Lib.hid (And.intro hl0 hl1)
        clear hq hme hRe hp hl0 hl1
        cases q with
        | true =>
          have hfin : R = (l, 0) := by rw [HRE.out]; simp
          clear HRE hmap
          subst hfin
          go_upto_region 7 with (first
            | (go_at_call 155; refine hget.mono ?_; clear hget; rintro e w1 ⟨v1, rfl, hv1, hb1⟩; obtain ⟨A5, c5, A6, c6, rfl, hA5⟩ := hv1.form; clear hA5; have hbw1 := bstep hb hb1; have T1 := bblock T0 hb1; have L1 := bblock L0 hb1; have S1 := bblock S0 hb1; clear t0 t1 t2 t3 t4 l0 l1 m0 m1 s0 s1 y0 y1; have t0 := bcellAt (v := .int .u32 t.boot) T1 0 rfl; have t1 := bcellAt (v := .slice A1 t.res.length c1) T1 1 rfl; have t2 := bcellAt (v := .string t.root.name) T1 2 rfl; have t3 := bcellAt (v := .slice A2 t.root.props.length c2) T1 3 rfl; have t4 := bcellAt (v := .slice A3 t.root.kids.length c3) T1 4 rfl; have l0 := bcellAt (v := .slice Al l.1.length cl) L1 0 rfl; have l1 := bcellAt (v := .int .u32 l.2) L1 1 rfl; have m0 := bfrozenAt L1 0; have m1 := bfrozenAt L1 1; have s0 := bcellAt (v := .slice none 0 0) S1 0 rfl; have s1 := bcellAt (v := .int .u32 0) S1 1 rfl; have y0 := bfrozenAt S1 0; have y1 := bfrozenAt S1 1; have lt1 := blockLt S1)
            | (go_at_call 262; (refine (hcon _ _ _ (hv1.below (by repeat (first | assumption | exact Below.refl _ _ | with_reducible refine bset ?_ (by simp) _ | with_reducible refine balloc ?_ _ | with_reducible refine bdrew ?_ | with_reducible refine bdrewN ?_ _ | with_reducible refine bstep ?_ (by assumption))))).mono ?_); clear hcon; rintro e w2 ⟨rfl, hb2⟩; have hbw2 := bstep (balloc hbw1 _) hb2; have T2 := bblock (bblock_alloc T1 _) hb2; have L2 := bblock (bblock_alloc L1 _) hb2; have S2 := bblock (bblock_alloc S1 _) hb2; have N2 := bblock (blast w1 _ _ rfl) hb2; clear t0 t1 t2 t3 t4 l0 l1 m0 m1 s0 s1 y0 y1; have t0 := bcellAt (v := .int .u32 t.boot) T2 0 rfl; have t1 := bcellAt (v := .slice A1 t.res.length c1) T2 1 rfl; have t2 := bcellAt (v := .string t.root.name) T2 2 rfl; have t3 := bcellAt (v := .slice A2 t.root.props.length c2) T2 3 rfl; have t4 := bcellAt (v := .slice A3 t.root.kids.length c3) T2 4 rfl; have l0 := bcellAt (v := .slice Al l.1.length cl) L2 0 rfl; have l1 := bcellAt (v := .int .u32 l.2) L2 1 rfl; have m0 := bfrozenAt L2 0; have m1 := bfrozenAt L2 1; have s0 := bcellAt (v := .slice none 0 0) S2 0 rfl; have s1 := bcellAt (v := .int .u32 0) S2 1 rfl; have y0 := bfrozenAt S2 0; have y1 := bfrozenAt S2 1; have lt2 := blockLt S2; have n0 := bcellAt (v := .string n.name) N2 0 rfl; have n1 := bcellAt (v := .slice A5 n.props.length c5) N2 1 rfl; have n2 := bcellAt (v := .slice A6 n.kids.length c6) N2 2 rfl))
          have HT2 := Lib.hid T2
          have HS2 := Lib.hid S2
          have HN2 := Lib.hid N2
          clear T0 T1 T2 S0 S1 S2 L0 L1 N2
          have hp2 : Sl tInt w2 (fun j => j ≠ w.heap.size ∧ j ≠ w.heap.size + 1 ∧ j ≠ w.heap.size + 2) (.slice Al l.1.length cl) l.1 := ((HP.out.below hb1).below (balloc (brefl _) _)).below hb2
          have hcl := fun w4 h => intsClone_walk l.1 (by omega) w4 _ _ (hp2.below h)
          go_cut [5] (fun v5 wx => v5 = .int .i64 0 ∧ ∃ (Aa : Option Addr) (ca : Nat), wx.heap[w.heap.size + 2]? = some (.cells #[.slice Aa l.1.length ca, .int .u32 l.2] 331 (0, 0)) ∧ Sl tInt wx (w2.heap.size ≤ ·) (.slice Aa l.1.length ca) l.1 ∧ Below w.heap.size w wx)
          case first =>
            go_region_law (first
              | (go_simp; go_at_call 180; (refine (hcl _ ?_).mono ?_); exact (by repeat (first | assumption | exact Below.refl _ _ | with_reducible refine bset ?_ (by simp) _ | with_reducible refine balloc ?_ _ | with_reducible refine bdrew ?_ | with_reducible refine bdrewN ?_ _ | with_reducible refine bstep ?_ (by assumption))); rintro e w4 ⟨v4, rfl, hr4, hb4⟩; have hs4 := hr4.sl; obtain ⟨Aa, ca, rfl, hA6⟩ := hr4.form; clear hA6 hr4; have S4 := bblock (w := w2.drew) (by exact HS2.out) hb4; have x0 := bcellAt (v := .slice none 0 0) S4 0 rfl; have x1 := bcellAt (v := .int .u32 0) S4 1 rfl; have y2 := bfrozenAt S4 0; have y3 := bfrozenAt S4 1; have q0 := bkeep (w := w2.drew) hb4 l0; have q1 := bkeep (w := w2.drew) hb4 l1; have lt4 := blockLt S4; have HS4 := Lib.hid S4; clear S4))
            all_goals go_wp2_with fail
            all_goals go_meet
            all_goals exact ⟨rfl, Aa, ca, bsetAt (bsetAt HS4.out 0 (.slice Aa l.1.length ca)) 1 (.int .u32 l.2), (hs4.move (w1 := (w4.setCell ⟨w.heap.size + 1 + 1, 0, none⟩ (.slice Aa l.1.length ca)).setCell ⟨w.heap.size + 1 + 1, 1, none⟩ (.int .u32 l.2)) fun j h hlt => by have : w2.heap.size ≤ j := h; rw [Below.heap_setCell _ _ _ _ (by simp; omega), Below.heap_setCell _ _ _ _ (by simp; omega)]).mono fun j h _ => h, bset (bset (bstep (bdrew hbw2) hb4) (p := ⟨w.heap.size + 1 + 1, 0, none⟩) (by simp; omega) _) (p := ⟨w.heap.size + 1 + 1, 1, none⟩) (by simp; omega) _⟩
          case rest =>
            obtain ⟨rfl, Aa, ca, hS5, hsl5, hb5⟩ := hcut
            have u0 := bcellAt (v := .slice Aa l.1.length ca) hS5 0 rfl
            have u1 := bcellAt (v := .int .u32 l.2) hS5 1 rfl
            clear l0 l1 m0 m1 s0 s1 y0 y1 t0 t1 t2 t3 t4 n0 n1 n2 hcl
            go_wp2_with fail
            refine bodyPost_ret (v := .tuple #[.agg #[.slice Aa l.1.length ca, .int .u32 l.2], .int .i64 0]) (by simp [results, Tryz.results186, go_sem, u0, u1]) rfl ?_
            have hs6 := hsl5.mono (ok' := (w.heap.size ≤ ·)) fun j h _ => Nat.le_trans hbw2.size h
            first | exact ⟨_, rfl, hs6, HL.out.1, HL.out.2, hb5⟩ | exact ⟨_, rfl, hs6, hb5⟩
        | false =>
          by_cases g2 : e2 = 0
          · subst g2
            have hRe : R = throughK t (15 - k) ln := by rw [HRE.out]; simp
            have HR2 := Lib.hid hRe
            clear HRE hRe
            go_wp2_with (first
        | (go_at_call 155; refine hget.mono ?_; clear hget; rintro e w1 ⟨v1, rfl, hv1, hb1⟩; obtain ⟨A5, c5, A6, c6, rfl, hA5⟩ := hv1.form; clear hA5; have hbw1 := bstep hb hb1; have T1 := bblock T0 hb1; have L1 := bblock L0 hb1; have S1 := bblock S0 hb1; clear t0 t1 t2 t3 t4 l0 l1 m0 m1 s0 s1 y0 y1; have t0 := bcellAt (v := .int .u32 t.boot) T1 0 rfl; have t1 := bcellAt (v := .slice A1 t.res.length c1) T1 1 rfl; have t2 := bcellAt (v := .string t.root.name) T1 2 rfl; have t3 := bcellAt (v := .slice A2 t.root.props.length c2) T1 3 rfl; have t4 := bcellAt (v := .slice A3 t.root.kids.length c3) T1 4 rfl; have l0 := bcellAt (v := .slice Al l.1.length cl) L1 0 rfl; have l1 := bcellAt (v := .int .u32 l.2) L1 1 rfl; have m0 := bfrozenAt L1 0; have m1 := bfrozenAt L1 1; have s0 := bcellAt (v := .slice none 0 0) S1 0 rfl; have s1 := bcellAt (v := .int .u32 0) S1 1 rfl; have y0 := bfrozenAt S1 0; have y1 := bfrozenAt S1 1; have lt1 := blockLt S1)
        | (go_at_call 262; (refine (hcon _ _ _ (hv1.below (by repeat (first | assumption | exact Below.refl _ _ | with_reducible refine bset ?_ (by simp) _ | with_reducible refine balloc ?_ _ | with_reducible refine bdrew ?_ | with_reducible refine bdrewN ?_ _ | with_reducible refine bstep ?_ (by assumption))))).mono ?_); clear hcon; rintro e w2 ⟨rfl, hb2⟩; have hbw2 := bstep (balloc hbw1 _) hb2; have T2 := bblock (bblock_alloc T1 _) hb2; have L2 := bblock (bblock_alloc L1 _) hb2; have S2 := bblock (bblock_alloc S1 _) hb2; have N2 := bblock (blast w1 _ _ rfl) hb2; clear t0 t1 t2 t3 t4 l0 l1 m0 m1 s0 s1 y0 y1; have t0 := bcellAt (v := .int .u32 t.boot) T2 0 rfl; have t1 := bcellAt (v := .slice A1 t.res.length c1) T2 1 rfl; have t2 := bcellAt (v := .string t.root.name) T2 2 rfl; have t3 := bcellAt (v := .slice A2 t.root.props.length c2) T2 3 rfl; have t4 := bcellAt (v := .slice A3 t.root.kids.length c3) T2 4 rfl; have l0 := bcellAt (v := .slice Al l.1.length cl) L2 0 rfl; have l1 := bcellAt (v := .int .u32 l.2) L2 1 rfl; have m0 := bfrozenAt L2 0; have m1 := bfrozenAt L2 1; have s0 := bcellAt (v := .slice none 0 0) S2 0 rfl; have s1 := bcellAt (v := .int .u32 0) S2 1 rfl; have y0 := bfrozenAt S2 0; have y1 := bfrozenAt S2 1; have lt2 := blockLt S2; have n0 := bcellAt (v := .string n.name) N2 0 rfl; have n1 := bcellAt (v := .slice A5 n.props.length c5) N2 1 rfl; have n2 := bcellAt (v := .slice A6 n.kids.length c6) N2 2 rfl)
        | (go_at_call 282; (refine (hmap _ _ _ _ _ ((hv.below hbw2)) (hv1.below (bstep (balloc (brefl w1) _) hb2))).mono ?_); clear hmap; rintro e w3 ⟨pv3, rfl, hs3, h30, h31, hb3⟩; obtain ⟨A7, c7, rfl, hA7⟩ := id hs3; clear hA7; have hbw3 := bstep hbw2 hb3; have T3 := bblock T2 hb3; have L3 := bblock L2 hb3; have S3 := bblock S2 hb3; clear n0 n1 n2; clear t0 t1 t2 t3 t4 l0 l1 m0 m1 s0 s1 y0 y1; have t0 := bcellAt (v := .int .u32 t.boot) T3 0 rfl; have t1 := bcellAt (v := .slice A1 t.res.length c1) T3 1 rfl; have t2 := bcellAt (v := .string t.root.name) T3 2 rfl; have t3 := bcellAt (v := .slice A2 t.root.props.length c2) T3 3 rfl; have t4 := bcellAt (v := .slice A3 t.root.kids.length c3) T3 4 rfl; have l0 := bcellAt (v := .slice Al l.1.length cl) L3 0 rfl; have l1 := bcellAt (v := .int .u32 l.2) L3 1 rfl; have m0 := bfrozenAt L3 0; have m1 := bfrozenAt L3 1; have s0 := bcellAt (v := .slice none 0 0) S3 0 rfl; have s1 := bcellAt (v := .int .u32 0) S3 1 rfl; have y0 := bfrozenAt S3 0; have y1 := bfrozenAt S3 1; have lt3 := blockLt S3))
            have T4 := bsetFar (p := ⟨w.heap.size + 1, 1, none⟩) (bsetFar (p := ⟨w.heap.size + 1, 0, none⟩) T3 (by simp) (.slice A7 ln.1.length c7)) (by simp) (.int .u32 ln.2)
            have S4 := bsetFar (p := ⟨w.heap.size + 1, 1, none⟩) (bsetFar (p := ⟨w.heap.size + 1, 0, none⟩) S3 (by simp) (.slice A7 ln.1.length c7)) (by simp) (.int .u32 ln.2)
            have L4 := bsetAt (bsetAt L3 0 (.slice A7 ln.1.length c7)) 1 (.int .u32 ln.2)
            have hs4 : Sl tInt ((w3.setCell ⟨w.heap.size + 1, 0, none⟩ (.slice A7 ln.1.length c7)).setCell ⟨w.heap.size + 1, 1, none⟩ (.int .u32 ln.2)) (fun j => j ≠ w.heap.size ∧ j ≠ w.heap.size + 1 ∧ j ≠ w.heap.size + 2) (.slice A7 ln.1.length c7) ln.1 := (hs3.move (w1 := (w3.setCell ⟨w.heap.size + 1, 0, none⟩ (.slice A7 ln.1.length c7)).setCell ⟨w.heap.size + 1, 1, none⟩ (.int .u32 ln.2)) fun j h hlt => by have : w2.heap.size ≤ j := h; rw [Below.heap_setCell _ _ _ _ (by simp; omega), Below.heap_setCell _ _ _ _ (by simp; omega)]).mono fun j h _ => by have : w2.heap.size ≤ j := h; exact ⟨by omega, by omega, by omega⟩
            go_roundw
            case rel => exact ⟨k + 1, _, ln, by omega, by go_num, by rw [HR2.out, show 16 - (k + 1) = 15 - k by omega], h30, h31, hs4, T4, L4, S4, bset (bset hbw3 (by simp) _) (by simp) _⟩
            case measure => simp [intOf]; omega
          · have hfin : R = (([], 0), e2) := by rw [HRE.out]; simp [g2]
            have q4 : (e2 != 0) = true := by rw [bne_iff_ne]; exact g2
            clear HRE
            subst hfin
            go_wp2_with (first
        | (go_at_call 155; refine hget.mono ?_; clear hget; rintro e w1 ⟨v1, rfl, hv1, hb1⟩; obtain ⟨A5, c5, A6, c6, rfl, hA5⟩ := hv1.form; clear hA5; have hbw1 := bstep hb hb1; have T1 := bblock T0 hb1; have L1 := bblock L0 hb1; have S1 := bblock S0 hb1; clear t0 t1 t2 t3 t4 l0 l1 m0 m1 s0 s1 y0 y1; have t0 := bcellAt (v := .int .u32 t.boot) T1 0 rfl; have t1 := bcellAt (v := .slice A1 t.res.length c1) T1 1 rfl; have t2 := bcellAt (v := .string t.root.name) T1 2 rfl; have t3 := bcellAt (v := .slice A2 t.root.props.length c2) T1 3 rfl; have t4 := bcellAt (v := .slice A3 t.root.kids.length c3) T1 4 rfl; have l0 := bcellAt (v := .slice Al l.1.length cl) L1 0 rfl; have l1 := bcellAt (v := .int .u32 l.2) L1 1 rfl; have m0 := bfrozenAt L1 0; have m1 := bfrozenAt L1 1; have s0 := bcellAt (v := .slice none 0 0) S1 0 rfl; have s1 := bcellAt (v := .int .u32 0) S1 1 rfl; have y0 := bfrozenAt S1 0; have y1 := bfrozenAt S1 1; have lt1 := blockLt S1)
        | (go_at_call 262; (refine (hcon _ _ _ (hv1.below (by repeat (first | assumption | exact Below.refl _ _ | with_reducible refine bset ?_ (by simp) _ | with_reducible refine balloc ?_ _ | with_reducible refine bdrew ?_ | with_reducible refine bdrewN ?_ _ | with_reducible refine bstep ?_ (by assumption))))).mono ?_); clear hcon; rintro e w2 ⟨rfl, hb2⟩; have hbw2 := bstep (balloc hbw1 _) hb2; have T2 := bblock (bblock_alloc T1 _) hb2; have L2 := bblock (bblock_alloc L1 _) hb2; have S2 := bblock (bblock_alloc S1 _) hb2; have N2 := bblock (blast w1 _ _ rfl) hb2; clear t0 t1 t2 t3 t4 l0 l1 m0 m1 s0 s1 y0 y1; have t0 := bcellAt (v := .int .u32 t.boot) T2 0 rfl; have t1 := bcellAt (v := .slice A1 t.res.length c1) T2 1 rfl; have t2 := bcellAt (v := .string t.root.name) T2 2 rfl; have t3 := bcellAt (v := .slice A2 t.root.props.length c2) T2 3 rfl; have t4 := bcellAt (v := .slice A3 t.root.kids.length c3) T2 4 rfl; have l0 := bcellAt (v := .slice Al l.1.length cl) L2 0 rfl; have l1 := bcellAt (v := .int .u32 l.2) L2 1 rfl; have m0 := bfrozenAt L2 0; have m1 := bfrozenAt L2 1; have s0 := bcellAt (v := .slice none 0 0) S2 0 rfl; have s1 := bcellAt (v := .int .u32 0) S2 1 rfl; have y0 := bfrozenAt S2 0; have y1 := bfrozenAt S2 1; have lt2 := blockLt S2; have n0 := bcellAt (v := .string n.name) N2 0 rfl; have n1 := bcellAt (v := .slice A5 n.props.length c5) N2 1 rfl; have n2 := bcellAt (v := .slice A6 n.kids.length c6) N2 2 rfl)
        | (go_at_call 282; (refine (hmap _ _ _ _ _ ((hv.below hbw2)) (hv1.below (bstep (balloc (brefl w1) _) hb2))).mono ?_); clear hmap; rintro e w3 ⟨pv3, rfl, hs3, h30, h31, hb3⟩; obtain ⟨A7, c7, rfl, hA7⟩ := id hs3; clear hA7; have hbw3 := bstep hbw2 hb3; have T3 := bblock T2 hb3; have L3 := bblock L2 hb3; have S3 := bblock S2 hb3; clear n0 n1 n2; clear t0 t1 t2 t3 t4 l0 l1 m0 m1 s0 s1 y0 y1; have t0 := bcellAt (v := .int .u32 t.boot) T3 0 rfl; have t1 := bcellAt (v := .slice A1 t.res.length c1) T3 1 rfl; have t2 := bcellAt (v := .string t.root.name) T3 2 rfl; have t3 := bcellAt (v := .slice A2 t.root.props.length c2) T3 3 rfl; have t4 := bcellAt (v := .slice A3 t.root.kids.length c3) T3 4 rfl; have l0 := bcellAt (v := .slice Al l.1.length cl) L3 0 rfl; have l1 := bcellAt (v := .int .u32 l.2) L3 1 rfl; have m0 := bfrozenAt L3 0; have m1 := bfrozenAt L3 1; have s0 := bcellAt (v := .slice none 0 0) S3 0 rfl; have s1 := bcellAt (v := .int .u32 0) S3 1 rfl; have y0 := bfrozenAt S3 0; have y1 := bfrozenAt S3 1; have lt3 := blockLt S3))
            exact bodyPost_ret (v := .tuple #[.agg #[.slice none 0 0, .int .u32 0], .int .i64 e2]) (by simp [results, Tryz.results186, go_sem, res0 (bsetFar (p := ⟨w.heap.size + 1, 1, none⟩) (bsetFar (p := ⟨w.heap.size + 1, 0, none⟩) S3 (by simp) (.slice A7 ln.1.length c7)) (by simp) (.int .u32 ln.2)), res1 (bsetFar (p := ⟨w.heap.size + 1, 1, none⟩) (bsetFar (p := ⟨w.heap.size + 1, 0, none⟩) S3 (by simp) (.slice A7 ln.1.length c7)) (by simp) (.int .u32 ln.2))]) rfl (by have hB := bset (bset (bset (bset hbw3 (p := ⟨w.heap.size + 1, 0, none⟩) (by simp) (.slice A7 ln.1.length c7)) (p := ⟨w.heap.size + 1, 1, none⟩) (by simp) (.int .u32 ln.2)) (p := ⟨w.heap.size + 1 + 1, 0, none⟩) (by simp; omega) (.slice none 0 0)) (p := ⟨w.heap.size + 1 + 1, 1, none⟩) (by simp; omega) (.int .u32 0); first | exact ⟨_, rfl, Sl.nil _ _, hB⟩ | exact ⟨_, rfl, Sl.nil _ _, by decide, by decide, hB⟩)
      · rw [if_pos g1] at hRe
        have q4 : (e1 != 0) = true := by rw [bne_iff_ne]; exact g1
        subst hRe
        go_wp2_with (first
        | (go_at_call 155; refine hget.mono ?_; clear hget; rintro e w1 ⟨v1, rfl, hv1, hb1⟩; obtain ⟨A5, c5, A6, c6, rfl, hA5⟩ := hv1.form; clear hA5; have hbw1 := bstep hb hb1; have T1 := bblock T0 hb1; have L1 := bblock L0 hb1; have S1 := bblock S0 hb1; clear t0 t1 t2 t3 t4 l0 l1 m0 m1 s0 s1 y0 y1; have t0 := bcellAt (v := .int .u32 t.boot) T1 0 rfl; have t1 := bcellAt (v := .slice A1 t.res.length c1) T1 1 rfl; have t2 := bcellAt (v := .string t.root.name) T1 2 rfl; have t3 := bcellAt (v := .slice A2 t.root.props.length c2) T1 3 rfl; have t4 := bcellAt (v := .slice A3 t.root.kids.length c3) T1 4 rfl; have l0 := bcellAt (v := .slice Al l.1.length cl) L1 0 rfl; have l1 := bcellAt (v := .int .u32 l.2) L1 1 rfl; have m0 := bfrozenAt L1 0; have m1 := bfrozenAt L1 1; have s0 := bcellAt (v := .slice none 0 0) S1 0 rfl; have s1 := bcellAt (v := .int .u32 0) S1 1 rfl; have y0 := bfrozenAt S1 0; have y1 := bfrozenAt S1 1; have lt1 := blockLt S1))
        have u0 := bcellAt (v := .slice none 0 0) (bblock_alloc (bsetAt (bsetAt S1 0 (.slice none 0 0)) 1 (.int .u32 0)) (.cells #[.string n.name, .slice A5 n.props.length c5, .slice A6 n.kids.length c6] 32)) 0 rfl
        have u1 := bcellAt (v := .int .u32 0) (bblock_alloc (bsetAt (bsetAt S1 0 (.slice none 0 0)) 1 (.int .u32 0)) (.cells #[.string n.name, .slice A5 n.props.length c5, .slice A6 n.kids.length c6] 32)) 1 rfl
        have hB := balloc (bset (bset hbw1 (p := ⟨w.heap.size + 1 + 1, 0, none⟩) (by simp; omega) (.slice none 0 0)) (p := ⟨w.heap.size + 1 + 1, 1, none⟩) (by simp; omega) (.int .u32 0)) (.cells #[.string n.name, .slice A5 n.props.length c5, .slice A6 n.kids.length c6] 32)
        refine bodyPost_ret (v := .tuple #[.agg #[.slice none 0 0, .int .u32 0], .int .i64 e1]) (by simp [results, Tryz.results186, go_sem, u0, u1]) rfl ?_
        first | exact ⟨_, rfl, Sl.nil _ _, hB⟩ | exact ⟨_, rfl, Sl.nil _ _, by decide, by decide, hB⟩
    · obtain rfl : k = 16 := by omega
      have hfin : R = (([], 0), 14) := by rw [hRe]; rfl
      subst hfin
      have s0 := bcellAt (v := .slice none 0 0) hS 0 rfl
      have s1 := bcellAt (v := .int .u32 0) hS 1 rfl
      have y0 := bfrozenAt hS 0
      have y1 := bfrozenAt hS 1
      go_wp2_with fail
      exact bodyPost_ret (v := .tuple #[.agg #[.slice none 0 0, .int .u32 0], .int .i64 14]) (by simp [results, Tryz.results186, go_sem, res0 hS, res1 hS]) rfl (by have hB := bset (bset hb (p := ⟨w.heap.size + 1 + 1, 0, none⟩) (by simp; omega) (.slice none 0 0)) (p := ⟨w.heap.size + 1 + 1, 1, none⟩) (by simp; omega) (.int .u32 0); first | exact ⟨_, rfl, Sl.nil _ _, hB⟩ | exact ⟨_, rfl, Sl.nil _ _, by decide, by decide, hB⟩)
end Go.Proofs.YtdfknlhfdbbogaaGreatDoor
