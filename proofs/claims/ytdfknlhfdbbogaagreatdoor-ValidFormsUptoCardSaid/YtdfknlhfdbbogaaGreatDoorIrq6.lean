/-
  irq: Root. No condition.
-/
import Derived.Test.YtdfknlhfdbbogaaGreatDoorIrq5
namespace Go.Proofs.YtdfknlhfdbbogaaGreatDoor
open Go.RowKit
set_option linter.unusedSimpArgs false
set_option linter.unusedVariables false
theorem SlA.ln_at {w : World} {ok : Nat → Prop} {A : Option Addr} {xs : List Ln} {j : Nat} {x : Ln} (h : SlA tLn w ok A xs) (hx : xs[j]? = some x) : ∃ b off A1 c1, A = some ⟨b, off, none⟩ ∧ ok b ∧ b < w.heap.size ∧
    w.cell? ⟨b, off + j * 2, none⟩ = some (.slice A1 x.1.length c1) ∧ w.cell? ⟨b, off + j * 2 + 1, none⟩ = some (.int .u32 x.2) ∧ 0 ≤ x.2 ∧ x.2 < 4294967296 ∧ Sl tInt w ok (.slice A1 x.1.length c1) x.1 := by
  obtain ⟨b, off, cs, rfl, hb, hlt, ⟨ds, es, rfl, ⟨v, rfl, A1, c1, rfl, h3, h4, h5⟩, rfl, h1, h2⟩, hc⟩ := h.at hx
  exact ⟨b, off, A1, c1, rfl, hb, hlt, hc 0 _ rfl, hc 1 _ rfl, h1, h2, A1, c1, rfl, h3, h4, h5⟩
theorem rootK_succ (t : Tr) (k : Nat) (way : List Ln) (l : Ln) : rootK t (k + 1) way l = if (throughM t l).2 ≠ 0 then (([], 0), [], (throughM t l).2)
    else if (linesM t (throughM t l).1.1).2 ≠ 0 then (([], 0), [], (linesM t (throughM t l).1.1).2)
    else match (linesM t (throughM t l).1.1).1 with
      | [] => ((throughM t l).1, way ++ [(throughM t l).1], 0)
      | x :: _ => rootK t k (way ++ [(throughM t l).1]) x := rfl
theorem throughK_len (t : Tr) (k : Nat) : ∀ l, (throughK t k l).2 = 0 → (throughK t k l).1.1.length ≤ 16 := by
  induction k with
  | zero => intro l h; simp [throughK] at h
  | succ k ih =>
    intro l
    rw [throughK_succ]
    split
    · intro h; rename_i h2; exact absurd h h2
    · rename_i h2
      split
      · intro _; exact getN_len (by simpa using h2)
      · split
        · intro h; rename_i h3; exact absurd h h3
        · exact ih _
set_option maxRecDepth 100000 in
set_option maxHeartbeats 2000000 in
theorem root_walk (t : Tr) (hsz : t.root.size ≤ 536870912) (l0 : Ln) (hl0 : 0 ≤ l0.2) (hl1 : l0.2 < 4294967296) (w : World) (ok okp : Nat → Prop) (v pv : Value) (hv : TrV w ok v t) (hp : Sl tInt w okp pv l0.1) :
    Calls Tryz.prog 292 #[v, .agg #[pv, .int .u32 l0.2]] w fun e w' => ∃ pv' wv, e = .returned (.tuple #[.agg #[pv', .int .u32 (rootM t l0).1.2], wv, .int .i64 (rootM t l0).2.2]) ∧ Sl tInt w' (w.heap.size ≤ ·) pv' (rootM t l0).1.1 ∧ Row tLn 331 w' w.heap.size wv (rootM t l0).2.1 ∧ 0 ≤ (rootM t l0).1.2 ∧ (rootM t l0).1.2 < 4294967296 ∧ Below w.heap.size w w' := by
  obtain ⟨A1, c1, A2, c2, A3, c3, rfl, hrl⟩ := hv.form
  obtain ⟨R, hR⟩ : ∃ R, R = rootM t l0 := ⟨_, rfl⟩
  rw [← hR]
  have hR2 : R = rootK t 16 [] l0 := hR
  have HR := Lib.hid hR2
  clear hR hR2
  have hpx : Sl tInt w (fun k => k ≠ w.heap.size ∧ k ≠ w.heap.size + 1 ∧ k ≠ w.heap.size + 2) pv l0.1 := hp.mono fun k _ h => ⟨by omega, by omega, by omega⟩
  clear hp
  go_enter Tryz.func292, Tryz.ntmps292
  go_wp2_with fail
  go_loopw [7, 11] (fun wy i wr => ∃ (k : Nat) (pv1 : Value) (l : Ln) (way : List Ln), k ≤ 16 ∧ i = .int .i64 k ∧ R = rootK t (16 - k) way l ∧ way.length = k ∧ 0 ≤ l.2 ∧ l.2 < 4294967296 ∧
    Sl tInt wr (fun k => k ≠ w.heap.size ∧ k ≠ w.heap.size + 1 ∧ k ≠ w.heap.size + 2) pv1 l.1 ∧ Row tLn 331 wr (w.heap.size + 3) wy way ∧
    wr.heap[w.heap.size]? = some (.cells #[.int .u32 t.boot, .slice A1 t.res.length c1, .string t.root.name, .slice A2 t.root.props.length c2, .slice A3 t.root.kids.length c3] 34 (0, 0)) ∧
    wr.heap[w.heap.size + 1]? = some (.cells #[pv1, .int .u32 l.2] 331 (0, 0)) ∧
    wr.heap[w.heap.size + 2]? = some (.cells #[.slice none 0 0, .int .u32 0] 331 (0, 0)) ∧ Below w.heap.size w wr) (fun _ i _ => 16 - (intOf i).toNat)
  case atStart => exact ⟨0, pv, l0, [], by omega, rfl, HR.out, rfl, hl0, hl1, hpx.below (by repeat (first | assumption | exact Below.refl _ _ | with_reducible refine bset ?_ (by simp) _ | with_reducible refine balloc ?_ _ | with_reducible refine bdrew ?_ | with_reducible refine bdrewN ?_ _ | with_reducible refine bstep ?_ (by assumption))), Own.nil, (by repeat (first | assumption | exact blast _ _ _ (by simp) | with_reducible refine bblock_alloc ?_ _)), (by repeat (first | assumption | exact blast _ _ _ (by simp) | with_reducible refine bblock_alloc ?_ _)), (by repeat (first | assumption | exact blast _ _ _ (by simp) | with_reducible refine bblock_alloc ?_ _)), (by repeat (first | assumption | exact Below.refl _ _ | with_reducible refine bset ?_ (by simp) _ | with_reducible refine balloc ?_ _ | with_reducible refine bdrew ?_ | with_reducible refine bdrewN ?_ _ | with_reducible refine bstep ?_ (by assumption)))⟩
  case round =>
    clear hpx HR hl0 hl1
    obtain ⟨k, pv1, l, way, hk, rfl, hRe, hwl, hl0, hl1, hp, hrow, hT, hL, hS, hb⟩ := hrel
    by_cases hkl : k < 16
    · rw [show 16 - k = (15 - k) + 1 by omega, rootK_succ] at hRe
      obtain ⟨Al, cl, rfl, hcl, hll, hal⟩ := id hp
      clear hcl hal
      have hthr := through_walk t hsz l hl0 hl1 wr ok _ _ _ (hv.below hb) hp
      have hgl := throughK_len t 16 l
      obtain ⟨la, e1, hge⟩ : ∃ la e1, throughM t l = (la, e1) := ⟨_, _, rfl⟩
      have hge2 : throughK t 16 l = (la, e1) := hge
      rw [hge2] at hgl
      simp only [hge] at hthr hRe hgl
      clear hge hge2
      have T0 := hT
      have L0 := hL
      have S0 := hS
      have t0 := bcellAt (v := .int .u32 t.boot) T0 0 rfl
      have t1 := bcellAt (v := .slice A1 t.res.length c1) T0 1 rfl
      have t2 := bcellAt (v := .string t.root.name) T0 2 rfl
      have t3 := bcellAt (v := .slice A2 t.root.props.length c2) T0 3 rfl
      have t4 := bcellAt (v := .slice A3 t.root.kids.length c3) T0 4 rfl
      have l0 := bcellAt (v := .slice Al l.1.length cl) L0 0 rfl
      have l1 := bcellAt (v := .int .u32 l.2) L0 1 rfl
      have m0 := bfrozenAt L0 0
      have m1 := bfrozenAt L0 1
      have s0 := bcellAt (v := .slice none 0 0) S0 0 rfl
      have s1 := bcellAt (v := .int .u32 0) S0 1 rfl
      have y0 := bfrozenAt S0 0
      have y1 := bfrozenAt S0 1
      have lt0 := blockLt S0
      have HROW := Lib.hid hrow
      have HWL := Lib.hid hwl
      clear hT hL hS hwl hrow hp
      by_cases g1 : e1 = 0
      · subst g1
        rw [if_neg (by simp)] at hRe
        have hgl := hgl rfl
        have hlin := fun w1 ok1 ok2 v1 v2 h1 h2 => lines_walk t hsz la.1 w1 ok1 ok2 v1 v2 h1 h2
        obtain ⟨ls, e2, hme⟩ : ∃ ls e2, linesM t la.1 = (ls, e2) := ⟨_, _, rfl⟩
        simp only [hme] at hlin hRe
        have HRE := Lib.hid hRe
        clear hme hRe
        by_cases g2 : e2 = 0
        · subst g2
          rcases ls with _ | ⟨x, tail⟩
          · have hfin : R = (la, way ++ [la], 0) := by rw [HRE.out]; simp
            clear HRE
            subst hfin
            go_upto_region 12 with (first
            | (go_at_call 186; refine hthr.mono ?_; clear hthr; rintro e w1 ⟨v1, rfl, hs1, ha0, ha1, hb1⟩; obtain ⟨A5, c5, rfl, hA5⟩ := id hs1; clear hA5; have hbw1 := bstep hb hb1; have T1 := bblock T0 hb1; have L1 := bblock L0 hb1; have S1 := bblock S0 hb1; have hz1 := hb1.size; clear t0 t1 t2 t3 t4 l0 l1 m0 m1 s0 s1 y0 y1; have t0 := bcellAt (v := .int .u32 t.boot) T1 0 rfl; have t1 := bcellAt (v := .slice A1 t.res.length c1) T1 1 rfl; have t2 := bcellAt (v := .string t.root.name) T1 2 rfl; have t3 := bcellAt (v := .slice A2 t.root.props.length c2) T1 3 rfl; have t4 := bcellAt (v := .slice A3 t.root.kids.length c3) T1 4 rfl; have l0 := bcellAt (v := .slice Al l.1.length cl) L1 0 rfl; have l1 := bcellAt (v := .int .u32 l.2) L1 1 rfl; have m0 := bfrozenAt L1 0; have m1 := bfrozenAt L1 1; have s0 := bcellAt (v := .slice none 0 0) S1 0 rfl; have s1 := bcellAt (v := .int .u32 0) S1 1 rfl; have y0 := bfrozenAt S1 0; have y1 := bfrozenAt S1 1; have lt1 := blockLt S1)
            | (at_builtin; refine wpList_row1 rfl elLn _ _ rfl ((HROW.out.below hb1).below (by repeat (first | assumption | exact Below.refl _ _ | with_reducible refine bset ?_ (by simp) _ | with_reducible refine balloc ?_ _ | with_reducible refine bdrew ?_ | with_reducible refine bdrewN ?_ _ | with_reducible refine bstep ?_ (by assumption)))) rfl rfl (by first | exact blast _ _ _ (by simp) | simp) (y := la) (rep_ln ha0 ha1 ((hs1.below (balloc (balloc (brefl _) _) _)).mono (fun j h5 _ => ⟨by have h6 : wr.heap.size ≤ j := h5; omega, fun e5 => by have h7 := (HROW.out.lt j e5.symm).2; have h6 : wr.heap.size ≤ j := h5; omega⟩))) (by rw [HWL.out]; omega) (by simp; omega) ?_; intro g cap w2 hrow2 hg2 hat2 hlt2; have hne : ∀ j, j < w.heap.size + 3 → some j ≠ u7.ownBlock := fun j hj => HROW.out.ne hj; have T2 := gblock (bblock_alloc (bblock_alloc T1 _) _) hg2 (hne _ (by omega)); have L2 := gblock (bblock_alloc (bblock_alloc L1 _) _) hg2 (hne _ (by omega)); have S2 := gblock (bblock_alloc (bblock_alloc S1 _) _) hg2 (hne _ (by omega)); have H2 := gblock (bblock_alloc (blast w1 (.cells #[.slice A5 la.1.length c5, .int .u32 la.2] 331) _ rfl) _) hg2 (fun e5 => by have h7 := (HROW.out.lt _ e5.symm).2; omega); have hz2 := hg2.size; have hbw2 := bgrown (balloc (balloc hbw1 _) _) hg2 (HROW.out.base (by omega)); have hs2 := (hs1.below (balloc (balloc (brefl w1) _) _)).move fun j h5 hlt => hg2.block j hlt (fun e5 => by have h7 := (HROW.out.lt j e5.symm).2; have h6 : wr.heap.size ≤ j := h5; omega); clear t0 t1 t2 t3 t4 l0 l1 m0 m1 s0 s1 y0 y1; have t0 := bcellAt (v := .int .u32 t.boot) T2 0 rfl; have t1 := bcellAt (v := .slice A1 t.res.length c1) T2 1 rfl; have t2 := bcellAt (v := .string t.root.name) T2 2 rfl; have t3 := bcellAt (v := .slice A2 t.root.props.length c2) T2 3 rfl; have t4 := bcellAt (v := .slice A3 t.root.kids.length c3) T2 4 rfl; have l0 := bcellAt (v := .slice Al l.1.length cl) L2 0 rfl; have l1 := bcellAt (v := .int .u32 l.2) L2 1 rfl; have m0 := bfrozenAt L2 0; have m1 := bfrozenAt L2 1; have s0 := bcellAt (v := .slice none 0 0) S2 0 rfl; have s1 := bcellAt (v := .int .u32 0) S2 1 rfl; have y0 := bfrozenAt S2 0; have y1 := bfrozenAt S2 1; have lt2 := blockLt S2; have h0 := bcellAt (v := .slice A5 la.1.length c5) H2 0 rfl; have h1 := bcellAt (v := .int .u32 la.2) H2 1 rfl; have hlt2 := blockLt H2)
            | (go_at_call 185; (refine (hlin _ _ _ _ _ (hv.below hbw2) hs2).mono ?_); clear hlin; rintro e w3 ⟨v3, rfl, hr3, hb3⟩; have hs3 := hr3.sl; obtain ⟨A7, c7, rfl, hc7, hl7, ha7⟩ := hr3.form; clear hr3; have hbw3 := bstep hbw2 hb3; have T3 := bblock T2 hb3; have L3 := bblock L2 hb3; have S3 := bblock S2 hb3; have H3 := bblock H2 hb3; have hz3 := hb3.size; clear h0 h1; clear t0 t1 t2 t3 t4 l0 l1 m0 m1 s0 s1 y0 y1; have t0 := bcellAt (v := .int .u32 t.boot) T3 0 rfl; have t1 := bcellAt (v := .slice A1 t.res.length c1) T3 1 rfl; have t2 := bcellAt (v := .string t.root.name) T3 2 rfl; have t3 := bcellAt (v := .slice A2 t.root.props.length c2) T3 3 rfl; have t4 := bcellAt (v := .slice A3 t.root.kids.length c3) T3 4 rfl; have l0 := bcellAt (v := .slice Al l.1.length cl) L3 0 rfl; have l1 := bcellAt (v := .int .u32 l.2) L3 1 rfl; have m0 := bfrozenAt L3 0; have m1 := bfrozenAt L3 1; have s0 := bcellAt (v := .slice none 0 0) S3 0 rfl; have s1 := bcellAt (v := .int .u32 0) S3 1 rfl; have y0 := bfrozenAt S3 0; have y1 := bfrozenAt S3 1; have lt3 := blockLt S3; have h0 := bcellAt (v := .slice A5 la.1.length c5) H3 0 rfl; have h1 := bcellAt (v := .int .u32 la.2) H3 1 rfl; have hlt3 := blockLt H3))
            have HS3 := Lib.hid S3
            have hs3 : Sl tInt w3 (fun j => wr.heap.size ≤ j) (.slice A5 la.1.length c5) la.1 := hs2.below hb3
            have hro3 := hrow2.below hb3
            have HRO := Lib.hid hro3
            clear T0 T1 T2 T3 S0 S1 S2 S3 L0 L1 L2 L3 H2 H3 hro3 hrow2 hg2 l0 l1 m0 m1 t0 t1 t2 t3 t4
            have hcl := fun w4 h => intsClone_walk la.1 (by omega) w4 _ _ (hs3.below h)
            go_cut [5, 6] (fun v5 v6 wx => v5 = .slice (some ⟨g, 0, none⟩) (way.length + 1) cap ∧ v6 = .int .i64 0 ∧ ∃ (Aa : Option Addr) (ca : Nat), wx.heap[w.heap.size + 2]? = some (.cells #[.slice Aa la.1.length ca, .int .u32 la.2] 331 (0, 0)) ∧ Sl tInt wx (w3.heap.size ≤ ·) (.slice Aa la.1.length ca) la.1 ∧ Row tLn 331 wx (w.heap.size + 3) (.slice (some ⟨g, 0, none⟩) (way.length + 1) cap) (way ++ [la]) ∧ Below w.heap.size w wx)
            case first =>
              go_region_law (first
                | (go_simp; go_at_call 180; (refine (hcl _ ?_).mono ?_); exact (by repeat (first | assumption | exact Below.refl _ _ | with_reducible refine bset ?_ (by simp) _ | with_reducible refine balloc ?_ _ | with_reducible refine bdrew ?_ | with_reducible refine bdrewN ?_ _ | with_reducible refine bstep ?_ (by assumption))); rintro e w4 ⟨v4, rfl, hr4, hb4⟩; have hs4 := hr4.sl; obtain ⟨Aa, ca, rfl, hA6⟩ := hr4.form; clear hA6 hr4; have S4 := bblock (w := w3.drew) (by exact HS3.out) hb4; have x0 := bcellAt (v := .slice none 0 0) S4 0 rfl; have x1 := bcellAt (v := .int .u32 0) S4 1 rfl; have y2 := bfrozenAt S4 0; have y3 := bfrozenAt S4 1; have q0 := bkeep (w := w3.drew) hb4 h0; have q1 := bkeep (w := w3.drew) hb4 h1; have lt4 := blockLt S4; have HS4 := Lib.hid S4; clear S4))
              all_goals go_wp2_with fail
              all_goals go_meet
              all_goals exact ⟨rfl, rfl, Aa, ca, bsetAt (bsetAt HS4.out 0 (.slice Aa la.1.length ca)) 1 (.int .u32 la.2), (hs4.move (w1 := (w4.setCell ⟨w.heap.size + 1 + 1, 0, none⟩ (.slice Aa la.1.length ca)).setCell ⟨w.heap.size + 1 + 1, 1, none⟩ (.int .u32 la.2)) fun j h hlt => by have : w3.heap.size ≤ j := h; rw [Below.heap_setCell _ _ _ _ (by simp; omega), Below.heap_setCell _ _ _ _ (by simp; omega)]).mono fun j h _ => h, row_set (row_set (HRO.out.below (bstep (bdrew (brefl w3)) hb4)) (p := ⟨w.heap.size + 1 + 1, 0, none⟩) (by simp) _) (p := ⟨w.heap.size + 1 + 1, 1, none⟩) (by simp) _, bset (bset (bstep (bdrew hbw3) hb4) (p := ⟨w.heap.size + 1 + 1, 0, none⟩) (by simp; omega) _) (p := ⟨w.heap.size + 1 + 1, 1, none⟩) (by simp; omega) _⟩
            case rest =>
              obtain ⟨rfl, rfl, Aa, ca, hS5, hsl5, hro5, hb5⟩ := hcut
              have u0 := bcellAt (v := .slice Aa la.1.length ca) hS5 0 rfl
              have u1 := bcellAt (v := .int .u32 la.2) hS5 1 rfl
              clear s0 s1 y0 y1 h0 h1 hcl
              go_wp2_with fail
              refine bodyPost_ret (v := .tuple #[.agg #[.slice Aa la.1.length ca, .int .u32 la.2], .slice (some ⟨g, 0, none⟩) (way.length + 1) cap, .int .i64 0]) (by simp [results, Tryz.results292, go_sem, u0, u1]) rfl ?_
              have hs6 := hsl5.mono (ok' := (w.heap.size ≤ ·)) fun j h _ => Nat.le_trans hbw3.size h
              have hro6 := hro5.mono (show w.heap.size ≤ w.heap.size + 3 by omega) (fun j h _ => by have h9 : w.heap.size + 3 ≤ j := h; show w.heap.size ≤ j; omega)
              first | exact ⟨_, _, rfl, hs6, hro6, ha0, ha1, hb5⟩ | exact ⟨_, _, rfl, hs6, hro6, hb5⟩
          · have hRe : R = rootK t (15 - k) (way ++ [la]) x := by rw [HRE.out]; simp
            have HR2 := Lib.hid hRe
            have hx : (x :: tail)[0]? = some x := rfl
            obtain ⟨ls, hls⟩ : ∃ ls, ls = x :: tail := ⟨_, rfl⟩
            have hlen : 0 < ls.length := by rw [hls]; simp
            simp only [← hls] at hlin hx
            have HX := Lib.hid hx
            have q5 : ((ls.length : Int) == 0) = false := by rw [beq_eq_false_iff_ne]; omega
            have i0 : (0 : Int) < (ls.length : Int) := by omega
            clear HRE hRe hx hls
            go_wp2_with (first
            | (go_at_call 186; refine hthr.mono ?_; clear hthr; rintro e w1 ⟨v1, rfl, hs1, ha0, ha1, hb1⟩; obtain ⟨A5, c5, rfl, hA5⟩ := id hs1; clear hA5; have hbw1 := bstep hb hb1; have T1 := bblock T0 hb1; have L1 := bblock L0 hb1; have S1 := bblock S0 hb1; have hz1 := hb1.size; clear t0 t1 t2 t3 t4 l0 l1 m0 m1 s0 s1 y0 y1; have t0 := bcellAt (v := .int .u32 t.boot) T1 0 rfl; have t1 := bcellAt (v := .slice A1 t.res.length c1) T1 1 rfl; have t2 := bcellAt (v := .string t.root.name) T1 2 rfl; have t3 := bcellAt (v := .slice A2 t.root.props.length c2) T1 3 rfl; have t4 := bcellAt (v := .slice A3 t.root.kids.length c3) T1 4 rfl; have l0 := bcellAt (v := .slice Al l.1.length cl) L1 0 rfl; have l1 := bcellAt (v := .int .u32 l.2) L1 1 rfl; have m0 := bfrozenAt L1 0; have m1 := bfrozenAt L1 1; have s0 := bcellAt (v := .slice none 0 0) S1 0 rfl; have s1 := bcellAt (v := .int .u32 0) S1 1 rfl; have y0 := bfrozenAt S1 0; have y1 := bfrozenAt S1 1; have lt1 := blockLt S1)
            | (at_builtin; refine wpList_row1 rfl elLn _ _ rfl ((HROW.out.below hb1).below (by repeat (first | assumption | exact Below.refl _ _ | with_reducible refine bset ?_ (by simp) _ | with_reducible refine balloc ?_ _ | with_reducible refine bdrew ?_ | with_reducible refine bdrewN ?_ _ | with_reducible refine bstep ?_ (by assumption)))) rfl rfl (by first | exact blast _ _ _ (by simp) | simp) (y := la) (rep_ln ha0 ha1 ((hs1.below (balloc (balloc (brefl _) _) _)).mono (fun j h5 _ => ⟨by have h6 : wr.heap.size ≤ j := h5; omega, fun e5 => by have h7 := (HROW.out.lt j e5.symm).2; have h6 : wr.heap.size ≤ j := h5; omega⟩))) (by rw [HWL.out]; omega) (by simp; omega) ?_; intro g cap w2 hrow2 hg2 hat2 hlt2; have hne : ∀ j, j < w.heap.size + 3 → some j ≠ u7.ownBlock := fun j hj => HROW.out.ne hj; have T2 := gblock (bblock_alloc (bblock_alloc T1 _) _) hg2 (hne _ (by omega)); have L2 := gblock (bblock_alloc (bblock_alloc L1 _) _) hg2 (hne _ (by omega)); have S2 := gblock (bblock_alloc (bblock_alloc S1 _) _) hg2 (hne _ (by omega)); have H2 := gblock (bblock_alloc (blast w1 (.cells #[.slice A5 la.1.length c5, .int .u32 la.2] 331) _ rfl) _) hg2 (fun e5 => by have h7 := (HROW.out.lt _ e5.symm).2; omega); have hz2 := hg2.size; have hbw2 := bgrown (balloc (balloc hbw1 _) _) hg2 (HROW.out.base (by omega)); have hs2 := (hs1.below (balloc (balloc (brefl w1) _) _)).move fun j h5 hlt => hg2.block j hlt (fun e5 => by have h7 := (HROW.out.lt j e5.symm).2; have h6 : wr.heap.size ≤ j := h5; omega); clear t0 t1 t2 t3 t4 l0 l1 m0 m1 s0 s1 y0 y1; have t0 := bcellAt (v := .int .u32 t.boot) T2 0 rfl; have t1 := bcellAt (v := .slice A1 t.res.length c1) T2 1 rfl; have t2 := bcellAt (v := .string t.root.name) T2 2 rfl; have t3 := bcellAt (v := .slice A2 t.root.props.length c2) T2 3 rfl; have t4 := bcellAt (v := .slice A3 t.root.kids.length c3) T2 4 rfl; have l0 := bcellAt (v := .slice Al l.1.length cl) L2 0 rfl; have l1 := bcellAt (v := .int .u32 l.2) L2 1 rfl; have m0 := bfrozenAt L2 0; have m1 := bfrozenAt L2 1; have s0 := bcellAt (v := .slice none 0 0) S2 0 rfl; have s1 := bcellAt (v := .int .u32 0) S2 1 rfl; have y0 := bfrozenAt S2 0; have y1 := bfrozenAt S2 1; have lt2 := blockLt S2; have h0 := bcellAt (v := .slice A5 la.1.length c5) H2 0 rfl; have h1 := bcellAt (v := .int .u32 la.2) H2 1 rfl; have hlt2 := blockLt H2)
            | (go_at_call 185; (refine (hlin _ _ _ _ _ (hv.below hbw2) hs2).mono ?_); clear hlin; rintro e w3 ⟨v3, rfl, hr3, hb3⟩; have hs3 := hr3.sl; obtain ⟨A7, c7, rfl, hc7, hl7, ha7⟩ := hr3.form; clear hr3; have hbw3 := bstep hbw2 hb3; have T3 := bblock T2 hb3; have L3 := bblock L2 hb3; have S3 := bblock S2 hb3; have H3 := bblock H2 hb3; have hz3 := hb3.size; clear h0 h1; clear t0 t1 t2 t3 t4 l0 l1 m0 m1 s0 s1 y0 y1; have t0 := bcellAt (v := .int .u32 t.boot) T3 0 rfl; have t1 := bcellAt (v := .slice A1 t.res.length c1) T3 1 rfl; have t2 := bcellAt (v := .string t.root.name) T3 2 rfl; have t3 := bcellAt (v := .slice A2 t.root.props.length c2) T3 3 rfl; have t4 := bcellAt (v := .slice A3 t.root.kids.length c3) T3 4 rfl; have l0 := bcellAt (v := .slice Al l.1.length cl) L3 0 rfl; have l1 := bcellAt (v := .int .u32 l.2) L3 1 rfl; have m0 := bfrozenAt L3 0; have m1 := bfrozenAt L3 1; have s0 := bcellAt (v := .slice none 0 0) S3 0 rfl; have s1 := bcellAt (v := .int .u32 0) S3 1 rfl; have y0 := bfrozenAt S3 0; have y1 := bfrozenAt S3 1; have lt3 := blockLt S3; have h0 := bcellAt (v := .slice A5 la.1.length c5) H3 0 rfl; have h1 := bcellAt (v := .int .u32 la.2) H3 1 rfl; have hlt3 := blockLt H3; obtain ⟨bb, boff, A8, c8, rfl, hob, hbl, r0, r1, hx0, hx1, hsx⟩ := ha7.ln_at HX.out; simp only [Nat.zero_mul, Nat.add_zero] at r0 r1))
            have T4 := bsetFar (p := ⟨w.heap.size + 1, 1, none⟩) (bsetFar (p := ⟨w.heap.size + 1, 0, none⟩) T3 (by simp) (.slice A8 x.1.length c8)) (by simp) (.int .u32 x.2)
            have S4 := bsetFar (p := ⟨w.heap.size + 1, 1, none⟩) (bsetFar (p := ⟨w.heap.size + 1, 0, none⟩) S3 (by simp) (.slice A8 x.1.length c8)) (by simp) (.int .u32 x.2)
            have L4 := bsetAt (bsetAt L3 0 (.slice A8 x.1.length c8)) 1 (.int .u32 x.2)
            have hs4 : Sl tInt ((w3.setCell ⟨w.heap.size + 1, 0, none⟩ (.slice A8 x.1.length c8)).setCell ⟨w.heap.size + 1, 1, none⟩ (.int .u32 x.2)) (fun j => j ≠ w.heap.size ∧ j ≠ w.heap.size + 1 ∧ j ≠ w.heap.size + 2) (.slice A8 x.1.length c8) x.1 := (hsx.move (w1 := (w3.setCell ⟨w.heap.size + 1, 0, none⟩ (.slice A8 x.1.length c8)).setCell ⟨w.heap.size + 1, 1, none⟩ (.int .u32 x.2)) fun j h hlt => by have : w2.heap.size ≤ j := h; rw [Below.heap_setCell _ _ _ _ (by simp; omega), Below.heap_setCell _ _ _ _ (by simp; omega)]).mono fun j h _ => by have : w2.heap.size ≤ j := h; exact ⟨by omega, by omega, by omega⟩
            have hro4 := row_set (row_set (hrow2.below hb3) (p := ⟨w.heap.size + 1, 0, none⟩) (by simp) (.slice A8 x.1.length c8)) (p := ⟨w.heap.size + 1, 1, none⟩) (by simp) (.int .u32 x.2)
            go_roundw
            case rel => exact ⟨k + 1, _, x, way ++ [la], by omega, by go_num, by rw [HR2.out, show 16 - (k + 1) = 15 - k by omega], by simp [HWL.out], hx0, hx1, hs4, hro4, T4, L4, S4, bset (bset hbw3 (by simp) _) (by simp) _⟩
            case measure => simp [intOf]; omega
        · have hfin : R = (([], 0), [], e2) := by rw [HRE.out]; simp [g2]
          have q4 : (e2 != 0) = true := by rw [bne_iff_ne]; exact g2
          clear HRE
          subst hfin
          go_wp2_with (first
            | (go_at_call 186; refine hthr.mono ?_; clear hthr; rintro e w1 ⟨v1, rfl, hs1, ha0, ha1, hb1⟩; obtain ⟨A5, c5, rfl, hA5⟩ := id hs1; clear hA5; have hbw1 := bstep hb hb1; have T1 := bblock T0 hb1; have L1 := bblock L0 hb1; have S1 := bblock S0 hb1; have hz1 := hb1.size; clear t0 t1 t2 t3 t4 l0 l1 m0 m1 s0 s1 y0 y1; have t0 := bcellAt (v := .int .u32 t.boot) T1 0 rfl; have t1 := bcellAt (v := .slice A1 t.res.length c1) T1 1 rfl; have t2 := bcellAt (v := .string t.root.name) T1 2 rfl; have t3 := bcellAt (v := .slice A2 t.root.props.length c2) T1 3 rfl; have t4 := bcellAt (v := .slice A3 t.root.kids.length c3) T1 4 rfl; have l0 := bcellAt (v := .slice Al l.1.length cl) L1 0 rfl; have l1 := bcellAt (v := .int .u32 l.2) L1 1 rfl; have m0 := bfrozenAt L1 0; have m1 := bfrozenAt L1 1; have s0 := bcellAt (v := .slice none 0 0) S1 0 rfl; have s1 := bcellAt (v := .int .u32 0) S1 1 rfl; have y0 := bfrozenAt S1 0; have y1 := bfrozenAt S1 1; have lt1 := blockLt S1)
            | (at_builtin; refine wpList_row1 rfl elLn _ _ rfl ((HROW.out.below hb1).below (by repeat (first | assumption | exact Below.refl _ _ | with_reducible refine bset ?_ (by simp) _ | with_reducible refine balloc ?_ _ | with_reducible refine bdrew ?_ | with_reducible refine bdrewN ?_ _ | with_reducible refine bstep ?_ (by assumption)))) rfl rfl (by first | exact blast _ _ _ (by simp) | simp) (y := la) (rep_ln ha0 ha1 ((hs1.below (balloc (balloc (brefl _) _) _)).mono (fun j h5 _ => ⟨by have h6 : wr.heap.size ≤ j := h5; omega, fun e5 => by have h7 := (HROW.out.lt j e5.symm).2; have h6 : wr.heap.size ≤ j := h5; omega⟩))) (by rw [HWL.out]; omega) (by simp; omega) ?_; intro g cap w2 hrow2 hg2 hat2 hlt2; have hne : ∀ j, j < w.heap.size + 3 → some j ≠ u7.ownBlock := fun j hj => HROW.out.ne hj; have T2 := gblock (bblock_alloc (bblock_alloc T1 _) _) hg2 (hne _ (by omega)); have L2 := gblock (bblock_alloc (bblock_alloc L1 _) _) hg2 (hne _ (by omega)); have S2 := gblock (bblock_alloc (bblock_alloc S1 _) _) hg2 (hne _ (by omega)); have H2 := gblock (bblock_alloc (blast w1 (.cells #[.slice A5 la.1.length c5, .int .u32 la.2] 331) _ rfl) _) hg2 (fun e5 => by have h7 := (HROW.out.lt _ e5.symm).2; omega); have hz2 := hg2.size; have hbw2 := bgrown (balloc (balloc hbw1 _) _) hg2 (HROW.out.base (by omega)); have hs2 := (hs1.below (balloc (balloc (brefl w1) _) _)).move fun j h5 hlt => hg2.block j hlt (fun e5 => by have h7 := (HROW.out.lt j e5.symm).2; have h6 : wr.heap.size ≤ j := h5; omega); clear t0 t1 t2 t3 t4 l0 l1 m0 m1 s0 s1 y0 y1; have t0 := bcellAt (v := .int .u32 t.boot) T2 0 rfl; have t1 := bcellAt (v := .slice A1 t.res.length c1) T2 1 rfl; have t2 := bcellAt (v := .string t.root.name) T2 2 rfl; have t3 := bcellAt (v := .slice A2 t.root.props.length c2) T2 3 rfl; have t4 := bcellAt (v := .slice A3 t.root.kids.length c3) T2 4 rfl; have l0 := bcellAt (v := .slice Al l.1.length cl) L2 0 rfl; have l1 := bcellAt (v := .int .u32 l.2) L2 1 rfl; have m0 := bfrozenAt L2 0; have m1 := bfrozenAt L2 1; have s0 := bcellAt (v := .slice none 0 0) S2 0 rfl; have s1 := bcellAt (v := .int .u32 0) S2 1 rfl; have y0 := bfrozenAt S2 0; have y1 := bfrozenAt S2 1; have lt2 := blockLt S2; have h0 := bcellAt (v := .slice A5 la.1.length c5) H2 0 rfl; have h1 := bcellAt (v := .int .u32 la.2) H2 1 rfl; have hlt2 := blockLt H2)
            | (go_at_call 185; (refine (hlin _ _ _ _ _ (hv.below hbw2) hs2).mono ?_); clear hlin; rintro e w3 ⟨v3, rfl, hr3, hb3⟩; have hs3 := hr3.sl; obtain ⟨A7, c7, rfl, hc7, hl7, ha7⟩ := hr3.form; clear hr3; have hbw3 := bstep hbw2 hb3; have T3 := bblock T2 hb3; have L3 := bblock L2 hb3; have S3 := bblock S2 hb3; have H3 := bblock H2 hb3; have hz3 := hb3.size; clear h0 h1; clear t0 t1 t2 t3 t4 l0 l1 m0 m1 s0 s1 y0 y1; have t0 := bcellAt (v := .int .u32 t.boot) T3 0 rfl; have t1 := bcellAt (v := .slice A1 t.res.length c1) T3 1 rfl; have t2 := bcellAt (v := .string t.root.name) T3 2 rfl; have t3 := bcellAt (v := .slice A2 t.root.props.length c2) T3 3 rfl; have t4 := bcellAt (v := .slice A3 t.root.kids.length c3) T3 4 rfl; have l0 := bcellAt (v := .slice Al l.1.length cl) L3 0 rfl; have l1 := bcellAt (v := .int .u32 l.2) L3 1 rfl; have m0 := bfrozenAt L3 0; have m1 := bfrozenAt L3 1; have s0 := bcellAt (v := .slice none 0 0) S3 0 rfl; have s1 := bcellAt (v := .int .u32 0) S3 1 rfl; have y0 := bfrozenAt S3 0; have y1 := bfrozenAt S3 1; have lt3 := blockLt S3; have h0 := bcellAt (v := .slice A5 la.1.length c5) H3 0 rfl; have h1 := bcellAt (v := .int .u32 la.2) H3 1 rfl; have hlt3 := blockLt H3))
          exact bodyPost_ret (v := .tuple #[.agg #[.slice none 0 0, .int .u32 0], .slice none 0 0, .int .i64 e2]) (by simp [results, Tryz.results292, go_sem, res0 S3, res1 S3]) rfl (by have hB := bset (bset hbw3 (p := ⟨w.heap.size + 1 + 1, 0, none⟩) (by simp; omega) (.slice none 0 0)) (p := ⟨w.heap.size + 1 + 1, 1, none⟩) (by simp; omega) (.int .u32 0); first | exact ⟨_, _, rfl, Sl.nil _ _, Own.nil, hB⟩ | exact ⟨_, _, rfl, Sl.nil _ _, Own.nil, by decide, by decide, hB⟩)
      · rw [if_pos g1] at hRe
        have q4 : (e1 != 0) = true := by rw [bne_iff_ne]; exact g1
        subst hRe
        go_wp2_with (first
            | (go_at_call 186; refine hthr.mono ?_; clear hthr; rintro e w1 ⟨v1, rfl, hs1, ha0, ha1, hb1⟩; obtain ⟨A5, c5, rfl, hA5⟩ := id hs1; clear hA5; have hbw1 := bstep hb hb1; have T1 := bblock T0 hb1; have L1 := bblock L0 hb1; have S1 := bblock S0 hb1; have hz1 := hb1.size; clear t0 t1 t2 t3 t4 l0 l1 m0 m1 s0 s1 y0 y1; have t0 := bcellAt (v := .int .u32 t.boot) T1 0 rfl; have t1 := bcellAt (v := .slice A1 t.res.length c1) T1 1 rfl; have t2 := bcellAt (v := .string t.root.name) T1 2 rfl; have t3 := bcellAt (v := .slice A2 t.root.props.length c2) T1 3 rfl; have t4 := bcellAt (v := .slice A3 t.root.kids.length c3) T1 4 rfl; have l0 := bcellAt (v := .slice Al l.1.length cl) L1 0 rfl; have l1 := bcellAt (v := .int .u32 l.2) L1 1 rfl; have m0 := bfrozenAt L1 0; have m1 := bfrozenAt L1 1; have s0 := bcellAt (v := .slice none 0 0) S1 0 rfl; have s1 := bcellAt (v := .int .u32 0) S1 1 rfl; have y0 := bfrozenAt S1 0; have y1 := bfrozenAt S1 1; have lt1 := blockLt S1))
        have u0 := bcellAt (v := .slice none 0 0) (bblock_alloc (bsetAt (bsetAt S1 0 (.slice none 0 0)) 1 (.int .u32 0)) (.cells #[.slice A5 la.1.length c5, .int .u32 la.2] 331)) 0 rfl
        have u1 := bcellAt (v := .int .u32 0) (bblock_alloc (bsetAt (bsetAt S1 0 (.slice none 0 0)) 1 (.int .u32 0)) (.cells #[.slice A5 la.1.length c5, .int .u32 la.2] 331)) 1 rfl
        have hB := balloc (bset (bset hbw1 (p := ⟨w.heap.size + 1 + 1, 0, none⟩) (by simp; omega) (.slice none 0 0)) (p := ⟨w.heap.size + 1 + 1, 1, none⟩) (by simp; omega) (.int .u32 0)) (.cells #[.slice A5 la.1.length c5, .int .u32 la.2] 331)
        refine bodyPost_ret (v := .tuple #[.agg #[.slice none 0 0, .int .u32 0], .slice none 0 0, .int .i64 e1]) (by simp [results, Tryz.results292, go_sem, u0, u1]) rfl ?_
        first | exact ⟨_, _, rfl, Sl.nil _ _, Own.nil, hB⟩ | exact ⟨_, _, rfl, Sl.nil _ _, Own.nil, by decide, by decide, hB⟩
    · obtain rfl : k = 16 := by omega
      have hfin : R = (([], 0), [], 14) := by rw [hRe]; rfl
      subst hfin
      have s0 := bcellAt (v := .slice none 0 0) hS 0 rfl
      have s1 := bcellAt (v := .int .u32 0) hS 1 rfl
      have y0 := bfrozenAt hS 0
      have y1 := bfrozenAt hS 1
      go_wp2_with fail
      exact bodyPost_ret (v := .tuple #[.agg #[.slice none 0 0, .int .u32 0], .slice none 0 0, .int .i64 14]) (by simp [results, Tryz.results292, go_sem, res0 hS, res1 hS]) rfl (by have hB := bset (bset hb (p := ⟨w.heap.size + 1 + 1, 0, none⟩) (by simp; omega) (.slice none 0 0)) (p := ⟨w.heap.size + 1 + 1, 1, none⟩) (by simp; omega) (.int .u32 0); first | exact ⟨_, _, rfl, Sl.nil _ _, Own.nil, hB⟩ | exact ⟨_, _, rfl, Sl.nil _ _, Own.nil, by decide, by decide, hB⟩)
end Go.Proofs.YtdfknlhfdbbogaaGreatDoor
