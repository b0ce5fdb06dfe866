/-
  valid: wires. No condition.
-/
import Derived.Test.YtdfknlhfdbbogaaGreatDoorWay
namespace Go.Proofs.YtdfknlhfdbbogaaGreatDoor
open Go.RowKit
set_option linter.unusedSimpArgs false
set_option linter.unusedVariables false
theorem LkB.setC {w : World} {g : Nat} {t : Tr} {c : Int} {vl : Value} (h : LkB w g t c vl) (c' : Int) : LkB (w.setCell ⟨g, 5, none⟩ (.int .i64 c')) g t c' vl := by
  obtain ⟨A1, c1, A2, c2, A3, c3, h1, h2⟩ := h
  exact ⟨A1, c1, A2, c2, A3, c3, bsetAt h1 5 _, h2.move fun k hk _ => Below.heap_setCell _ _ _ _ (by have h9 : k < g := hk; show k ≠ g; omega)⟩
theorem LkB.setV {w : World} {g : Nat} {t : Tr} {c : Int} {vl : Value} (h : LkB w g t c vl) (v' : Value) : LkB (w.setCell ⟨g, 6, none⟩ v') g t c v' := by
  obtain ⟨A1, c1, A2, c2, A3, c3, h1, h2⟩ := h
  exact ⟨A1, c1, A2, c2, A3, c3, bsetAt h1 6 _, h2.move fun k hk _ => Below.heap_setCell _ _ _ _ (by have h9 : k < g := hk; show k ≠ g; omega)⟩
theorem LkB.grown {w w1 : World} {g : Nat} {t : Tr} {c : Int} {vl : Value} {row : Option Nat} (h : LkB w g t c vl) (hg : w.grownBy w1 row) (hr : ∀ k, row = some k → g < k) : LkB w1 g t c vl := by
  obtain ⟨A1, c1, A2, c2, A3, c3, h1, h2⟩ := h
  exact ⟨A1, c1, A2, c2, A3, c3, gblock h1 hg (fun e => by have := hr g e.symm; omega), h2.move fun k hk hlt => hg.block k hlt (fun e => by have := hr k e.symm; have h9 : k < g := hk; omega)⟩
/-- What a call on the look leaves: its new state; old blocks are as they were but for the look's own and the row's. -/
def LkRes (t : Tr) (vl : Value) (B g : Nat) (w : World) (s : Lk) (w' : World) : Prop :=
  ∃ vl', LkB w' g t s.1 vl' ∧ Row tWl 403 w' B vl' s.2 ∧ Kept (fun k => k = g ∨ vl.ownBlock = some k) w w' ∧ (vl'.ownBlock = vl.ownBlock ∨ ∃ b, vl'.ownBlock = some b ∧ w.heap.size ≤ b)
theorem LkRes.same {t : Tr} {vl : Value} {B g : Nat} {w w' : World} {s : Lk} (hlk : LkB w g t s.1 vl) (hrow : Row tWl 403 w B vl s.2) (hb : Below w.heap.size w w') : LkRes t vl B g w s w' := ⟨vl, hlk.below hb, hrow.below hb, Kept.below hb, .inl rfl⟩
theorem LkRes.lift {t : Tr} {vl : Value} {B g : Nat} {w w1 w' : World} {s : Lk} (hb : Below w.heap.size w w1) (h : LkRes t vl B g w1 s w') : LkRes t vl B g w s w' := by
  obtain ⟨vl', h1, h2, h3, h4⟩ := h
  refine ⟨vl', h1, h2, (Kept.below (X := fun k => k = g ∨ vl.ownBlock = some k) hb).trans h3 fun i _ h => h, ?_⟩
  rcases h4 with h4 | ⟨b, h4, h5⟩
  · exact .inl h4
  · exact .inr ⟨b, h4, Nat.le_trans hb.size h5⟩
theorem LkRes.app {t : Tr} {B g g9 cap : Nat} {wd W w9 : World} {c : Int} {vl : Value} {m : Nat} {xs : List Wl} (hB : Below wd.heap.size wd W) (hg : W.grownBy w9 vl.ownBlock) (hlk9 : LkB w9 g t c vl) (hrow9 : Row tWl 403 w9 B (.slice (some ⟨g9, 0, none⟩) m cap) xs) (hat : vl.ownBlock = some g9 ∨ g9 = W.heap.size) (hgB : g < B) :
    LkRes t vl B g wd (c, xs) (w9.setCell ⟨g, 6, none⟩ (.slice (some ⟨g9, 0, none⟩) m cap)) := by
  refine ⟨_, hlk9.setV _, row_set hrow9 (by show g < B; omega) _, ⟨?_, ?_, ?_, ?_, fun j hj hne => ?_⟩, ?_⟩
  · exact hg.os.trans hB.os
  · exact hg.tape.trans hB.tape
  · exact hg.output.trans hB.output
  · simp only [World.setCell, Array.size_modify]; exact Nat.le_trans hB.size hg.size
  · rw [Below.heap_setCell _ _ _ _ (by show j ≠ g; exact fun e => hne (.inl e))]
    exact (hg.block j (Nat.lt_of_lt_of_le hj hB.size) (fun e => hne (.inr e.symm))).trans (hB.block j hj)
  · rcases hat with h | h
    · left; rw [h]; rfl
    · exact .inr ⟨g9, rfl, by rw [h]; exact hB.size⟩
theorem wiresM_err {t : Tr} {n : Nd} {place : List Int} {k : Int} {s : Lk} {ls : List Ln} {e : Int} (h : linesM t place = (ls, e)) (he : e ≠ 0) : wiresM t n place k s = (e, s) := by unfold wiresM; rw [h]; simp only; rw [if_pos he]
theorem wiresM_form {t : Tr} {n : Nd} {place : List Int} {k : Int} {s : Lk} {ls : List Ln} (h : linesM t place = (ls, 0)) (hf : (k = 7 ∧ controllerM n = false) ∨ 1 < ls.length ∨ (k = 2 ∧ 0 < ls.length)) : wiresM t n place k s = (4, s) := by unfold wiresM; rw [h]; simp only; rw [if_neg (by simp), if_pos hf]
theorem wiresM_none {t : Tr} {n : Nd} {place : List Int} {k : Int} {s : Lk} (h : linesM t place = ([], 0)) (hf : ¬ (k = 7 ∧ controllerM n = false)) : wiresM t n place k s = (0, (if k = 7 then s.1 + 1 else s.1, s.2)) := by unfold wiresM; rw [h]; simp only; rw [if_neg (by simp), if_neg (by simp only [List.length_nil]; rintro (h | h | h); exact hf h; omega; omega)]
theorem wiresM_one {t : Tr} {n : Nd} {place : List Int} {k : Int} {s : Lk} {x : Ln} (h : linesM t place = ([x], 0)) (hf : ¬ (k = 7 ∧ controllerM n = false)) (h2 : k ≠ 2) :
    wiresM t n place k s = if wayM t x ≠ 0 then (wayM t x, s) else ((throughM t x).2, (s.1, s.2 ++ [(place, (throughM t x).1)])) := by unfold wiresM; rw [h]; simp only; rw [if_neg (by simp), if_neg (by simp only [List.length_singleton]; rintro (h | h | h); exact hf h; omega; exact h2 h.1)]
set_option maxRecDepth 100000 in
set_option maxHeartbeats 2000000 in
theorem wires_walk (t : Tr) (hsz : t.root.size ≤ 536870912) (place : List Int) (hpl : place.length ≤ 536870912) (n : Nd) (hns : n.size ≤ 536870912) (k : Int) (s : Lk) (hs1 : 0 ≤ s.1) (hs2 : s.1 ≤ 536870912) (hs3 : s.2.length ≤ 536870912) (w : World) (hw : Wd w) (g B : Nat) (vl : Value) (okp okn : Nat → Prop) (pv nv : Value)
    (hlk : LkB w g t s.1 vl) (hrow : Row tWl 403 w B vl s.2) (hgB : g < B) (hB : B ≤ w.heap.size) (hp : Sl tInt w okp pv place) (hn : NdV w okn nv n) :
    Calls Tryz.prog 162 #[.pointer (some ⟨g, 0, none⟩), nv, pv, .int .i64 k] w fun e w' => e = .returned (.int .i64 (wiresM t n place k s).1) ∧ LkRes t vl B g w (wiresM t n place k s).2 w' := by
  obtain ⟨A1, c1, A2, c2, A3, c3, hL, hT⟩ := id hlk
  have hlin := fun w1 (h : Below w.heap.size w w1) => lines_walk t hsz place w1 (· < g) okp _ _ (hT.below h) (hp.below h)
  obtain ⟨A4, c4, rfl, hc4, hl4, ha4⟩ := id hp
  obtain ⟨B1, d1, B2, d2, rfl, hnn⟩ := hn.form
  clear hnn ha4
  have hcm := fun w1 h => controller_walk n (by omega) w1 okn (.agg #[.string n.name, .slice B1 n.props.length d1, .slice B2 n.kids.length d2]) h
  have herr := fun ls e => wiresM_err (t := t) (n := n) (place := place) (k := k) (s := s) (ls := ls) (e := e)
  have hform := fun ls => wiresM_form (t := t) (n := n) (place := place) (k := k) (s := s) (ls := ls)
  have hnone := wiresM_none (t := t) (n := n) (place := place) (k := k) (s := s)
  have hone := fun x => wiresM_one (t := t) (n := n) (place := place) (k := k) (s := s) (x := x)
  obtain ⟨R, hR⟩ : ∃ R, R = wiresM t n place k s := ⟨_, rfl⟩
  rw [← hR]
  simp only [← hR] at herr hform hnone hone
  clear hR
  obtain ⟨ls, e1, hq⟩ : ∃ ls e1, linesM t place = (ls, e1) := ⟨_, _, rfl⟩
  have herr := fun h => herr ls e1 hq h
  have hform := fun (h : e1 = 0) => hform ls (by rw [hq, h])
  have hnone := fun (h : e1 = 0) (h2 : ls = []) => hnone (by rw [hq, h, h2])
  have hone := fun x (h : e1 = 0) (h2 : ls = [x]) => hone x (by rw [hq, h, h2])
  simp only [hq] at hlin
  clear hq
  obtain ⟨cm, hcme⟩ : ∃ cm, cm = controllerM n := ⟨_, rfl⟩
  simp only [← hcme] at hform hnone hone hcm
  have hgo0 := hcme
  clear hcme
  have t0 := bcellAt hL 0 rfl
  have t1 := bcellAt hL 1 rfl
  have t2 := bcellAt hL 2 rfl
  have t3 := bcellAt hL 3 rfl
  have t4 := bcellAt hL 4 rfl
  have lt1 := blockLt hL
  by_cases g1 : e1 = 0
  · subst g1
    clear herr
    by_cases g7 : k = 7
    · subst g7
      cases cm
      · have hfin := hform rfl (.inl ⟨rfl, rfl⟩)
        clear hform hnone hone
        subst hfin
        clear hgo0
        go_enter Tryz.func162, Tryz.ntmps162
        go_wp2_with (first
          | (go_at_call 185; refine (hlin _ (by repeat (first | assumption | exact Below.refl _ _ | with_reducible refine bset ?_ (by simp) _ | with_reducible refine balloc ?_ _ | with_reducible refine bdrew ?_ | with_reducible refine bdrewN ?_ _ | with_reducible refine bstep ?_ (by assumption)))).mono ?_; clear hlin; rintro e w1 ⟨v1, rfl, hrow1, hb1⟩; have hs1 := hrow1.sl; obtain ⟨A5, c5, rfl, hc5, hl5, ha5⟩ := id hs1; have hbw1 := bstep (balloc (brefl w) _) hb1; have hnb1 := bblock (blast w _ _ rfl) hb1; have n0 := bcellAt (v := .string n.name) hnb1 0 rfl; have n1 := bcellAt (v := .slice B1 n.props.length d1) hnb1 1 rfl; have n2 := bcellAt (v := .slice B2 n.kids.length d2) hnb1 2 rfl; have lb1 := blockLt hnb1; clear t0 t1 t2 t3 t4)
          | (go_at_call 262; refine (hcm _ ((hn.below hbw1))).mono ?_; clear hcm; rintro e w2 ⟨rfl, hb2⟩; have hbw2 := bstep hbw1 hb2))
        go_ret
        exact ⟨rfl, LkRes.same hlk hrow hbw2⟩
      · rcases ls with _ | ⟨x, _ | ⟨y, tl⟩⟩
        · have hfin := hnone rfl rfl (by simp)
          clear hform hnone hone
          rw [if_pos rfl] at hfin
          subst hfin
          clear hgo0
          have t5 := bcellAt hL 5 rfl
          have y5 := bfrozenAt hL 5
          go_enter Tryz.func162, Tryz.ntmps162
          go_wp2_with (first
            | (go_at_call 185; refine (hlin _ (by repeat (first | assumption | exact Below.refl _ _ | with_reducible refine bset ?_ (by simp) _ | with_reducible refine balloc ?_ _ | with_reducible refine bdrew ?_ | with_reducible refine bdrewN ?_ _ | with_reducible refine bstep ?_ (by assumption)))).mono ?_; clear hlin; rintro e w1 ⟨v1, rfl, hrow1, hb1⟩; have hs1 := hrow1.sl; obtain ⟨A5, c5, rfl, hc5, hl5, ha5⟩ := id hs1; have hbw1 := bstep (balloc (brefl w) _) hb1; have hnb1 := bblock (blast w _ _ rfl) hb1; have n0 := bcellAt (v := .string n.name) hnb1 0 rfl; have n1 := bcellAt (v := .slice B1 n.props.length d1) hnb1 1 rfl; have n2 := bcellAt (v := .slice B2 n.kids.length d2) hnb1 2 rfl; have lb1 := blockLt hnb1; have t5 := bkeep hbw1 t5; have y5 := (hbw1.frozen (p := ⟨g, 5, none⟩) lt1).trans y5; have lt2 := Nat.lt_of_lt_of_le lt1 hbw1.size; clear t0 t1 t2 t3 t4)
            | (go_at_call 262; refine (hcm _ ((hn.below hbw1))).mono ?_; clear hcm; rintro e w2 ⟨rfl, hb2⟩; have t5 := bkeep hb2 t5; have y5 := (hb2.frozen (p := ⟨g, 5, none⟩) lt2).trans y5; have lt3 := Nat.lt_of_lt_of_le lt2 hb2.size; have hbw2 := bstep hbw1 hb2))
          go_ret
          refine ⟨rfl, vl, (hlk.below hbw2).setC _, row_set (hrow.below hbw2) (by show g < B; omega) _, ⟨hbw2.os, hbw2.tape, hbw2.output, by simp [World.setCell]; exact hbw2.size, fun j hj hne => ?_⟩, .inl rfl⟩
          rw [Below.heap_setCell _ _ _ _ (by show j ≠ g; exact fun e => hne (.inl e))]
          exact hbw2.block j hj
        · have hRx := hone x rfl rfl (by simp) (by decide)
          have q2 : ((7 : Int) == 2) = false := by decide
          clear hform hnone hone
          have hway := fun w1 (h : Below w.heap.size w w1) l0 l1 ok1 v h2 => way_walk t hsz x l0 l1 w1 (hw.below h) g s.1 vl ok1 v (hlk.below h) h2
          have hthr := fun w1 (h : Below w.heap.size w w1) l0 l1 ok1 v h2 => through_walk t hsz x l0 l1 w1 (· < g) ok1 _ v (hT.below h) h2
          obtain ⟨q, hqw⟩ : ∃ q, q = wayM t x := ⟨_, rfl⟩
          simp only [← hqw] at hway hRx
          obtain ⟨y, e2, hye⟩ : ∃ y e2, throughM t x = (y, e2) := ⟨_, _, rfl⟩
          simp only [hye] at hthr hRx
          clear hqw hye hgo0
          obtain ⟨x1, x2⟩ := x
          simp only at hway hthr
          by_cases g3 : q = 0
          · subst g3
            rw [if_neg (by simp)] at hRx
            subst hRx
            obtain ⟨Av, cv, rfl, hvf⟩ := hrow.form
            clear hvf
            go_enter Tryz.func162, Tryz.ntmps162
            go_upto_region 15 with (first
              | (go_at_call 185; refine (hlin _ (by repeat (first | assumption | exact Below.refl _ _ | with_reducible refine bset ?_ (by simp) _ | with_reducible refine balloc ?_ _ | with_reducible refine bdrew ?_ | with_reducible refine bdrewN ?_ _ | with_reducible refine bstep ?_ (by assumption)))).mono ?_; clear hlin; rintro e w1 ⟨v1, rfl, hrow1, hb1⟩; have hs1 := hrow1.sl; obtain ⟨A5, c5, rfl, hc5, hl5, ha5⟩ := id hs1; obtain ⟨lb, loff, Ax, cx, rfl, hlob, hllt, r0, r1, hx0, hx1, hsx⟩ := ha5.ln_at (j := 0) rfl; simp only [Nat.zero_mul, Nat.add_zero] at r0 r1; simp only at r0 r1 hx0 hx1 hsx; have hbw1 := bstep (balloc (brefl w) _) hb1; have hnb1 := bblock (blast w _ _ rfl) hb1; have n0 := bcellAt (v := .string n.name) hnb1 0 rfl; have n1 := bcellAt (v := .slice B1 n.props.length d1) hnb1 1 rfl; have n2 := bcellAt (v := .slice B2 n.kids.length d2) hnb1 2 rfl; have lb1 := blockLt hnb1; clear t0 t1 t2 t3 t4)
              | (go_at_call 262; refine (hcm _ ((hn.below hbw1))).mono ?_; clear hcm; rintro e w2 ⟨rfl, hb2⟩; have r0 := bkeep hb2 r0; have r1 := bkeep hb2 r1; have hsx := hsx.below hb2; have hbw2 := bstep hbw1 hb2)
              | (go_at_call 263; refine (hway _ hbw2 hx0 hx1 _ _ hsx).mono ?_; clear hway; rintro e w3 ⟨rfl, hb3⟩; have hbw3 := bstep hbw2 hb3; have hsx3 := hsx.below hb3; have r0 := bkeep hb3 r0; have r1 := bkeep hb3 r1; have hL3 := bblock hL hbw3; have t0 := bcellAt hL3 0 rfl; have t1 := bcellAt hL3 1 rfl; have t2 := bcellAt hL3 2 rfl; have t3 := bcellAt hL3 3 rfl; have t4 := bcellAt hL3 4 rfl; have lt3 := blockLt hL3; have ltl : lb < w3.heap.size := World.block_lt_of_cell? _ _ r0; have hc6 : (1 : Int) ≤ (c5 : Int) := (by simp at hc5; omega)))
            go_cut [10, 12] (fun a b wx => ∃ (bb : Nat) (At : Option Addr) (ct : Nat), a = .int .i64 e2 ∧ b = .pointer (some ⟨bb, 0, none⟩) ∧ w3.heap.size ≤ bb ∧ wx.heap[bb]? = some (.cells #[.slice At y.1.length ct, .int .u32 y.2] 331 (0, 0)) ∧ Sl tInt wx (w3.heap.size ≤ ·) (.slice At y.1.length ct) y.1 ∧ 0 ≤ y.2 ∧ y.2 < 4294967296 ∧ Below w3.heap.size w3 wx)
            case first =>
              go_region_law (first
                | (go_simp; go_at_call 186; (refine (hthr _ (bstep hbw3 ?_) hx0 hx1 _ _ (hsx3.below ?_)).mono ?_); exact (by repeat (first | assumption | exact Below.refl _ _ | with_reducible refine bset ?_ (by simp) _ | with_reducible refine balloc ?_ _ | with_reducible refine bdrew ?_ | with_reducible refine bdrewN ?_ _ | with_reducible refine bstep ?_ (by assumption))); exact (by repeat (first | assumption | exact Below.refl _ _ | with_reducible refine bset ?_ (by simp) _ | with_reducible refine balloc ?_ _ | with_reducible refine bdrew ?_ | with_reducible refine bdrewN ?_ _ | with_reducible refine bstep ?_ (by assumption))); rintro e w5 ⟨v5, rfl, hs5, hu0, hu1, hb5⟩; obtain ⟨A6, c6, rfl, hA6⟩ := id hs5; clear hA6; (try (have hz : w5.heap[w3.heap.size]? = some (.cells #[.slice none 0 0, .int .u32 0] 331 (0, 0)) := bblock (blast w3.drew _ w3.heap.size rfl) hb5; have z0 := bcellAt (v := .slice none 0 0) hz 0 rfl; have z1 := bcellAt (v := .int .u32 0) hz 1 rfl; have y0 := bfrozenAt hz 0; have y1 := bfrozenAt hz 1; have zl := blockLt hz; have HZ := Lib.hid hz; clear hz))))
              all_goals go_wp2_with fail
              all_goals go_meet
              all_goals first
                | (refine ⟨w5.heap.size, A6, c6, ?_, ?_, ?_, ?_, ?_, ?_, ?_, ?_⟩; (with_reducible rfl); (with_reducible rfl); (have := hb5.size; simp at this; omega); exact blast _ _ _ rfl; exact ((hs5.below (balloc (brefl _) _)).mono fun k h _ => h); assumption; assumption; exact balloc (bstep (bdrew (brefl w3)) hb5) _)
                | (refine ⟨w3.heap.size, A6, c6, ?_, ?_, ?_, ?_, ?_, ?_, ?_, ?_⟩; (with_reducible rfl); (with_reducible rfl); exact Nat.le_refl _; exact bsetAt (bsetAt HZ.out 0 (.slice A6 y.1.length c6)) 1 (.int .u32 y.2); exact ((hs5.move (w1 := (w5.setCell ⟨w3.heap.size, 0, none⟩ _).setCell ⟨w3.heap.size, 1, none⟩ _) fun j h hlt => by have h9 : (w3.alloc (.cells #[.slice none 0 0, .int .u32 0] 331)).drew.heap.size ≤ j := h; simp at h9; rw [Below.heap_setCell _ _ _ _ (by simp; omega), Below.heap_setCell _ _ _ _ (by simp; omega)]).mono fun j h _ => by have h9 : (w3.alloc (.cells #[.slice none 0 0, .int .u32 0] 331)).drew.heap.size ≤ j := h; simp at h9; show w3.heap.size ≤ j; omega); assumption; assumption; exact bset (bset (bstep (bdrew (balloc (brefl w3) _)) hb5) (by simp) _) (by simp) _)
            case rest =>
              obtain ⟨bb, At, ct, rfl, rfl, hbb, hbk, hst, hy0, hy1, hbx⟩ := hcut
              clear t0 t1 t2 t3 t4 r0 r1 hthr hs1
              obtain ⟨wd, hwd⟩ : ∃ wd, wd = wc := ⟨_, rfl⟩
              rw [← hwd] at hbk hst hbx ⊢
              clear hwd
              have hbd := bstep hbw3 hbx
              have hlkd := hlk.below hbd
              have hrowd := hrow.below hbd
              obtain ⟨_, _, _, _, _, _, hLd, _⟩ := id hlkd
              have v6 := bcellAt (v := .slice Av s.2.length cv) hLd 6 rfl
              have ltd := blockLt hLd
              have e0 := bcellAt (v := .slice At y.1.length ct) hbk 0 rfl
              have e1 := bcellAt (v := .int .u32 y.2) hbk 1 rfl
              have ltb := blockLt hbk
              have hpd := hp.below hbd
              have hszd := hbd.size
              have hB3 := hbw3.size
              have HL := Lib.hid hLd
              clear hLd
              go_upto_region 16 with fail
              go_cut [] (fun wx => LkRes t (.slice Av s.2.length cv) B g wd (s.1, s.2 ++ [(place, y)]) wx)
              case first =>
                go_region_law (first
                  | (go_simp; go_at_call 180; (refine (intsClone_walk place (by omega) _ okp _ (hpd.below ?_)).mono ?_); exact (by repeat (first | assumption | exact Below.refl _ _ | with_reducible refine bset ?_ (by simp) _ | with_reducible refine balloc ?_ _ | with_reducible refine bdrew ?_ | with_reducible refine bdrewN ?_ _ | with_reducible refine bstep ?_ (by assumption))); rintro e w6 ⟨u6, rfl, hr6, hb6⟩; have hs6 := hr6.sl; obtain ⟨A8, c8, rfl, hA8⟩ := id hs6; clear hA8; have hB6 : Below wd.heap.size wd w6 := bstep (by repeat (first | assumption | exact Below.refl _ _ | with_reducible refine bset ?_ (by simp) _ | with_reducible refine balloc ?_ _ | with_reducible refine bdrew ?_ | with_reducible refine bdrewN ?_ _ | with_reducible refine bstep ?_ (by assumption))) hb6; have v7 := bkeep hB6 v6; have e2' := bkeep hB6 e0; have e3' := bkeep hB6 e1; have lt7 := Nat.lt_of_lt_of_le ltd hB6.size; have lt8 := Nat.lt_of_lt_of_le ltb hB6.size; have hz6 := hB6.size)
                  | (refine step_row1 (by rfl) elWl _ _ (by rfl) (hrowd.below (bstep hB6 ?_)) (by rfl) (by rfl) (blast _ _ _ (by simp)) (y := (place, y)) (rep_wl hy0 hy1 ((hs6.below ?_).mono ?_) ((hst.below (bstep hB6 ?_)).mono ?_)) (by omega) (by simp; omega) ?_; exact (by repeat (first | assumption | exact Below.refl _ _ | with_reducible refine bset ?_ (by simp) _ | with_reducible refine balloc ?_ _ | with_reducible refine bdrew ?_ | with_reducible refine bdrewN ?_ _ | with_reducible refine bstep ?_ (by assumption))); exact (by repeat (first | assumption | exact Below.refl _ _ | with_reducible refine bset ?_ (by simp) _ | with_reducible refine balloc ?_ _ | with_reducible refine bdrew ?_ | with_reducible refine bdrewN ?_ _ | with_reducible refine bstep ?_ (by assumption))); (intro j h hlt; have h9 : wd.heap.size ≤ j := h; exact ⟨by omega, fun e5 => by have := (hrowd.lt j e5.symm).2; omega⟩); exact (by repeat (first | assumption | exact Below.refl _ _ | with_reducible refine bset ?_ (by simp) _ | with_reducible refine balloc ?_ _ | with_reducible refine bdrew ?_ | with_reducible refine bdrewN ?_ _ | with_reducible refine bstep ?_ (by assumption))); (intro j h hlt; have h9 : w3.heap.size ≤ j := h; exact ⟨by omega, fun e5 => by have := (hrow.lt j e5.symm).2; omega⟩); intro g9 cap w9 hrow9 hg9 hat9 hlt9; have hlk9 := (hlkd.below (bstep hB6 (balloc (brefl _) _))).grown hg9 (fun j hj => by have := (hrow.lt j hj).1; omega); obtain ⟨_, _, _, _, _, _, hL9, _⟩ := id hlk9; have v9 := bcellAt (v := .slice Av s.2.length cv) hL9 6 rfl; have y9 := bfrozenAt hL9 6; have l9 := blockLt hL9; clear hL9))
                all_goals go_wp2_with fail
                all_goals go_meet
                all_goals exact LkRes.app (bstep hB6 (by repeat (first | assumption | exact Below.refl _ _ | with_reducible refine bset ?_ (by simp) _ | with_reducible refine balloc ?_ _ | with_reducible refine bdrew ?_ | with_reducible refine bdrewN ?_ _ | with_reducible refine bstep ?_ (by assumption)))) hg9 hlk9 hrow9 hat9 hgB
              case rest =>
                go_wp2_with fail
                go_ret
                exact ⟨rfl, LkRes.lift hbd hcut⟩
          · rw [if_pos g3] at hRx
            have q3 : (q != 0) = true := by rw [bne_iff_ne]; exact g3
            subst hRx
            clear g3 hthr
            go_enter Tryz.func162, Tryz.ntmps162
            go_wp2_with (first
              | (go_at_call 185; refine (hlin _ (by repeat (first | assumption | exact Below.refl _ _ | with_reducible refine bset ?_ (by simp) _ | with_reducible refine balloc ?_ _ | with_reducible refine bdrew ?_ | with_reducible refine bdrewN ?_ _ | with_reducible refine bstep ?_ (by assumption)))).mono ?_; clear hlin; rintro e w1 ⟨v1, rfl, hrow1, hb1⟩; have hs1 := hrow1.sl; obtain ⟨A5, c5, rfl, hc5, hl5, ha5⟩ := id hs1; obtain ⟨lb, loff, Ax, cx, rfl, hlob, hllt, r0, r1, hx0, hx1, hsx⟩ := ha5.ln_at (j := 0) rfl; simp only [Nat.zero_mul, Nat.add_zero] at r0 r1; simp only at r0 r1 hx0 hx1 hsx; have hbw1 := bstep (balloc (brefl w) _) hb1; have hnb1 := bblock (blast w _ _ rfl) hb1; have n0 := bcellAt (v := .string n.name) hnb1 0 rfl; have n1 := bcellAt (v := .slice B1 n.props.length d1) hnb1 1 rfl; have n2 := bcellAt (v := .slice B2 n.kids.length d2) hnb1 2 rfl; have lb1 := blockLt hnb1; clear t0 t1 t2 t3 t4)
              | (go_at_call 262; refine (hcm _ ((hn.below hbw1))).mono ?_; clear hcm; rintro e w2 ⟨rfl, hb2⟩; have r0 := bkeep hb2 r0; have r1 := bkeep hb2 r1; have hsx := hsx.below hb2; have hbw2 := bstep hbw1 hb2)
              | (go_at_call 263; refine (hway _ hbw2 hx0 hx1 _ _ hsx).mono ?_; clear hway; rintro e w3 ⟨rfl, hb3⟩))
            go_ret
            exact ⟨rfl, LkRes.same hlk hrow (bstep hbw2 hb3)⟩
        · have hfin := hform rfl (.inr (.inl (by simp)))
          clear hform hnone hone
          obtain ⟨m, hm⟩ : ∃ m, m = tl.length := ⟨_, rfl⟩
          subst hfin
          clear hgo0
          go_enter Tryz.func162, Tryz.ntmps162
          go_wp2_with (first
            | (go_at_call 185; refine (hlin _ (by repeat (first | assumption | exact Below.refl _ _ | with_reducible refine bset ?_ (by simp) _ | with_reducible refine balloc ?_ _ | with_reducible refine bdrew ?_ | with_reducible refine bdrewN ?_ _ | with_reducible refine bstep ?_ (by assumption)))).mono ?_; clear hlin; rintro e w1 ⟨v1, rfl, hrow1, hb1⟩; have hs1 := hrow1.sl; obtain ⟨A5, c5, rfl, hc5, hl5, ha5⟩ := id hs1; have hbw1 := bstep (balloc (brefl w) _) hb1; have hnb1 := bblock (blast w _ _ rfl) hb1; have n0 := bcellAt (v := .string n.name) hnb1 0 rfl; have n1 := bcellAt (v := .slice B1 n.props.length d1) hnb1 1 rfl; have n2 := bcellAt (v := .slice B2 n.kids.length d2) hnb1 2 rfl; have lb1 := blockLt hnb1; clear t0 t1 t2 t3 t4)
            | (go_at_call 262; refine (hcm _ ((hn.below hbw1))).mono ?_; clear hcm; rintro e w2 ⟨rfl, hb2⟩; have hbw2 := bstep hbw1 hb2))
          go_ret
          exact ⟨rfl, LkRes.same hlk hrow hbw2⟩
    · have q7 : (k == 7) = false := by rw [beq_eq_false_iff_ne]; exact g7
      rcases ls with _ | ⟨x, _ | ⟨y, tl⟩⟩
      · have hfin := hnone rfl rfl (fun h => g7 h.1)
        clear hform hnone hone hcm
        rw [if_neg g7] at hfin
        by_cases g2 : k = 2
        · subst g2
          clear g7
          subst hfin
          clear hgo0
          go_enter Tryz.func162, Tryz.ntmps162
          go_wp2_with (first
            | (go_at_call 185; refine (hlin _ (by repeat (first | assumption | exact Below.refl _ _ | with_reducible refine bset ?_ (by simp) _ | with_reducible refine balloc ?_ _ | with_reducible refine bdrew ?_ | with_reducible refine bdrewN ?_ _ | with_reducible refine bstep ?_ (by assumption)))).mono ?_; clear hlin; rintro e w1 ⟨v1, rfl, hrow1, hb1⟩; have hs1 := hrow1.sl; obtain ⟨A5, c5, rfl, hc5, hl5, ha5⟩ := id hs1; have hbw1 := bstep (balloc (brefl w) _) hb1; have hnb1 := bblock (blast w _ _ rfl) hb1; have n0 := bcellAt (v := .string n.name) hnb1 0 rfl; have n1 := bcellAt (v := .slice B1 n.props.length d1) hnb1 1 rfl; have n2 := bcellAt (v := .slice B2 n.kids.length d2) hnb1 2 rfl; have lb1 := blockLt hnb1; clear t0 t1 t2 t3 t4))
          go_ret
          exact ⟨rfl, LkRes.same hlk hrow hbw1⟩
        · have q2 : (k == 2) = false := by rw [beq_eq_false_iff_ne]; exact g2
          clear g2 g7
          subst hfin
          clear hgo0
          go_enter Tryz.func162, Tryz.ntmps162
          go_wp2_with (first
            | (go_at_call 185; refine (hlin _ (by repeat (first | assumption | exact Below.refl _ _ | with_reducible refine bset ?_ (by simp) _ | with_reducible refine balloc ?_ _ | with_reducible refine bdrew ?_ | with_reducible refine bdrewN ?_ _ | with_reducible refine bstep ?_ (by assumption)))).mono ?_; clear hlin; rintro e w1 ⟨v1, rfl, hrow1, hb1⟩; have hs1 := hrow1.sl; obtain ⟨A5, c5, rfl, hc5, hl5, ha5⟩ := id hs1; have hbw1 := bstep (balloc (brefl w) _) hb1; have hnb1 := bblock (blast w _ _ rfl) hb1; have n0 := bcellAt (v := .string n.name) hnb1 0 rfl; have n1 := bcellAt (v := .slice B1 n.props.length d1) hnb1 1 rfl; have n2 := bcellAt (v := .slice B2 n.kids.length d2) hnb1 2 rfl; have lb1 := blockLt hnb1; clear t0 t1 t2 t3 t4))
          go_ret
          exact ⟨rfl, LkRes.same hlk hrow hbw1⟩
      · by_cases g2 : k = 2
        · subst g2
          have hfin := hform rfl (.inr (.inr ⟨rfl, by simp⟩))
          clear hform hnone hone hcm g7
          subst hfin
          clear hgo0
          go_enter Tryz.func162, Tryz.ntmps162
          go_wp2_with (first
            | (go_at_call 185; refine (hlin _ (by repeat (first | assumption | exact Below.refl _ _ | with_reducible refine bset ?_ (by simp) _ | with_reducible refine balloc ?_ _ | with_reducible refine bdrew ?_ | with_reducible refine bdrewN ?_ _ | with_reducible refine bstep ?_ (by assumption)))).mono ?_; clear hlin; rintro e w1 ⟨v1, rfl, hrow1, hb1⟩; have hs1 := hrow1.sl; obtain ⟨A5, c5, rfl, hc5, hl5, ha5⟩ := id hs1; have hbw1 := bstep (balloc (brefl w) _) hb1; have hnb1 := bblock (blast w _ _ rfl) hb1; have n0 := bcellAt (v := .string n.name) hnb1 0 rfl; have n1 := bcellAt (v := .slice B1 n.props.length d1) hnb1 1 rfl; have n2 := bcellAt (v := .slice B2 n.kids.length d2) hnb1 2 rfl; have lb1 := blockLt hnb1; clear t0 t1 t2 t3 t4))
          go_ret
          exact ⟨rfl, LkRes.same hlk hrow hbw1⟩
        · have hRx := hone x rfl rfl (fun h => g7 h.1) g2
          have q2 : (k == 2) = false := by rw [beq_eq_false_iff_ne]; exact g2
          clear hform hnone hone hcm g2 g7
          have hway := fun w1 (h : Below w.heap.size w w1) l0 l1 ok1 v h2 => way_walk t hsz x l0 l1 w1 (hw.below h) g s.1 vl ok1 v (hlk.below h) h2
          have hthr := fun w1 (h : Below w.heap.size w w1) l0 l1 ok1 v h2 => through_walk t hsz x l0 l1 w1 (· < g) ok1 _ v (hT.below h) h2
          obtain ⟨q, hqw⟩ : ∃ q, q = wayM t x := ⟨_, rfl⟩
          simp only [← hqw] at hway hRx
          obtain ⟨y, e2, hye⟩ : ∃ y e2, throughM t x = (y, e2) := ⟨_, _, rfl⟩
          simp only [hye] at hthr hRx
          clear hqw hye hgo0
          obtain ⟨x1, x2⟩ := x
          simp only at hway hthr
          by_cases g3 : q = 0
          · subst g3
            rw [if_neg (by simp)] at hRx
            subst hRx
            obtain ⟨Av, cv, rfl, hvf⟩ := hrow.form
            clear hvf
            go_enter Tryz.func162, Tryz.ntmps162
            go_upto_region 15 with (first
              | (go_at_call 185; refine (hlin _ (by repeat (first | assumption | exact Below.refl _ _ | with_reducible refine bset ?_ (by simp) _ | with_reducible refine balloc ?_ _ | with_reducible refine bdrew ?_ | with_reducible refine bdrewN ?_ _ | with_reducible refine bstep ?_ (by assumption)))).mono ?_; clear hlin; rintro e w1 ⟨v1, rfl, hrow1, hb1⟩; have hs1 := hrow1.sl; obtain ⟨A5, c5, rfl, hc5, hl5, ha5⟩ := id hs1; obtain ⟨lb, loff, Ax, cx, rfl, hlob, hllt, r0, r1, hx0, hx1, hsx⟩ := ha5.ln_at (j := 0) rfl; simp only [Nat.zero_mul, Nat.add_zero] at r0 r1; simp only at r0 r1 hx0 hx1 hsx; have hbw1 := bstep (balloc (brefl w) _) hb1; have hnb1 := bblock (blast w _ _ rfl) hb1; have n0 := bcellAt (v := .string n.name) hnb1 0 rfl; have n1 := bcellAt (v := .slice B1 n.props.length d1) hnb1 1 rfl; have n2 := bcellAt (v := .slice B2 n.kids.length d2) hnb1 2 rfl; have lb1 := blockLt hnb1; clear t0 t1 t2 t3 t4)
              | (go_at_call 263; refine (hway _ hbw1 hx0 hx1 _ _ hsx).mono ?_; clear hway; rintro e w3 ⟨rfl, hb3⟩; have hbw3 := bstep hbw1 hb3; have hsx3 := hsx.below hb3; have r0 := bkeep hb3 r0; have r1 := bkeep hb3 r1; have hL3 := bblock hL hbw3; have t0 := bcellAt hL3 0 rfl; have t1 := bcellAt hL3 1 rfl; have t2 := bcellAt hL3 2 rfl; have t3 := bcellAt hL3 3 rfl; have t4 := bcellAt hL3 4 rfl; have lt3 := blockLt hL3; have ltl : lb < w3.heap.size := World.block_lt_of_cell? _ _ r0; have hc6 : (1 : Int) ≤ (c5 : Int) := (by simp at hc5; omega)))
            go_cut [10, 12] (fun a b wx => ∃ (bb : Nat) (At : Option Addr) (ct : Nat), a = .int .i64 e2 ∧ b = .pointer (some ⟨bb, 0, none⟩) ∧ w3.heap.size ≤ bb ∧ wx.heap[bb]? = some (.cells #[.slice At y.1.length ct, .int .u32 y.2] 331 (0, 0)) ∧ Sl tInt wx (w3.heap.size ≤ ·) (.slice At y.1.length ct) y.1 ∧ 0 ≤ y.2 ∧ y.2 < 4294967296 ∧ Below w3.heap.size w3 wx)
            case first =>
              go_region_law (first
                | (go_simp; go_at_call 186; (refine (hthr _ (bstep hbw3 ?_) hx0 hx1 _ _ (hsx3.below ?_)).mono ?_); exact (by repeat (first | assumption | exact Below.refl _ _ | with_reducible refine bset ?_ (by simp) _ | with_reducible refine balloc ?_ _ | with_reducible refine bdrew ?_ | with_reducible refine bdrewN ?_ _ | with_reducible refine bstep ?_ (by assumption))); exact (by repeat (first | assumption | exact Below.refl _ _ | with_reducible refine bset ?_ (by simp) _ | with_reducible refine balloc ?_ _ | with_reducible refine bdrew ?_ | with_reducible refine bdrewN ?_ _ | with_reducible refine bstep ?_ (by assumption))); rintro e w5 ⟨v5, rfl, hs5, hu0, hu1, hb5⟩; obtain ⟨A6, c6, rfl, hA6⟩ := id hs5; clear hA6; (try (have hz : w5.heap[w3.heap.size]? = some (.cells #[.slice none 0 0, .int .u32 0] 331 (0, 0)) := bblock (blast w3.drew _ w3.heap.size rfl) hb5; have z0 := bcellAt (v := .slice none 0 0) hz 0 rfl; have z1 := bcellAt (v := .int .u32 0) hz 1 rfl; have y0 := bfrozenAt hz 0; have y1 := bfrozenAt hz 1; have zl := blockLt hz; have HZ := Lib.hid hz; clear hz))))
              all_goals go_wp2_with fail
              all_goals go_meet
              all_goals first
                | (refine ⟨w5.heap.size, A6, c6, ?_, ?_, ?_, ?_, ?_, ?_, ?_, ?_⟩; (with_reducible rfl); (with_reducible rfl); (have := hb5.size; simp at this; omega); exact blast _ _ _ rfl; exact ((hs5.below (balloc (brefl _) _)).mono fun k h _ => h); assumption; assumption; exact balloc (bstep (bdrew (brefl w3)) hb5) _)
                | (refine ⟨w3.heap.size, A6, c6, ?_, ?_, ?_, ?_, ?_, ?_, ?_, ?_⟩; (with_reducible rfl); (with_reducible rfl); exact Nat.le_refl _; exact bsetAt (bsetAt HZ.out 0 (.slice A6 y.1.length c6)) 1 (.int .u32 y.2); exact ((hs5.move (w1 := (w5.setCell ⟨w3.heap.size, 0, none⟩ _).setCell ⟨w3.heap.size, 1, none⟩ _) fun j h hlt => by have h9 : (w3.alloc (.cells #[.slice none 0 0, .int .u32 0] 331)).drew.heap.size ≤ j := h; simp at h9; rw [Below.heap_setCell _ _ _ _ (by simp; omega), Below.heap_setCell _ _ _ _ (by simp; omega)]).mono fun j h _ => by have h9 : (w3.alloc (.cells #[.slice none 0 0, .int .u32 0] 331)).drew.heap.size ≤ j := h; simp at h9; show w3.heap.size ≤ j; omega); assumption; assumption; exact bset (bset (bstep (bdrew (balloc (brefl w3) _)) hb5) (by simp) _) (by simp) _)
            case rest =>
              obtain ⟨bb, At, ct, rfl, rfl, hbb, hbk, hst, hy0, hy1, hbx⟩ := hcut
              clear t0 t1 t2 t3 t4 r0 r1 hthr hs1
              obtain ⟨wd, hwd⟩ : ∃ wd, wd = wc := ⟨_, rfl⟩
              rw [← hwd] at hbk hst hbx ⊢
              clear hwd
              have hbd := bstep hbw3 hbx
              have hlkd := hlk.below hbd
              have hrowd := hrow.below hbd
              obtain ⟨_, _, _, _, _, _, hLd, _⟩ := id hlkd
              have v6 := bcellAt (v := .slice Av s.2.length cv) hLd 6 rfl
              have ltd := blockLt hLd
              have e0 := bcellAt (v := .slice At y.1.length ct) hbk 0 rfl
              have e1 := bcellAt (v := .int .u32 y.2) hbk 1 rfl
              have ltb := blockLt hbk
              have hpd := hp.below hbd
              have hszd := hbd.size
              have hB3 := hbw3.size
              have HL := Lib.hid hLd
              clear hLd
              go_upto_region 16 with fail
              go_cut [] (fun wx => LkRes t (.slice Av s.2.length cv) B g wd (s.1, s.2 ++ [(place, y)]) wx)
              case first =>
                go_region_law (first
                  | (go_simp; go_at_call 180; (refine (intsClone_walk place (by omega) _ okp _ (hpd.below ?_)).mono ?_); exact (by repeat (first | assumption | exact Below.refl _ _ | with_reducible refine bset ?_ (by simp) _ | with_reducible refine balloc ?_ _ | with_reducible refine bdrew ?_ | with_reducible refine bdrewN ?_ _ | with_reducible refine bstep ?_ (by assumption))); rintro e w6 ⟨u6, rfl, hr6, hb6⟩; have hs6 := hr6.sl; obtain ⟨A8, c8, rfl, hA8⟩ := id hs6; clear hA8; have hB6 : Below wd.heap.size wd w6 := bstep (by repeat (first | assumption | exact Below.refl _ _ | with_reducible refine bset ?_ (by simp) _ | with_reducible refine balloc ?_ _ | with_reducible refine bdrew ?_ | with_reducible refine bdrewN ?_ _ | with_reducible refine bstep ?_ (by assumption))) hb6; have v7 := bkeep hB6 v6; have e2' := bkeep hB6 e0; have e3' := bkeep hB6 e1; have lt7 := Nat.lt_of_lt_of_le ltd hB6.size; have lt8 := Nat.lt_of_lt_of_le ltb hB6.size; have hz6 := hB6.size)
                  | (refine step_row1 (by rfl) elWl _ _ (by rfl) (hrowd.below (bstep hB6 ?_)) (by rfl) (by rfl) (blast _ _ _ (by simp)) (y := (place, y)) (rep_wl hy0 hy1 ((hs6.below ?_).mono ?_) ((hst.below (bstep hB6 ?_)).mono ?_)) (by omega) (by simp; omega) ?_; exact (by repeat (first | assumption | exact Below.refl _ _ | with_reducible refine bset ?_ (by simp) _ | with_reducible refine balloc ?_ _ | with_reducible refine bdrew ?_ | with_reducible refine bdrewN ?_ _ | with_reducible refine bstep ?_ (by assumption))); exact (by repeat (first | assumption | exact Below.refl _ _ | with_reducible refine bset ?_ (by simp) _ | with_reducible refine balloc ?_ _ | with_reducible refine bdrew ?_ | with_reducible refine bdrewN ?_ _ | with_reducible refine bstep ?_ (by assumption))); (intro j h hlt; have h9 : wd.heap.size ≤ j := h; exact ⟨by omega, fun e5 => by have := (hrowd.lt j e5.symm).2; omega⟩); exact (by repeat (first | assumption | exact Below.refl _ _ | with_reducible refine bset ?_ (by simp) _ | with_reducible refine balloc ?_ _ | with_reducible refine bdrew ?_ | with_reducible refine bdrewN ?_ _ | with_reducible refine bstep ?_ (by assumption))); (intro j h hlt; have h9 : w3.heap.size ≤ j := h; exact ⟨by omega, fun e5 => by have := (hrow.lt j e5.symm).2; omega⟩); intro g9 cap w9 hrow9 hg9 hat9 hlt9; have hlk9 := (hlkd.below (bstep hB6 (balloc (brefl _) _))).grown hg9 (fun j hj => by have := (hrow.lt j hj).1; omega); obtain ⟨_, _, _, _, _, _, hL9, _⟩ := id hlk9; have v9 := bcellAt (v := .slice Av s.2.length cv) hL9 6 rfl; have y9 := bfrozenAt hL9 6; have l9 := blockLt hL9; clear hL9))
                all_goals go_wp2_with fail
                all_goals go_meet
                all_goals exact LkRes.app (bstep hB6 (by repeat (first | assumption | exact Below.refl _ _ | with_reducible refine bset ?_ (by simp) _ | with_reducible refine balloc ?_ _ | with_reducible refine bdrew ?_ | with_reducible refine bdrewN ?_ _ | with_reducible refine bstep ?_ (by assumption)))) hg9 hlk9 hrow9 hat9 hgB
              case rest =>
                go_wp2_with fail
                go_ret
                exact ⟨rfl, LkRes.lift hbd hcut⟩
          · rw [if_pos g3] at hRx
            have q3 : (q != 0) = true := by rw [bne_iff_ne]; exact g3
            subst hRx
            clear g3 hthr
            go_enter Tryz.func162, Tryz.ntmps162
            go_wp2_with (first
              | (go_at_call 185; refine (hlin _ (by repeat (first | assumption | exact Below.refl _ _ | with_reducible refine bset ?_ (by simp) _ | with_reducible refine balloc ?_ _ | with_reducible refine bdrew ?_ | with_reducible refine bdrewN ?_ _ | with_reducible refine bstep ?_ (by assumption)))).mono ?_; clear hlin; rintro e w1 ⟨v1, rfl, hrow1, hb1⟩; have hs1 := hrow1.sl; obtain ⟨A5, c5, rfl, hc5, hl5, ha5⟩ := id hs1; obtain ⟨lb, loff, Ax, cx, rfl, hlob, hllt, r0, r1, hx0, hx1, hsx⟩ := ha5.ln_at (j := 0) rfl; simp only [Nat.zero_mul, Nat.add_zero] at r0 r1; simp only at r0 r1 hx0 hx1 hsx; have hbw1 := bstep (balloc (brefl w) _) hb1; have hnb1 := bblock (blast w _ _ rfl) hb1; have n0 := bcellAt (v := .string n.name) hnb1 0 rfl; have n1 := bcellAt (v := .slice B1 n.props.length d1) hnb1 1 rfl; have n2 := bcellAt (v := .slice B2 n.kids.length d2) hnb1 2 rfl; have lb1 := blockLt hnb1; clear t0 t1 t2 t3 t4)
              | (go_at_call 263; refine (hway _ hbw1 hx0 hx1 _ _ hsx).mono ?_; clear hway; rintro e w3 ⟨rfl, hb3⟩))
            go_ret
            exact ⟨rfl, LkRes.same hlk hrow (bstep hbw1 hb3)⟩
      · have hfin := hform rfl (.inr (.inl (by simp)))
        clear hform hnone hone hcm g7
        subst hfin
        clear hgo0
        go_enter Tryz.func162, Tryz.ntmps162
        go_wp2_with (first
          | (go_at_call 185; refine (hlin _ (by repeat (first | assumption | exact Below.refl _ _ | with_reducible refine bset ?_ (by simp) _ | with_reducible refine balloc ?_ _ | with_reducible refine bdrew ?_ | with_reducible refine bdrewN ?_ _ | with_reducible refine bstep ?_ (by assumption)))).mono ?_; clear hlin; rintro e w1 ⟨v1, rfl, hrow1, hb1⟩; have hs1 := hrow1.sl; obtain ⟨A5, c5, rfl, hc5, hl5, ha5⟩ := id hs1; have hbw1 := bstep (balloc (brefl w) _) hb1; have hnb1 := bblock (blast w _ _ rfl) hb1; have n0 := bcellAt (v := .string n.name) hnb1 0 rfl; have n1 := bcellAt (v := .slice B1 n.props.length d1) hnb1 1 rfl; have n2 := bcellAt (v := .slice B2 n.kids.length d2) hnb1 2 rfl; have lb1 := blockLt hnb1; clear t0 t1 t2 t3 t4))
        go_ret
        exact ⟨rfl, LkRes.same hlk hrow hbw1⟩
  · have hfin := herr g1
    have q2 : (e1 != 0) = true := by rw [bne_iff_ne]; exact g1
    clear herr hform hnone hone hcm g1
    subst hfin
    clear hgo0
    go_enter Tryz.func162, Tryz.ntmps162
    go_wp2_with (first
      | (go_at_call 185; refine (hlin _ (by repeat (first | assumption | exact Below.refl _ _ | with_reducible refine bset ?_ (by simp) _ | with_reducible refine balloc ?_ _ | with_reducible refine bdrew ?_ | with_reducible refine bdrewN ?_ _ | with_reducible refine bstep ?_ (by assumption)))).mono ?_; clear hlin; rintro e w1 ⟨v1, rfl, hrow1, hb1⟩; have hs1 := hrow1.sl; obtain ⟨A5, c5, rfl, hc5, hl5, ha5⟩ := id hs1; have hbw1 := bstep (balloc (brefl w) _) hb1; have hnb1 := bblock (blast w _ _ rfl) hb1; have n0 := bcellAt (v := .string n.name) hnb1 0 rfl; have n1 := bcellAt (v := .slice B1 n.props.length d1) hnb1 1 rfl; have n2 := bcellAt (v := .slice B2 n.kids.length d2) hnb1 2 rfl; have lb1 := blockLt hnb1; clear t0 t1 t2 t3 t4))
    go_ret
    exact ⟨rfl, LkRes.same hlk hrow hbw1⟩
end Go.Proofs.YtdfknlhfdbbogaaGreatDoor
