/-
  xlate.Up: an address right below a node, seen from the root. No condition.
-/
import Derived.Test.YtdfknlhfdbbogaaGreatDoorStep
namespace Go.Proofs.YtdfknlhfdbbogaaGreatDoor
open Go.RowKit
set_option linter.unusedSimpArgs false
set_option linter.unusedVariables false
/-- What the box of a tree holds. -/
theorem TrV.form {w : World} {ok : Nat → Prop} {v : Value} {t : Tr} (h : TrV w ok v t) : ∃ A1 c1 A2 c2 A3 c3, v = .agg #[.int .u32 t.boot, .slice A1 t.res.length c1, .string t.root.name, .slice A2 t.root.props.length c2, .slice A3 t.root.kids.length c3] ∧ t.res.length ≤ 9223372036854775807 := by
  obtain ⟨vr, vp, vk, rfl, h0, h00, ⟨A1, c1, rfl, _, hl, _⟩, ⟨A2, c2, rfl, _⟩, A3, c3, rfl, _⟩ := h
  exact ⟨A1, c1, A2, c2, A3, c3, rfl, hl⟩
theorem NdV.set {w : World} {ok : Nat → Prop} {v : Value} {n : Nd} (h : NdV w ok v n) {p : Addr} (hp : ∀ k, ok k → k < w.heap.size → k ≠ p.block) (u : Value) : NdV (w.setCell p u) ok v n :=
  h.move fun k hk hlt => Below.heap_setCell _ _ _ _ (hp k hk hlt)
theorem NdV.set3 {w : World} {ok : Nat → Prop} {v : Value} {n : Nd} {g : Nat} (h : NdV w ok v n) (hp : ∀ k, ok k → k < w.heap.size → k ≠ g) (u0 u1 u2 : Value) : NdV (((w.setCell ⟨g, 0, none⟩ u0).setCell ⟨g, 1, none⟩ u1).setCell ⟨g, 2, none⟩ u2) ok v n :=
  ((h.set (p := ⟨g, 0, none⟩) hp u0).set (p := ⟨g, 1, none⟩) (fun k hk hlt => hp k hk (by simpa [World.setCell] using hlt)) u1).set (p := ⟨g, 2, none⟩) (fun k hk hlt => hp k hk (by simpa [World.setCell] using hlt)) u2
theorem bset3 {w W : World} (h : Below w.heap.size w W) {g : Nat} (hg : w.heap.size ≤ g) (u0 u1 u2 : Value) : Below w.heap.size w (((W.setCell ⟨g, 0, none⟩ u0).setCell ⟨g, 1, none⟩ u1).setCell ⟨g, 2, none⟩ u2) := bset (bset (bset h (p := ⟨g, 0, none⟩) hg u0) (p := ⟨g, 1, none⟩) hg u1) (p := ⟨g, 2, none⟩) hg u2
theorem bset3At {w : World} {g : Nat} {a b c : Value} {ty : TypeId} (h : w.heap[g]? = some (.cells #[a, b, c] ty (0, 0))) (u0 u1 u2 : Value) : (((w.setCell ⟨g, 0, none⟩ u0).setCell ⟨g, 1, none⟩ u1).setCell ⟨g, 2, none⟩ u2).heap[g]? = some (.cells #[u0, u1, u2] ty (0, 0)) := bsetAt (bsetAt (bsetAt h 0 u0) 1 u1) 2 u2
theorem bset3Far {w : World} {g k : Nat} {o : Obj} (h : w.heap[k]? = some o) (hk : k ≠ g) (u0 u1 u2 : Value) : (((w.setCell ⟨g, 0, none⟩ u0).setCell ⟨g, 1, none⟩ u1).setCell ⟨g, 2, none⟩ u2).heap[k]? = some o := bsetFar (bsetFar (bsetFar h (p := ⟨g, 0, none⟩) hk u0) (p := ⟨g, 1, none⟩) hk u1) (p := ⟨g, 2, none⟩) hk u2
theorem upK_stop {t : Tr} {place : List Int} {z y : Int} {j : Nat} (h : (stepM (getN t (place.take j)).1 (getN t (place.take (j + 1))).1 y z).2 ≠ 0) : upK t place z (j + 1) y = (0, (stepM (getN t (place.take j)).1 (getN t (place.take (j + 1))).1 y z).2) := by rw [upK, if_pos h]
theorem upK_go {t : Tr} {place : List Int} {z y : Int} {j : Nat} (h : (stepM (getN t (place.take j)).1 (getN t (place.take (j + 1))).1 y z).2 = 0) : upK t place z (j + 1) y = upK t place z j (stepM (getN t (place.take j)).1 (getN t (place.take (j + 1))).1 y z).1 := by rw [upK, if_neg (by simp [h])]
set_option maxRecDepth 100000 in
set_option maxHeartbeats 2000000 in
theorem up_walk (t : Tr) (hsz : t.root.size ≤ 1073741824) (place : List Int) (a z : Int) (ha : U64 a) (hz : U64 z) (w : World) (ok okp : Nat → Prop) (v pv : Value) (hv : TrV w ok v t) (hp : Sl tInt w okp pv place) :
    Calls Tryz.prog 291 #[v, pv, .int .u64 a, .int .u64 z] w fun e w' => e = .returned (.tuple #[.int .u64 (upM t place a z).1, .int .i64 (upM t place a z).2]) ∧ U64 (upM t place a z).1 ∧ Below w.heap.size w w' := by
  have hget := fun w1 (h : Below w.heap.size w w1) => get_walk t hsz place w1 (fun k => ok k ∨ okp k) _ _ ((hv.mono fun k h _ => Or.inl h).below h) ((hp.mono fun k h _ => Or.inr h).below h)
  have hget2 := fun w1 (h : Below w.heap.size w w1) pl pv2 (hp2 : Sl tInt w1 (fun k => ok k ∨ okp k) pv2 pl) => get_walk t hsz pl w1 (fun k => ok k ∨ okp k) _ _ ((hv.mono fun k h _ => Or.inl h).below h) hp2
  have hgle := fun pl => getN_le t pl
  obtain ⟨A1, c1, A2, c2, A3, c3, rfl, hrl⟩ := hv.form
  obtain ⟨A4, c4, rfl, hc4, hl4, ha4⟩ := hp
  have hd : upM t place a z = if (getN t place).2 ≠ 0 then (0, 8) else upK t place z place.length a := rfl
  rw [hd]
  clear hd
  obtain ⟨m0, e0, hg0⟩ : ∃ m0 e0, getN t place = (m0, e0) := ⟨_, _, rfl⟩
  have hm0 := hgle place
  rw [hg0] at hget hm0 ⊢
  simp only at hget hm0 ⊢
  by_cases g1 : e0 = 0
  · subst g1
    rw [if_neg (by simp)]
    have hplen : place.length ≤ 16 := by
      unfold getN at hg0
      split at hg0
      · injection hg0 with h1 h2; cases h2
      · omega
    have hm0e : m0 = (getN t (place.take place.length)).1 := by rw [List.take_length, hg0]
    obtain ⟨R, hR⟩ : ∃ R, R = upK t place z place.length a := ⟨_, rfl⟩
    rw [← hR]
    have HR := Lib.hid hR
    have HM := Lib.hid hm0e
    clear hR hg0 hm0e
    go_enter Tryz.func291, Tryz.ntmps291
    go_wp2_with (first
      | (go_at_call 155; refine (hget _ (by repeat (first | assumption | exact Below.refl _ _ | with_reducible refine bset ?_ (by simp) _ | with_reducible refine balloc ?_ _ | with_reducible refine bdrew ?_ | with_reducible refine bdrewN ?_ _ | with_reducible refine bstep ?_ (by assumption)))).mono ?_; clear hget; rintro e w1 ⟨v1, rfl, hv1, hb1⟩; obtain ⟨A5, c5, B5, d5, rfl, hA5⟩ := hv1.form; clear hA5; have hbw := bstep (balloc (brefl w) _) hb1; have hbox := bblock (blast w _ _ rfl) hb1))
    have hww : w.heap.size < w1.heap.size := by have := hb1.size; simp at this; omega
    have hmN : NdV w1 (· ≠ w1.heap.size) (.agg #[.string m0.name, .slice A5 m0.props.length c5, .slice B5 m0.kids.length d5]) m0 := hv1.mono fun k h h2 => by omega
    go_loopw [2, 12] (fun x i wr => ∃ (k : Nat) (y : Int) (m : Nd) (Am : Option Addr) (cm : Nat) (Bm : Option Addr) (dm : Nat), k ≤ place.length ∧ i = .int .i64 k ∧ x = .int .u64 y ∧ U64 y ∧ R = upK t place z k y ∧ m = (getN t (place.take k)).1 ∧
      NdV wr (· ≠ w1.heap.size) (.agg #[.string m.name, .slice Am m.props.length cm, .slice Bm m.kids.length dm]) m ∧
      wr.heap[w1.heap.size]? = some (.cells #[.string m.name, .slice Am m.props.length cm, .slice Bm m.kids.length dm] 32 (0, 0)) ∧
      wr.heap[w.heap.size]? = some (.cells #[.int .u32 t.boot, .slice A1 t.res.length c1, .string t.root.name, .slice A2 t.root.props.length c2, .slice A3 t.root.kids.length c3] 34 (0, 0)) ∧ Below w.heap.size w wr) (fun _ i _ => (intOf i).toNat)
    case atStart => exact ⟨place.length, a, m0, A5, c5, B5, d5, by omega, rfl, rfl, ha, HR.out, HM.out, hmN.below (by repeat (first | assumption | exact Below.refl _ _ | with_reducible refine bset ?_ (by simp) _ | with_reducible refine balloc ?_ _ | with_reducible refine bdrew ?_ | with_reducible refine bdrewN ?_ _ | with_reducible refine bstep ?_ (by assumption))), blast _ _ _ rfl, bblock hbox (by repeat (first | assumption | exact Below.refl _ _ | with_reducible refine bset ?_ (by simp) _ | with_reducible refine balloc ?_ _ | with_reducible refine bdrew ?_ | with_reducible refine bdrewN ?_ _ | with_reducible refine bstep ?_ (by assumption))), (by repeat (first | assumption | exact Below.refl _ _ | with_reducible refine bset ?_ (by simp) _ | with_reducible refine balloc ?_ _ | with_reducible refine bdrew ?_ | with_reducible refine bdrewN ?_ _ | with_reducible refine bstep ?_ (by assumption)))⟩
    case round =>
      obtain ⟨k, y, m, Am, cm, Bm, dm, hk, rfl, rfl, hy, hRk, hme, hmv, hbm, hbt, hb⟩ := hrel
      have HRk := Lib.hid hRk
      have HMe := Lib.hid hme
      have hms : m.size ≤ 1073741824 := by rw [hme]; have := hgle (place.take k); omega
      clear hRk hme hmN hbox hbw hb1
      rcases k with _ | j
      · have hfin : R = (y, 0) := HRk.out
        subst hfin
        go_wp2_with fail
        go_ret2
        first | exact ⟨rfl, hy, hb⟩ | exact ⟨rfl, hb⟩
      · have hj : j ≤ place.length := by omega
        have hpl := Sl.cut0 (T := tInt) rfl ha4 hc4 hl4 j hj
        obtain ⟨P, Pe, hP⟩ : ∃ P Pe, getN t (place.take j) = (P, Pe) := ⟨_, _, rfl⟩
        have hg2 := fun w2 (h : Below w.heap.size w w2) => hget2 w2 h (place.take j) _ ((hpl.mono fun k h _ => Or.inr h).below h)
        rw [hP] at hg2
        simp only at hg2
        have HP := Lib.hid hP
        clear hget2 hP
        have e1 : IntKind.i64.wrap (j : Int) = (j : Int) := by rw [IntKind.wrap_i64]; omega
        have e3 : (0 : Int) ≤ (j : Int) := by omega
        have e4 : (j : Int) ≤ (c4 : Int) := by omega
        have t0 := bcellAt hbt 0 rfl
        have t1 := bcellAt hbt 1 rfl
        have t2 := bcellAt hbt 2 rfl
        have t3 := bcellAt hbt 3 rfl
        have t4 := bcellAt hbt 4 rfl
        have lt1 := blockLt hbt
        have lt2 := blockLt hbm
        go_upto_region 7 with fail
        go_cut [13] (fun c wx => ∃ (g : Nat) (Ap : Option Addr) (cp : Nat) (Bp : Option Addr) (dp : Nat), c = .pointer (some ⟨g, 0, none⟩) ∧ wr.heap.size ≤ g ∧ wx.heap[g]? = some (.cells #[.string P.name, .slice Ap P.props.length cp, .slice Bp P.kids.length dp] 32 (0, 0)) ∧
          NdV wx (wr.heap.size ≤ ·) (.agg #[.string P.name, .slice Ap P.props.length cp, .slice Bp P.kids.length dp]) P ∧ Below wr.heap.size wr wx)
        case first =>
          go_region_law (first
                | (go_simp; go_at_call 155; (refine (hg2 _ ?_).mono ?_); exact (by repeat (first | assumption | exact Below.refl _ _ | with_reducible refine bset ?_ (by simp) _ | with_reducible refine balloc ?_ _ | with_reducible refine bdrew ?_ | with_reducible refine bdrewN ?_ _ | with_reducible refine bstep ?_ (by assumption))); rintro e w5 ⟨v5, rfl, hv5, hb5⟩; obtain ⟨A6, c6, B6, d6, rfl, hA6⟩ := hv5.form; clear hA6; (try (have hz : w5.heap[wr.heap.size]? = some (.cells #[.string ⟨#[]⟩, .slice none 0 0, .slice none 0 0] 32 (0, 0)) := bblock (blast wr.drew _ wr.heap.size rfl) hb5; have z0 := bcellAt hz 0 rfl; have z1 := bcellAt hz 1 rfl; have z2 := bcellAt hz 2 rfl; have y0 := bfrozenAt hz 0; have y1 := bfrozenAt hz 1; have y2 := bfrozenAt hz 2; have zl := blockLt hz; have HZ := Lib.hid hz; clear hz))))
          all_goals go_wp2_with fail
          all_goals go_meet
          all_goals first
            | (refine ⟨w5.heap.size, A6, c6, B6, d6, ?_, ?_, ?_, ?_, ?_⟩; (with_reducible rfl); (have := hb5.size; simp at this; omega); exact blast _ _ _ rfl; exact (hv5.below (balloc (brefl _) _)).mono fun k h _ => h; exact balloc (bstep (bdrew (brefl wr)) hb5) _)
            | (refine ⟨wr.heap.size, A6, c6, B6, d6, ?_, ?_, ?_, ?_, ?_⟩; (with_reducible rfl); exact Nat.le_refl _; exact bset3At HZ.out _ _ _; exact ((hv5.set3 (fun k h _ => by simp at h; omega) _ _ _).mono fun k h _ => by simp at h; omega); exact bset3 (bstep (balloc (bdrew (brefl wr)) _) hb5) (Nat.le_refl _) _ _ _)
        case rest =>
          obtain ⟨g, Ap, cp, Bp, dp, rfl, hgle2, hbg, hPv, hbx⟩ := hcut
          have hPs : P.size ≤ 1073741824 := by have := hgle (place.take j); rw [HP.out] at this; simp only at this; omega
          have hst := fun w2 (h : Below wc.heap.size wc w2) => step_walk P m hPs hms y z hy hz w2 (wr.heap.size ≤ ·) (· ≠ w1.heap.size) _ _ (hPv.below h) ((hmv.below hbx).below h)
          have hPe : P = (getN t (place.take j)).1 := by rw [HP.out]
          have hstop := upK_stop (t := t) (place := place) (z := z) (y := y) (j := j)
          have hgo := upK_go (t := t) (place := place) (z := z) (y := y) (j := j)
          rw [← hPe, ← HMe.out, ← HRk.out] at hstop hgo
          obtain ⟨y1, e1', hS⟩ : ∃ y1 e1', stepM P m y z = (y1, e1') := ⟨_, _, rfl⟩
          rw [hS] at hst hstop hgo
          simp only at hst hstop hgo
          have g0 := bcellAt hbg 0 rfl
          have g1' := bcellAt hbg 1 rfl
          have g2' := bcellAt hbg 2 rfl
          have hbm2 := bblock hbm hbx
          have n0 := bcellAt hbm2 0 rfl
          have n1 := bcellAt hbm2 1 rfl
          have n2 := bcellAt hbm2 2 rfl
          clear hS hPe hg2 t0 t1 t2 t3 t4
          by_cases q1 : e1' = 0
          · subst q1
            have HN := Lib.hid (hgo rfl)
            clear hstop hgo
            have lg := blockLt hbg
            have hbt2 := bblock hbt hbx
            go_wp2_with (first
              | (go_at_call 322; refine (hst _ (by repeat (first | assumption | exact Below.refl _ _ | with_reducible refine bset ?_ (by simp) _ | with_reducible refine balloc ?_ _ | with_reducible refine bdrew ?_ | with_reducible refine bdrewN ?_ _ | with_reducible refine bstep ?_ (by assumption)))).mono ?_; clear hst; rintro e w6 ⟨rfl, hu6, hb6⟩; have hbg3 := bblock hbg hb6; have k0 := bcellAt hbg3 0 rfl; have k1 := bcellAt hbg3 1 rfl; have k2 := bcellAt hbg3 2 rfl; have hbm3 := bblock hbm2 hb6; have m0' := bcellAt hbm3 0 rfl; have m1' := bcellAt hbm3 1 rfl; have m2' := bcellAt hbm3 2 rfl; have z0 := bfrozenAt hbm3 0; have z1 := bfrozenAt hbm3 1; have z2 := bfrozenAt hbm3 2; have hl6 := blockLt hbm3; have hbt3 := bblock hbt2 hb6; have HB := Lib.hid hbm3; have HT := Lib.hid hbt3; clear hbm3 hbg3 hbt3))
            go_roundw
            case rel => exact ⟨j, y1, P, Ap, cp, Bp, dp, hj, by go_num, rfl, hu6, HN.out, by rw [HP.out], ((hPv.below hb6).set3 (fun k h _ => by have h2 : wr.heap.size ≤ k := h; omega) _ _ _).mono (fun k h _ => by have h2 : wr.heap.size ≤ k := h; omega), bset3At HB.out _ _ _, bset3Far HT.out (by omega) _ _ _, bset3 (bstep (bstep hb hbx) hb6) (by omega) _ _ _⟩
            case measure => simp [intOf]
          · have hfin := hstop q1
            have q2 : (e1' != 0) = true := by rw [bne_iff_ne]; exact q1
            subst hfin
            clear hstop hgo q1
            go_wp2_with (first
              | (go_at_call 322; refine (hst _ (by repeat (first | assumption | exact Below.refl _ _ | with_reducible refine bset ?_ (by simp) _ | with_reducible refine balloc ?_ _ | with_reducible refine bdrew ?_ | with_reducible refine bdrewN ?_ _ | with_reducible refine bstep ?_ (by assumption)))).mono ?_; clear hst; rintro e w6 ⟨rfl, hu6, hb6⟩))
            go_ret2
            first | exact ⟨rfl, ⟨by decide, by decide⟩, (by repeat (first | assumption | exact Below.refl _ _ | with_reducible refine bset ?_ (by simp) _ | with_reducible refine balloc ?_ _ | with_reducible refine bdrew ?_ | with_reducible refine bdrewN ?_ _ | with_reducible refine bstep ?_ (by assumption)))⟩ | exact ⟨rfl, bstep (bstep hb hbx) hb6⟩
  · rw [if_pos g1]
    have g3 : (e0 != 0) = true := by rw [bne_iff_ne]; exact g1
    go_enter Tryz.func291, Tryz.ntmps291
    go_wp2_with (first
      | (go_at_call 155; refine (hget _ (by repeat (first | assumption | exact Below.refl _ _ | with_reducible refine bset ?_ (by simp) _ | with_reducible refine balloc ?_ _ | with_reducible refine bdrew ?_ | with_reducible refine bdrewN ?_ _ | with_reducible refine bstep ?_ (by assumption)))).mono ?_; clear hget; rintro e w1 ⟨v1, rfl, hv1, hb1⟩; obtain ⟨A5, c5, B5, d5, rfl, hA5⟩ := hv1.form))
    go_ret2
    exact ⟨rfl, ⟨by decide, by decide⟩, (by repeat (first | assumption | exact Below.refl _ _ | with_reducible refine bset ?_ (by simp) _ | with_reducible refine balloc ?_ _ | with_reducible refine bdrew ?_ | with_reducible refine bdrewN ?_ _ | with_reducible refine bstep ?_ (by assumption)))⟩
end Go.Proofs.YtdfknlhfdbbogaaGreatDoor
