/-
  irq: Controller, Parent. No condition.
-/
import Derived.Test.YtdfknlhfdbbogaaGreatDoorPath
namespace Go.Proofs.YtdfknlhfdbbogaaGreatDoor
open Go.RowKit
set_option linter.unusedSimpArgs false
set_option linter.unusedVariables false
theorem controller_walk (n : Nd) (hsz : n.size ≤ 1073741824) (w : World) (ok : Nat → Prop) (v : Value) (hv : NdV w ok v n) :
    Calls Tryz.prog 262 #[v] w fun e w' => e = .returned (.bool (controllerM n)) ∧ Below w.heap.size w w' := by
  have hfind := fun w1 (h : Below w.heap.size w w1) => find_walk n hsz icS w1 ok _ (hv.below h)
  have hone := fun w1 (h : Below w.heap.size w w1) => one_walk n hsz icellsS w1 ok _ (hv.below h)
  have e1 : icS = (⟨#[105, 110, 116, 101, 114, 114, 117, 112, 116, 45, 99, 111, 110, 116, 114, 111, 108, 108, 101, 114]⟩ : ByteArray) := rfl
  have e2 : icellsS = (⟨#[35, 105, 110, 116, 101, 114, 114, 117, 112, 116, 45, 99, 101, 108, 108, 115]⟩ : ByteArray) := rfl
  have hd : controllerM n = ((n.find icS).isSome && (oneN n icellsS).2.1 && decide ((oneN n icellsS).2.2 = 0) && decide ((oneN n icellsS).1 = 1)) := rfl
  rw [hd]
  obtain ⟨A2, c2, A, c, rfl, hc2, hl2, ha2, hc, hl, ha⟩ := hv.form
  obtain ⟨p, hp⟩ : ∃ p, p = (n.find icS).isSome := ⟨_, rfl⟩
  obtain ⟨x, f, e0, ho⟩ : ∃ x f e0, oneN n icellsS = (x, f, e0) := ⟨_, _, _, rfl⟩
  simp only [← hp] at hfind ⊢
  simp only [ho] at hone ⊢
  rw [e1] at hfind
  rw [e2] at hone
  clear hd hp ho e1 e2
  obtain ⟨y, hy⟩ : ∃ y : Int, (x : Int) = y := ⟨_, rfl⟩
  have hx1 : decide (x = 1) = decide (y = 1) := by rw [Bool.eq_iff_iff]; simp; omega
  simp only [hy] at hone
  rw [hx1]
  clear hx1 hy
  cases p <;> cases f
  all_goals
    go_enter Tryz.func262, Tryz.ntmps262
    go_wp2_with (first
      | (go_at_call 198; refine (hfind _ (by repeat (first | assumption | exact Below.refl _ _ | with_reducible refine bset ?_ (by simp) _ | with_reducible refine balloc ?_ _ | with_reducible refine bdrew ?_ | with_reducible refine bdrewN ?_ _ | with_reducible refine bstep ?_ (by assumption)))).mono ?_; clear hfind; rintro e w1 ⟨v1, rfl, hr1, hb1⟩; have hbox := bblock (blast w _ _ rfl) hb1; have d0 := bcellAt (v := .string n.name) hbox 0 rfl; have d1 := bcellAt hbox 1 rfl; have d2 := bcellAt hbox 2 rfl; have hbw := bstep (balloc (brefl w) _) hb1)
      | (go_at_call 258; refine (hone _ (by repeat (first | assumption | exact Below.refl _ _ | with_reducible refine bset ?_ (by simp) _ | with_reducible refine balloc ?_ _ | with_reducible refine bdrew ?_ | with_reducible refine bdrewN ?_ _ | with_reducible refine bstep ?_ (by assumption)))).mono ?_; clear hone; rintro e w2 ⟨rfl, hb2⟩))
  all_goals (go_ret; refine ⟨?_, (by repeat (first | assumption | exact Below.refl _ _ | with_reducible refine bset ?_ (by simp) _ | with_reducible refine balloc ?_ _ | with_reducible refine bdrew ?_ | with_reducible refine bdrewN ?_ _ | with_reducible refine bstep ?_ (by assumption)))⟩; show Ending.returned (Value.bool _) = .returned (.bool _); congr 2; try rw [Bool.eq_iff_iff]; try simp [*]; try omega)
def parentK2 (t : Tr) (place : List Int) : Nat → List Int × Int
  | 0 => ([], 8)
  | k + 1 => if (oneN (getN t (place.take k)).1 iparentS).2.2 ≠ 0 then ([], (oneN (getN t (place.take k)).1 iparentS).2.2) else if (oneN (getN t (place.take k)).1 iparentS).2.1 = true then findH t (oneN (getN t (place.take k)).1 iparentS).1 else parentK2 t place k
theorem getN_root (t : Tr) : getN t [] = (t.root, 0) := by unfold getN; rw [if_neg (by simp)]; rfl
theorem parentK_eq (t : Tr) (place : List Int) : ∀ k, parentK t place k = parentK2 t place (k + 1) := by
  intro k
  induction k with
  | zero => rw [parentK, parentK2, List.take_zero, getN_root]; rfl
  | succ k ih => rw [parentK, parentK2, ih]
theorem parentK2_err {t : Tr} {place : List Int} {j : Nat} {P : Nd} (hP : P = (getN t (place.take j)).1) (h : (oneN P iparentS).2.2 ≠ 0) : parentK2 t place (j + 1) = ([], (oneN P iparentS).2.2) := by subst hP; rw [parentK2, if_pos h]
theorem parentK2_hit {t : Tr} {place : List Int} {j : Nat} {P : Nd} (hP : P = (getN t (place.take j)).1) (h : (oneN P iparentS).2.2 = 0) (h2 : (oneN P iparentS).2.1 = true) : parentK2 t place (j + 1) = findH t (oneN P iparentS).1 := by subst hP; rw [parentK2, if_neg (by simp [h]), if_pos h2]
theorem parentK2_go {t : Tr} {place : List Int} {j : Nat} {P : Nd} (hP : P = (getN t (place.take j)).1) (h : (oneN P iparentS).2.2 = 0) (h2 : (oneN P iparentS).2.1 = false) : parentK2 t place (j + 1) = parentK2 t place j := by subst hP; rw [parentK2, if_neg (by simp [h]), if_neg (by simp [h2])]
set_option maxRecDepth 100000 in
set_option maxHeartbeats 2000000 in
theorem parent_walk (t : Tr) (hsz : t.root.size ≤ 536870912) (place : List Int) (w : World) (ok okp : Nat → Prop) (v pv : Value) (hv : TrV w ok v t) (hp : Sl tInt w okp pv place) :
    Calls Tryz.prog 281 #[v, pv] w fun e w' => ∃ v', e = .returned (.tuple #[v', .int .i64 (parentM t place).2]) ∧ Sl tInt w' (w.heap.size ≤ ·) v' (parentM t place).1 ∧ Below w.heap.size w w' := by
  have hget2 := fun w1 (h : Below w.heap.size w w1) pl pv2 (hp2 : Sl tInt w1 (fun k => ok k ∨ okp k) pv2 pl) => get_walk t (by omega) pl w1 (fun k => ok k ∨ okp k) _ _ ((hv.mono fun k h _ => Or.inl h).below h) hp2
  have hget := fun w1 (h : Below w.heap.size w w1) => hget2 w1 h place _ ((hp.mono fun k h _ => Or.inr h).below h)
  have hfind := fun w1 (h : Below w.heap.size w w1) x => findH_walk t hsz x w1 ok _ (hv.below h)
  have hgle := fun pl => getN_le t pl
  have e1 : iparentS = (⟨#[105, 110, 116, 101, 114, 114, 117, 112, 116, 45, 112, 97, 114, 101, 110, 116]⟩ : ByteArray) := rfl
  obtain ⟨A1, c1, A2, c2, A3, c3, rfl, hrl⟩ := hv.form
  obtain ⟨A4, c4, rfl, hc4, hl4, ha4⟩ := hp
  have hd : parentM t place = if (getN t place).2 ≠ 0 then ([], (getN t place).2) else parentK2 t place (place.length + 1) := by rw [← parentK_eq]; rfl
  rw [hd]
  clear hd
  obtain ⟨m0, e0, hg0⟩ : ∃ m0 e0, getN t place = (m0, e0) := ⟨_, _, rfl⟩
  simp only [hg0] at hget
  rw [hg0]
  simp only
  by_cases g1 : e0 = 0
  · subst g1
    rw [if_neg (by simp)]
    have hplen : place.length ≤ 16 := by
      unfold getN at hg0
      split at hg0
      · injection hg0 with h1 h2; cases h2
      · omega
    obtain ⟨R, hR⟩ : ∃ R, R = parentK2 t place (place.length + 1) := ⟨_, rfl⟩
    rw [← hR]
    have HR := Lib.hid hR
    clear hR hg0
    go_enter Tryz.func281, Tryz.ntmps281
    go_wp2_with (first
      | (go_at_call 155; refine (hget _ (by repeat (first | assumption | exact Below.refl _ _ | with_reducible refine bset ?_ (by simp) _ | with_reducible refine balloc ?_ _ | with_reducible refine bdrew ?_ | with_reducible refine bdrewN ?_ _ | with_reducible refine bstep ?_ (by assumption)))).mono ?_; clear hget; rintro e w1 ⟨v1, rfl, hv1, hb1⟩; obtain ⟨A5, c5, B5, d5, rfl, hA5⟩ := hv1.form; clear hA5; have hbw := bstep (balloc (brefl w) _) hb1; have hbox := bblock (blast w _ _ rfl) hb1))
    go_loopw [8] (fun i wr => ∃ (k : Nat), k ≤ place.length + 1 ∧ i = .int .i64 ((k : Int) - 1) ∧ R = parentK2 t place k ∧
      wr.heap[w.heap.size]? = some (.cells #[.int .u32 t.boot, .slice A1 t.res.length c1, .string t.root.name, .slice A2 t.root.props.length c2, .slice A3 t.root.kids.length c3] 34 (0, 0)) ∧ Below w.heap.size w wr) (fun i _ => (intOf i + 1).toNat)
    case atStart => exact ⟨place.length + 1, by omega, by go_num, HR.out, bblock hbox (by repeat (first | assumption | exact Below.refl _ _ | with_reducible refine bset ?_ (by simp) _ | with_reducible refine balloc ?_ _ | with_reducible refine bdrew ?_ | with_reducible refine bdrewN ?_ _ | with_reducible refine bstep ?_ (by assumption))), (by repeat (first | assumption | exact Below.refl _ _ | with_reducible refine bset ?_ (by simp) _ | with_reducible refine balloc ?_ _ | with_reducible refine bdrew ?_ | with_reducible refine bdrewN ?_ _ | with_reducible refine bstep ?_ (by assumption)))⟩
    case round =>
      clear hbox hbw hb1
      obtain ⟨k, hk, rfl, hRk, hbt, hb⟩ := hrel
      have HRk := Lib.hid hRk
      clear hRk
      rcases k with _ | j
      · have hfin : R = ([], 8) := HRk.out
        subst hfin
        go_wp2_with fail
        go_ret2
        exact ⟨_, rfl, Sl.nil 0 none, hb⟩
      · have hj : j ≤ place.length := by omega
        have hij : (((j + 1 : Nat) : Int) - 1) = (j : Int) := by omega
        rw [hij]
        have hpl := Sl.cut0 (T := tInt) rfl ha4 hc4 hl4 j hj
        obtain ⟨P, Pe, hP⟩ : ∃ P Pe, getN t (place.take j) = (P, Pe) := ⟨_, _, rfl⟩
        have hg2 := fun w2 (h : Below w.heap.size w w2) => hget2 w2 h (place.take j) _ ((hpl.mono fun k h _ => Or.inr h).below h)
        simp only [hP] at hg2
        have hPe : P = (getN t (place.take j)).1 := by rw [hP]
        have hPs : P.size ≤ 1073741824 := by have := hgle (place.take j); rw [hP] at this; simp only at this; omega
        have herr := parentK2_err hPe
        have hhit := parentK2_hit hPe
        have hgo := parentK2_go hPe
        rw [← HRk.out] at herr hhit hgo
        have hone := fun w2 okA vA hA => one_walk P hPs iparentS w2 okA vA hA
        obtain ⟨x, f, e1', ho⟩ : ∃ x f e1', oneN P iparentS = (x, f, e1') := ⟨_, _, _, rfl⟩
        simp only [ho] at hone herr hhit hgo
        rw [e1] at hone
        clear hP hPe ho hij
        have e2 : (0 : Int) ≤ (j : Int) := by omega
        have e4 : (j : Int) ≤ (c4 : Int) := by omega
        have t0 := bcellAt hbt 0 rfl
        have t1 := bcellAt hbt 1 rfl
        have t2 := bcellAt hbt 2 rfl
        have t3 := bcellAt hbt 3 rfl
        have t4 := bcellAt hbt 4 rfl
        have lt1 := blockLt hbt
        go_upto_region 7 with fail
        go_cut [9] (fun c wx => ∃ (g : Nat) (Ap : Option Addr) (cp : Nat) (Bp : Option Addr) (dp : Nat), c = .pointer (some ⟨g, 0, none⟩) ∧ wr.heap.size ≤ g ∧ wx.heap[g]? = some (.cells #[.string P.name, .slice Ap P.props.length cp, .slice Bp P.kids.length dp] 32 (0, 0)) ∧
          NdV wx (wr.heap.size ≤ ·) (.agg #[.string P.name, .slice Ap P.props.length cp, .slice Bp P.kids.length dp]) P ∧ Below wr.heap.size wr wx)
        case first =>
          go_region_law (first
                | (go_simp; go_at_call 155; (refine (hg2 _ ?_).mono ?_); exact (by repeat (first | assumption | exact Below.refl _ _ | with_reducible refine bset ?_ (by simp) _ | with_reducible refine balloc ?_ _ | with_reducible refine bdrew ?_ | with_reducible refine bdrewN ?_ _ | with_reducible refine bstep ?_ (by assumption))); rintro e w5 ⟨v5, rfl, hv5, hb5⟩; obtain ⟨A6, c6, B6, d6, rfl, hA6⟩ := hv5.form; clear hA6; (try (have hz : w5.heap[wr.heap.size]? = some (.cells #[.string ⟨#[]⟩, .slice none 0 0, .slice none 0 0] 32 (0, 0)) := bblock (blast wr.drew _ wr.heap.size rfl) hb5; have z0 := bcellAt hz 0 rfl; have z1 := bcellAt hz 1 rfl; have z2 := bcellAt hz 2 rfl; have y0 := bfrozenAt hz 0; have y1 := bfrozenAt hz 1; have y2 := bfrozenAt hz 2; have zl := blockLt hz; have HZ := Lib.hid hz; clear hz))))
          all_goals go_wp2_with fail
          all_goals go_meet
          all_goals first
            | (refine ⟨w5.heap.size, A6, c6, B6, d6, ?_, ?_, ?_, ?_, ?_⟩; (with_reducible rfl); (have := hb5.size; simp at this; omega); exact blast _ _ _ rfl; exact (hv5.below (balloc (brefl _) _)).mono fun k h _ => h; exact balloc (bstep (bdrew (brefl wr)) hb5) _)
            | (refine ⟨wr.heap.size, A6, c6, B6, d6, ?_, ?_, ?_, ?_, ?_⟩; (with_reducible rfl); exact Nat.le_refl _; exact bset3At HZ.out _ _ _; exact ((hv5.set3 (fun k h _ => by simp at h; omega) _ _ _).mono fun k h _ => by simp at h; omega); exact bset3 (bstep (balloc (bdrew (brefl wr)) _) hb5) (Nat.le_refl _) _ _ _)
        case rest =>
          obtain ⟨g, Ap, cp, Bp, dp, rfl, hgle2, hbg, hPv, hbx⟩ := hcut
          have hone2 := fun w2 (h : Below wc.heap.size wc w2) => hone w2 _ _ (hPv.below h)
          have g0 := bcellAt hbg 0 rfl
          have g1' := bcellAt hbg 1 rfl
          have g2' := bcellAt hbg 2 rfl
          have hbt2 := bblock hbt hbx
          have hbw2 := bstep hb hbx
          have HBT := Lib.hid hbt2
          obtain ⟨y, hy⟩ : ∃ y : Int, (x : Int) = y := ⟨_, rfl⟩
          simp only [hy] at hone2 hhit
          clear hg2 hone t0 t1 t2 t3 t4 hy hbt hbt2
          have A258 := hone2
          by_cases q1 : e1' = 0
          · subst q1
            cases f
            · have HG := Lib.hid (hgo rfl rfl)
              clear herr hhit hgo hone2
              go_wp2_with (first
                | (go_at_call 258; refine (A258 _ (by repeat (first | assumption | exact Below.refl _ _ | with_reducible refine bset ?_ (by simp) _ | with_reducible refine balloc ?_ _ | with_reducible refine bdrew ?_ | with_reducible refine bdrewN ?_ _ | with_reducible refine bstep ?_ (by assumption)))).mono ?_; clear A258; rintro e w6 ⟨rfl, hb6⟩))
              go_roundw
              case rel => exact ⟨j, by omega, by go_num, HG.out, bblock HBT.out hb6, bstep hbw2 hb6⟩
              case measure => simp [intOf] <;> omega
            · have hfin := hhit rfl rfl
              have hfd := fun w2 h => hfind w2 h y
              rw [← hfin] at hfd
              clear herr hhit hgo hone2 hfin
              go_wp2_with (first
                | (go_at_call 258; refine (A258 _ (by repeat (first | assumption | exact Below.refl _ _ | with_reducible refine bset ?_ (by simp) _ | with_reducible refine balloc ?_ _ | with_reducible refine bdrew ?_ | with_reducible refine bdrewN ?_ _ | with_reducible refine bstep ?_ (by assumption)))).mono ?_; clear A258; rintro e w6 ⟨rfl, hb6⟩; have hbt6 := bblock HBT.out hb6; have t0 := bcellAt hbt6 0 rfl; have t1 := bcellAt hbt6 1 rfl; have t2 := bcellAt hbt6 2 rfl; have t3 := bcellAt hbt6 3 rfl; have t4 := bcellAt hbt6 4 rfl; have hbw6 := bstep hbw2 hb6)
                | (go_at_call 318; refine (hfd _ (by repeat (first | assumption | exact Below.refl _ _ | with_reducible refine bset ?_ (by simp) _ | with_reducible refine balloc ?_ _ | with_reducible refine bdrew ?_ | with_reducible refine bdrewN ?_ _ | with_reducible refine bstep ?_ (by assumption)))).mono ?_; clear hfd; rintro e w7 ⟨v7, rfl, hs7, hb7⟩))
              go_ret2
              exact ⟨_, rfl, hs7.mono (fun k h _ => by have h9 := hbw6.size; have h8 : w6.heap.size ≤ k := h; show w.heap.size ≤ k; omega), bstep hbw6 hb7⟩
          · have hfin := herr q1
            have q2 : (e1' != 0) = true := by rw [bne_iff_ne]; exact q1
            subst hfin
            clear herr hhit hgo q1 hone2
            go_wp2_with (first
              | (go_at_call 258; refine (A258 _ (by repeat (first | assumption | exact Below.refl _ _ | with_reducible refine bset ?_ (by simp) _ | with_reducible refine balloc ?_ _ | with_reducible refine bdrew ?_ | with_reducible refine bdrewN ?_ _ | with_reducible refine bstep ?_ (by assumption)))).mono ?_; clear A258; rintro e w6 ⟨rfl, hb6⟩))
            go_ret2
            exact ⟨_, rfl, Sl.nil 0 none, bstep hbw2 hb6⟩
  · rw [if_pos g1]
    have g3 : (e0 != 0) = true := by rw [bne_iff_ne]; exact g1
    clear hg0
    go_enter Tryz.func281, Tryz.ntmps281
    go_wp2_with (first
      | (go_at_call 155; refine (hget _ (by repeat (first | assumption | exact Below.refl _ _ | with_reducible refine bset ?_ (by simp) _ | with_reducible refine balloc ?_ _ | with_reducible refine bdrew ?_ | with_reducible refine bdrewN ?_ _ | with_reducible refine bstep ?_ (by assumption)))).mono ?_; clear hget; rintro e w1 ⟨v1, rfl, hv1, hb1⟩; obtain ⟨A5, c5, B5, d5, rfl, hA5⟩ := hv1.form))
    go_ret2
    exact ⟨_, rfl, Sl.nil 0 none, (by repeat (first | assumption | exact Below.refl _ _ | with_reducible refine bset ?_ (by simp) _ | with_reducible refine balloc ?_ _ | with_reducible refine bdrew ?_ | with_reducible refine bdrewN ?_ _ | with_reducible refine bstep ?_ (by assumption)))⟩
end Go.Proofs.YtdfknlhfdbbogaaGreatDoor
