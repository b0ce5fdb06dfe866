/-
  valid: Enabled. No condition.
-/
import Derived.Test.YtdfknlhfdbbogaaGreatDoorStatus
namespace Go.Proofs.YtdfknlhfdbbogaaGreatDoor
open Go.RowKit
set_option linter.unusedSimpArgs false
set_option linter.unusedVariables false
def accB (acc : Bool) (r : Bool × Int) : Bool × Int := if r.2 ≠ 0 then (false, r.2) else (acc && r.1, 0)
theorem onL_err (n : Nd) (l : List Int) : (onL n l).2 ≠ 0 → (onL n l).1 = false := by
  cases l with
  | nil => rw [onL]; split; intro _; rfl; intro h; exact absurd rfl h
  | cons a r =>
    rw [onL]
    split
    · intro _; rfl
    · split
      · intro _; rfl
      · split
        · intro _; rfl
        · intro h; exact absurd rfl h
theorem accB_true (n : Nd) (l : List Int) : accB true (onL n l) = onL n l := by
  unfold accB
  have h := onL_err n l
  obtain ⟨p, hp⟩ : ∃ p, p = onL n l := ⟨_, rfl⟩
  rw [← hp] at h ⊢
  obtain ⟨a, b⟩ := p
  simp only at h ⊢
  by_cases hb : b = 0
  · subst hb; simp
  · rw [if_pos hb, h hb]
theorem accB_err {acc : Bool} {n : Nd} {l : List Int} (h : (statusM n).2 ≠ 0) : accB acc (onL n l) = (false, (statusM n).2) := by
  have : onL n l = (false, (statusM n).2) := by cases l <;> rw [onL, if_pos h]
  rw [this]; unfold accB; rw [if_pos h]
theorem accB_nil {acc : Bool} {n : Nd} (h : (statusM n).2 = 0) : accB acc (onL n []) = (acc && (statusM n).1, 0) := by
  rw [onL, if_neg (by simp [h])]; unfold accB; rw [if_neg (by simp)]
theorem accB_go {acc : Bool} {n x : Nd} {j : Nat} {r : List Int} (h : (statusM n).2 = 0) (hx : n.kids[j]? = some x) : accB acc (onL n ((j : Int) :: r)) = accB (acc && (statusM n).1) (onL x r) := by
  rw [onL, if_neg (by simp [h])]
  simp only [Int.toNat_natCast, hx]
  unfold accB
  by_cases h2 : (onL x r).2 = 0
  · simp [h2, Bool.and_assoc]
  · simp [h2]
set_option maxRecDepth 100000 in
set_option maxHeartbeats 2000000 in
theorem enabled_walk (t : Tr) (hsz : t.root.size ≤ 536870912) (place : List Int) (w : World) (ok okp : Nat → Prop) (v pv : Value) (hv : TrV w ok v t) (hp : Sl tInt w okp pv place) :
    Calls Tryz.prog 157 #[v, pv] w fun e w' => e = .returned (.tuple #[.bool (enabledM t place).1, .int .i64 (enabledM t place).2]) ∧ Below w.heap.size w w' := by
  have hget := fun w1 (h : Below w.heap.size w w1) => get_walk t (by omega) place w1 (fun k => ok k ∨ okp k) _ _ ((hv.mono fun k h _ => Or.inl h).below h) ((hp.mono fun k h _ => Or.inr h).below h)
  obtain ⟨vr, vp, vk, rfl, h0, h00, h1, h2, h3⟩ := hv
  have hn := TrV.root (t := t) h2 h3
  obtain ⟨A1, c1, rfl, hc1, hl1, ha1⟩ := h1
  obtain ⟨A2, c2, rfl, hc2, hl2, ha2⟩ := h2
  obtain ⟨A3, c3, rfl, hc3, hl3, ha3⟩ := h3
  clear ha1 ha2 ha3 h0 h00
  obtain ⟨A4, c4, rfl, hc4, hl4, ha4⟩ := id hp
  obtain ⟨R, hR⟩ : ∃ R, R = enabledM t place := ⟨_, rfl⟩
  rw [← hR]
  unfold enabledM at hR
  have hgd : (getN t place).2 = 0 → ∃ m, downN t.root place = some m := fun h => by
    unfold getN at h
    split at h
    · cases h
    · cases hd : downN t.root place with
      | some m => exact ⟨m, rfl⟩
      | none => rw [hd] at h; cases h
  obtain ⟨n0, e0, hg0⟩ : ∃ n e0, getN t place = (n, e0) := ⟨_, _, rfl⟩
  simp only [hg0] at hget hR hgd
  clear hg0
  by_cases g1 : e0 = 0
  · subst g1
    rw [if_neg (by simp)] at hR
    obtain ⟨mm, hmm⟩ := hgd rfl
    have hR2 : R = accB true (onL t.root place) := by rw [accB_true]; exact hR
    have HR := Lib.hid hR2
    have HM := Lib.hid hmm
    clear hR hR2 hmm hgd
    go_enter Tryz.func157, Tryz.ntmps157
    go_wp2_with (first
      | (go_at_call 155; refine (hget _ (by repeat (first | assumption | exact Below.refl _ _ | with_reducible refine bset ?_ (by simp) _ | with_reducible refine balloc ?_ _ | with_reducible refine bdrew ?_ | with_reducible refine bdrewN ?_ _ | with_reducible refine bstep ?_ (by assumption)))).mono ?_; clear hget; rintro e w1 ⟨v1, rfl, hv1, hb1⟩; obtain ⟨A5, c5, A6, c6, rfl, hA5⟩ := hv1.form; clear hA5; have hbw := bstep (balloc (brefl w) _) hb1; have hbox := bblock (blast w _ _ rfl) hb1; have b2 := bcellAt (v := .string t.root.name) hbox 2 rfl; have b3 := bcellAt (v := .slice A2 t.root.props.length c2) hbox 3 rfl; have b4 := bcellAt (v := .slice A3 t.root.kids.length c3) hbox 4 rfl; have lb := blockLt hbox))
    go_loopw [9, 10] (fun on i wr => ∃ (k : Nat) (m : Nd) (Am : Option Addr) (cm : Nat) (Ak : Option Addr) (ck : Nat) (acc : Bool), k ≤ place.length ∧ on = .bool acc ∧ i = .int .i64 k ∧ R = accB acc (onL m (place.drop k)) ∧ downN t.root (place.take k) = some m ∧ NdV w ok (.agg #[.string m.name, .slice Am m.props.length cm, .slice Ak m.kids.length ck]) m ∧
      wr.heap[w1.heap.size + 1]? = some (.cells #[.string m.name, .slice Am m.props.length cm, .slice Ak m.kids.length ck] 32 (0, 0)) ∧ Below w.heap.size w wr) (fun _ i _ => place.length - (intOf i).toNat)
    case atStart => exact ⟨0, t.root, A2, c2, A3, c3, true, by omega, rfl, rfl, HR.out, rfl, hn, (by repeat (first | assumption | exact blast _ _ _ (by simp) | with_reducible refine bblock_alloc ?_ _)), (by repeat (first | assumption | exact Below.refl _ _ | with_reducible refine bset ?_ (by simp) _ | with_reducible refine balloc ?_ _ | with_reducible refine bdrew ?_ | with_reducible refine bdrewN ?_ _ | with_reducible refine bstep ?_ (by assumption)))⟩
    case round =>
      clear hbox b2 b3 b4 lb HR hv1
      obtain ⟨k, m, Am, cm, Ak, ck, acc, hk, rfl, rfl, hRe, hd, hm, hN, hb⟩ := hrel
      have hms := downN_size hd
      have hst := status_walk m (by omega) wr _ _ (hm.below hb)
      obtain ⟨yes, e1, hse⟩ : ∃ yes e1, statusM m = (yes, e1) := ⟨_, _, rfl⟩
      simp only [hse] at hst
      have f0 := bcellAt (v := .string m.name) hN 0 rfl
      have f1 := bcellAt (v := .slice Am m.props.length cm) hN 1 rfl
      have f2 := bcellAt (v := .slice Ak m.kids.length ck) hN 2 rfl
      have HN := Lib.hid hN
      have HD := Lib.hid hd
      clear hN hd
      by_cases g2 : e1 = 0
      · subst g2
        by_cases hkl : k < place.length
        · have hx : place[k]? = some place[k] := List.getElem?_eq_getElem hkl
          have hdr : place.drop k = place[k] :: place.drop (k + 1) := List.drop_eq_getElem_cons hkl
          obtain ⟨x, hxe⟩ : ∃ x, x = place[k] := ⟨_, rfl⟩
          rw [← hxe] at hx hdr
          clear hxe
          obtain ⟨j, rfl, hj⟩ := downN_at HM.out HD.out hx
          have hy : m.kids[j]? = some m.kids[j] := List.getElem?_eq_getElem hj
          have hnext : downN t.root (place.take (k + 1)) = some m.kids[j] := by rw [Nd.take_snoc hx, downN_snoc HD.out, downN_one hj]
          obtain ⟨y, hye⟩ : ∃ y, y = m.kids[j] := ⟨_, rfl⟩
          rw [← hye] at hy hnext
          clear hye
          rw [hdr, accB_go (by rw [hse]) hy, hse] at hRe
          have HR := Lib.hid hRe
          obtain ⟨b, off, rfl, hob, hlb, hc0, hlo, hhi⟩ := (ha4.below hb).num_at hx
          obtain ⟨Am', cm', Ak', ck', he, hm1, hm2, hm3, hm4, hm5, hm6⟩ := hm.form
          have he2 : Am = Am' ∧ cm = cm' ∧ Ak = Ak' ∧ ck = ck' := by simpa [and_assoc] using he
          obtain ⟨rfl, rfl, rfl, rfl⟩ := he2
          clear he
          obtain ⟨b2, off2, A7, c7, A8, c8, rfl, hob2, hlb3, r0, r1, r2, hny⟩ := hm6.node_at hy
          have r0 := bkeep hb r0
          have r1 := bkeep hb r1
          have r2 := bkeep hb r2
          have hn2 := Lib.hid hnext
          have hny2 := Lib.hid hny
          have hjlt : (j : Int) < m.kids.length := by omega
          have hkI : (k : Int) < (place.length : Int) := by omega
          have q8 : ((k : Int) == (place.length : Int)) = false := by rw [beq_eq_false_iff_ne]; omega
          clear hnext hy hny hx hdr hm hm1 hm2 hm3 hm4 hm5 hm6 hn hse hRe hlo hhi
          cases acc <;> cases yes
          all_goals
            have hwz := hbw.size
            go_upto_block 1 with fail
            go_cut [9] (fun on' wx => (∃ o, on' = .bool o ∧ R = accB o (onL y (place.drop (k + 1)))) ∧ wx.heap[w1.heap.size + 1]? = some (.cells #[.string y.name, .slice A7 y.props.length c7, .slice A8 y.kids.length c8] 32 (0, 0)) ∧ Below w.heap.size w wx)
            case first =>
              go_upto_region 13 with (first
                | (go_at_call 156; refine hst.mono ?_; clear hst; rintro e w2 ⟨rfl, hb2⟩; have N2 := bblock HN.out hb2; have g0 := bcellAt (v := .string m.name) N2 0 rfl; have g1 := bcellAt (v := .slice Am m.props.length cm) N2 1 rfl; have g2 := bcellAt (v := .slice (some ⟨b2, off2, none⟩) m.kids.length ck) N2 2 rfl; have y0 := bfrozenAt N2 0; have y1 := bfrozenAt N2 1; have y2 := bfrozenAt N2 2; have ltN := blockLt N2; have r0 := bkeep hb2 r0; have r1 := bkeep hb2 r1; have r2 := bkeep hb2 r2; have hc0 := bkeep hb2 hc0; have H2 := Lib.hid N2; clear N2 f0 f1 f2))
              go_region_law fail
              all_goals go_wp2_with fail
              all_goals go_meet
              all_goals exact ⟨⟨_, rfl, HR.out⟩, bsetAt (bsetAt (bsetAt H2.out 0 _) 1 _) 2 _, bset (bset (bset (bdrew (bstep hb hb2)) (by simp; omega) _) (by simp; omega) _) (by simp; omega) _⟩
            case rest =>
              obtain ⟨⟨o, rfl, hRo⟩, hN3, hb3⟩ := hcut
              clear f0 f1 f2 r0 r1 r2 hc0 hst
              go_wp2_with fail
              go_roundw
              case rel => exact ⟨k + 1, y, A7, c7, A8, c8, _, by omega, rfl, by go_num, hRo, hn2.out, hny2.out, hN3, hb3⟩
              case measure => simp [intOf]; omega
        · obtain rfl : k = place.length := by omega
          rw [List.drop_length, accB_nil (by rw [hse]), hse] at hRe
          subst hRe
          clear hse
          cases acc <;> cases yes
          all_goals
            go_wp2_with (first
              | (go_at_call 156; refine hst.mono ?_; clear hst; rintro e w2 ⟨rfl, hb2⟩))
            go_ret2
            exact ⟨rfl, bstep hb hb2⟩
      · rw [accB_err (by rw [hse]; exact g2), hse] at hRe
        have q4 : (e1 != 0) = true := by rw [bne_iff_ne]; exact g2
        subst hRe
        clear hse
        go_wp2_with (first
          | (go_at_call 156; refine hst.mono ?_; clear hst; rintro e w2 ⟨rfl, hb2⟩))
        go_ret2
        exact ⟨rfl, bstep hb hb2⟩
  · rw [if_pos g1] at hR
    have q4 : (e0 != 0) = true := by rw [bne_iff_ne]; exact g1
    subst hR
    clear ha4 hgd
    go_enter Tryz.func157, Tryz.ntmps157
    go_wp2_with (first
      | (go_at_call 155; refine (hget _ (by repeat (first | assumption | exact Below.refl _ _ | with_reducible refine bset ?_ (by simp) _ | with_reducible refine balloc ?_ _ | with_reducible refine bdrew ?_ | with_reducible refine bdrewN ?_ _ | with_reducible refine bstep ?_ (by assumption)))).mono ?_; clear hget; rintro e w1 ⟨v1, rfl, hv1, hb1⟩; obtain ⟨A5, c5, A6, c6, rfl, hA5⟩ := hv1.form; clear hA5; have hbw := bstep (balloc (brefl w) _) hb1))
    go_ret2
    exact ⟨rfl, balloc hbw _⟩
end Go.Proofs.YtdfknlhfdbbogaaGreatDoor
