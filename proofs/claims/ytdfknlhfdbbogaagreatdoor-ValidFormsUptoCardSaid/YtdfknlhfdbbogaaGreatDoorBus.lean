/-
  valid: bus. No condition.
-/
import Derived.Test.YtdfknlhfdbbogaaGreatDoorWindow
namespace Go.Proofs.YtdfknlhfdbbogaaGreatDoor
open Go.RowKit
set_option linter.unusedSimpArgs false
set_option linter.unusedVariables false
theorem busM_err {t : Tr} {n : Nd} {place : List Int} {l : List Rng} {f : Bool} {e : Int} (h : rangesM (getN t place.dropLast).1 n = (l, f, e)) (he : e ≠ 0) : busM t n place = e := by unfold busM; rw [h]; simp only; rw [if_pos he]
theorem busM_bad {t : Tr} {n : Nd} {place : List Int} {l : List Rng} {f : Bool} (h : rangesM (getN t place.dropLast).1 n = (l, f, 0)) (hb : f = false ∨ l.any beyondB = true) : busM t n place = 12 := by unfold busM; rw [h]; simp only; rw [if_neg (by simp), if_pos hb]
theorem busM_ok {t : Tr} {n : Nd} {place : List Int} {l : List Rng} (h : rangesM (getN t place.dropLast).1 n = (l, true, 0)) (hb : l.any beyondB = false) : busM t n place = 0 := by unfold busM; rw [h]; simp only; rw [if_neg (by simp), if_neg (by simp [hb])]
set_option maxRecDepth 100000 in
set_option maxHeartbeats 1000000 in
theorem bus_walk (t : Tr) (hsz : t.root.size ≤ 536870912) (place : List Int) (hne : place ≠ []) (n : Nd) (hns : n.size ≤ 536870912) (w : World) (g : Nat) (c : Int) (vl : Value) (okp okn : Nat → Prop) (pv nv : Value) (hl : LkB w g t c vl) (hp : Sl tInt w okp pv place) (hn : NdV w okn nv n) :
    Calls Tryz.prog 159 #[.pointer (some ⟨g, 0, none⟩), nv, pv] w fun e w' => e = .returned (.int .i64 (busM t n place)) ∧ Below w.heap.size w w' := by
  obtain ⟨A1, c1, A2, c2, A3, c3, hL, hT⟩ := hl
  obtain ⟨A4, c4, rfl, hc4, hl4, ha4⟩ := hp
  obtain ⟨B1, d1, B2, d2, rfl, hnn⟩ := hn.form
  clear hnn
  have hlen : 0 < place.length := List.length_pos_iff.2 hne
  obtain ⟨j, hj⟩ : ∃ j, place.length = j + 1 := ⟨place.length - 1, by omega⟩
  have hdl : place.dropLast = place.take j := by rw [List.dropLast_eq_take, hj]; rfl
  have herr := fun l f e => busM_err (t := t) (n := n) (place := place) (l := l) (f := f) (e := e)
  have hbad := fun l f => busM_bad (t := t) (n := n) (place := place) (l := l) (f := f)
  have hgood := fun l => busM_ok (t := t) (n := n) (place := place) (l := l)
  obtain ⟨R, hR⟩ : ∃ R, R = busM t n place := ⟨_, rfl⟩
  rw [← hR]
  simp only [← hR, hdl] at herr hbad hgood
  clear hR hdl
  have hpl := fun w1 (h : Below w.heap.size w w1) => Sl.cut0 (T := tInt) rfl (ha4.below h) hc4 hl4 j (by omega)
  have hPs := getN_le t (place.take j)
  have hget := fun w1 (h : Below w.heap.size w w1) => get_walk t (by omega) (place.take j) w1 (fun k => k < g ∨ okp k) _ _ ((hT.mono fun k h _ => Or.inl h).below h) ((hpl w1 h).mono fun k h _ => Or.inr h)
  obtain ⟨P, Pe, hP⟩ : ∃ P Pe, getN t (place.take j) = (P, Pe) := ⟨_, _, rfl⟩
  rw [hP] at hPs
  simp only [hP] at hget herr hbad hgood hPs
  have hrng := fun w1 okA vA hA h => ranges_walk P n (by omega) (by omega) w1 okA okn vA (.agg #[.string n.name, .slice B1 n.props.length d1, .slice B2 n.kids.length d2]) hA h
  obtain ⟨l, f, e1, hr⟩ : ∃ l f e1, rangesM P n = (l, f, e1) := ⟨_, _, _, rfl⟩
  have herr := fun h => herr l f e1 hr h
  have hbad := fun (h : e1 = 0) => hbad l f (by rw [hr, h])
  have hgood := fun (h : f = true) (h2 : e1 = 0) => hgood l (by rw [hr, h, h2])
  simp only [hr] at hrng
  clear hr hP hpl
  have t0 := bcellAt hL 0 rfl
  have t1 := bcellAt hL 1 rfl
  have t2 := bcellAt hL 2 rfl
  have t3 := bcellAt hL 3 rfl
  have t4 := bcellAt hL 4 rfl
  have lt1 := blockLt hL
  have e3 : (0 : Int) ≤ (j : Int) := by omega
  have e4 : (j : Int) ≤ (c4 : Int) := by omega
  have e5 : IntKind.i64.wrap ((place.length : Int) - 1) = (j : Int) := by rw [IntKind.wrap_i64]; omega
  have J := Lib.hid hj
  clear hj hlen hne
  go_enter Tryz.func159, Tryz.ntmps159
  go_upto_region 1 with fail
  obtain ⟨W, hW⟩ : ∃ W, W = w.alloc (.cells #[.string n.name, .slice B1 n.props.length d1, .slice B2 n.kids.length d2] 32) := ⟨_, rfl⟩
  rw [← hW]
  have hWb : Below w.heap.size w W := by rw [hW]; exact balloc (brefl _) _
  have hnb : W.heap[w.heap.size]? = some (.cells #[.string n.name, .slice B1 n.props.length d1, .slice B2 n.kids.length d2] 32 (0, 0)) := by rw [hW]; exact blast _ _ _ rfl
  have t0 := bkeep hWb t0
  have t1 := bkeep hWb t1
  have t2 := bkeep hWb t2
  have t3 := bkeep hWb t3
  have t4 := bkeep hWb t4
  have lt1 := Nat.lt_of_lt_of_le lt1 hWb.size
  clear hW
  go_cut [7] (fun c wx => ∃ (b : Nat) (Ap : Option Addr) (cp : Nat) (Bp : Option Addr) (dp : Nat), c = .pointer (some ⟨b, 0, none⟩) ∧ W.heap.size ≤ b ∧ wx.heap[b]? = some (.cells #[.string P.name, .slice Ap P.props.length cp, .slice Bp P.kids.length dp] 32 (0, 0)) ∧
    NdV wx (W.heap.size ≤ ·) (.agg #[.string P.name, .slice Ap P.props.length cp, .slice Bp P.kids.length dp]) P ∧ Below W.heap.size W wx)
  case first =>
    go_region_law (first
      | (go_simp; go_at_call 155; (refine (hget _ (bstep hWb ?_)).mono ?_); exact (by repeat (first | assumption | exact Below.refl _ _ | with_reducible refine bset ?_ (by simp) _ | with_reducible refine balloc ?_ _ | with_reducible refine bdrew ?_ | with_reducible refine bdrewN ?_ _ | with_reducible refine bstep ?_ (by assumption))); rintro e w5 ⟨v5, rfl, hv5, hb5⟩; obtain ⟨A6, c6, B6, d6, rfl, hA6⟩ := hv5.form; clear hA6; (try (have hz : w5.heap[W.heap.size]? = some (.cells #[.string ⟨#[]⟩, .slice none 0 0, .slice none 0 0] 32 (0, 0)) := bblock (blast W.drew _ W.heap.size rfl) hb5; have z0 := bcellAt hz 0 rfl; have z1 := bcellAt hz 1 rfl; have z2 := bcellAt hz 2 rfl; have y0 := bfrozenAt hz 0; have y1 := bfrozenAt hz 1; have y2 := bfrozenAt hz 2; have zl := blockLt hz; have HZ := Lib.hid hz; clear hz))))
    all_goals go_wp2_with fail
    all_goals go_meet
    all_goals first
      | (refine ⟨w5.heap.size, A6, c6, B6, d6, ?_, ?_, ?_, ?_, ?_⟩; (with_reducible rfl); (have := hb5.size; simp at this; omega); exact blast _ _ _ rfl; exact (hv5.below (balloc (brefl _) _)).mono fun k h _ => h; exact balloc (bstep (bdrew (brefl W)) hb5) _)
      | (refine ⟨W.heap.size, A6, c6, B6, d6, ?_, ?_, ?_, ?_, ?_⟩; (with_reducible rfl); exact Nat.le_refl _; exact bset3At HZ.out _ _ _; exact ((hv5.set3 (fun k h _ => by simp at h; omega) _ _ _).mono fun k h _ => by simp at h; omega); exact bset3 (bstep (balloc (bdrew (brefl W)) _) hb5) (Nat.le_refl _) _ _ _)
  case rest =>
    obtain ⟨b, Ap, cp, Bp, dp, rfl, hgb, hbg, hPv, hbx⟩ := hcut
    have hnb2 := bblock hnb hbx
    have p0 := bcellAt (v := .string P.name) hbg 0 rfl
    have p1 := bcellAt (v := .slice Ap P.props.length cp) hbg 1 rfl
    have p2 := bcellAt (v := .slice Bp P.kids.length dp) hbg 2 rfl
    have n0 := bcellAt (v := .string n.name) hnb2 0 rfl
    have n1 := bcellAt (v := .slice B1 n.props.length d1) hnb2 1 rfl
    have n2 := bcellAt (v := .slice B2 n.kids.length d2) hnb2 2 rfl
    have lb1 := blockLt hbg
    have lb2 := blockLt hnb2
    have hbw := bstep hWb hbx
    clear t0 t1 t2 t3 t4 hget
    have hrng2 := fun w1 (h : Below wc.heap.size wc w1) => hrng w1 _ _ (hPv.below h) ((hn.below hbw).below h)
    clear hrng
    by_cases g1 : e1 = 0
    · subst g1
      cases f
      · have hfin := hbad rfl (.inl rfl)
        subst hfin
        clear hbad hgood herr
        go_wp2_with (first
          | (go_at_call 183; refine (hrng2 _ (by repeat (first | assumption | exact Below.refl _ _ | with_reducible refine bset ?_ (by simp) _ | with_reducible refine balloc ?_ _ | with_reducible refine bdrew ?_ | with_reducible refine bdrewN ?_ _ | with_reducible refine bstep ?_ (by assumption)))).mono ?_; clear hrng2; rintro e w6 ⟨v6, rfl, hs6, hb6⟩; obtain ⟨A7, c7, rfl, hA7⟩ := hs6; clear hA7))
        go_ret
        exact ⟨rfl, bstep hbw hb6⟩
      · obtain ⟨q, hq⟩ : ∃ q, q = l.any beyondB := ⟨_, rfl⟩
        have hcon := fun w1 ok1 v1 h => rng_contains l w1 ok1 v1 h beyondB (fun W2 x _ _ u0 u1 u2 => beyond_walk x u0 u1 u2 W2)
        rw [← hq] at hbad hgood
        simp only [← hq] at hcon
        clear hq herr
        cases q
        · have hfin := hgood rfl rfl rfl
          subst hfin
          clear hbad hgood
          go_wp2_with (first
            | (go_at_call 183; refine (hrng2 _ (by repeat (first | assumption | exact Below.refl _ _ | with_reducible refine bset ?_ (by simp) _ | with_reducible refine balloc ?_ _ | with_reducible refine bdrew ?_ | with_reducible refine bdrewN ?_ _ | with_reducible refine bstep ?_ (by assumption)))).mono ?_; clear hrng2; rintro e w6 ⟨v6, rfl, hs6, hb6⟩; obtain ⟨A7, c7, rfl, hA7⟩ := id hs6; clear hA7)
            | (go_at_call 260; refine (hcon _ _ _ hs6).mono ?_; clear hcon; rintro e w7 ⟨rfl, hb7⟩))
          go_ret
          exact ⟨rfl, bstep (bstep hbw hb6) hb7⟩
        · have hfin := hbad rfl (.inr rfl)
          subst hfin
          clear hbad hgood
          go_wp2_with (first
            | (go_at_call 183; refine (hrng2 _ (by repeat (first | assumption | exact Below.refl _ _ | with_reducible refine bset ?_ (by simp) _ | with_reducible refine balloc ?_ _ | with_reducible refine bdrew ?_ | with_reducible refine bdrewN ?_ _ | with_reducible refine bstep ?_ (by assumption)))).mono ?_; clear hrng2; rintro e w6 ⟨v6, rfl, hs6, hb6⟩; obtain ⟨A7, c7, rfl, hA7⟩ := id hs6; clear hA7)
            | (go_at_call 260; refine (hcon _ _ _ hs6).mono ?_; clear hcon; rintro e w7 ⟨rfl, hb7⟩))
          go_ret
          exact ⟨rfl, bstep (bstep hbw hb6) hb7⟩
    · have hfin := herr g1
      have q2 : (e1 != 0) = true := by rw [bne_iff_ne]; exact g1
      subst hfin
      clear hbad hgood herr g1
      go_wp2_with (first
        | (go_at_call 183; refine (hrng2 _ (by repeat (first | assumption | exact Below.refl _ _ | with_reducible refine bset ?_ (by simp) _ | with_reducible refine balloc ?_ _ | with_reducible refine bdrew ?_ | with_reducible refine bdrewN ?_ _ | with_reducible refine bstep ?_ (by assumption)))).mono ?_; clear hrng2; rintro e w6 ⟨v6, rfl, hs6, hb6⟩; obtain ⟨A7, c7, rfl, hA7⟩ := hs6; clear hA7))
      go_ret
      exact ⟨rfl, bstep hbw hb6⟩
end Go.Proofs.YtdfknlhfdbbogaaGreatDoor
