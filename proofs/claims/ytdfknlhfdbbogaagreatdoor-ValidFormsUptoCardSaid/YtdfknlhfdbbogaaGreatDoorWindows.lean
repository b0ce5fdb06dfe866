/-
  xlate.Windows: a node's windows, seen from the root. No condition.
-/
import Derived.Test.YtdfknlhfdbbogaaGreatDoorUp
namespace Go.Proofs.YtdfknlhfdbbogaaGreatDoor
open Go.RowKit
set_option linter.unusedSimpArgs false
set_option linter.unusedVariables false
theorem chunk_set_far {cells : List Value} {i j : Nat} (h : i ≠ j) (u : Value) : chunk 2 i (cells.set (j * 2) u) = chunk 2 i cells := by
  unfold chunk
  apply List.ext_getElem?
  intro k
  rw [List.getElem?_take, List.getElem?_take, List.getElem?_drop, List.getElem?_drop]
  split
  · rw [List.getElem?_set_ne (by omega)]
  · rfl
theorem chunk_set_near {cells : List Value} {j : Nat} {a b u : Value} (h : chunk 2 j cells = [a, b]) : chunk 2 j (cells.set (j * 2) u) = [u, b] := by
  have h0 : cells[j * 2 + 0]? = some a := chunk_get (sz := 2) (by rw [h]; rfl)
  have h1 : cells[j * 2 + 1]? = some b := chunk_get (sz := 2) (by rw [h]; rfl)
  have hl := (List.getElem?_eq_some_iff.1 h0).1
  unfold chunk
  apply List.ext_getElem?
  intro k
  rw [List.getElem?_take, List.getElem?_drop]
  rcases k with _ | _ | k
  · rw [if_pos (by decide), Nat.add_zero, List.getElem?_set_self (by simpa using hl)]; rfl
  · rw [if_pos (by decide), List.getElem?_set_ne (by omega), h1]; rfl
  · rw [if_neg (by omega)]; simp
theorem Row.setWin {w : World} {B : Nat} {xs : List Win} {x : Win} {j n c g : Nat} {y : Int} (h : Row tWin 322 w B (.slice (some ⟨g, 0, none⟩) n c) xs) (hx : xs[j]? = some x) (hy : U64 y) :
    Row tWin 322 (w.setCell ⟨g, j * 2, none⟩ (.int .u64 y)) B (.slice (some ⟨g, 0, none⟩) n c) (xs.set j (y, x.2)) := by
  obtain ⟨cells, ho, hk, hr⟩ := h
  have hn : n = xs.length := by
    rcases ho.2 with ⟨h, _⟩ | ⟨_, _, _, h, _⟩ <;> cases h
    rfl
  subst hn
  refine ⟨cells.set (j * 2) (.int .u64 y), ?_, hk, ?_, fun i z hz => ?_⟩
  · rw [List.length_set]
    exact (ho.stored _ _).1
  · rw [List.length_set, List.length_set, hr.1]
  · by_cases hij : i = j
    · subst hij
      have hz2 : z = (y, x.2) := by
        rw [List.getElem?_set_self (List.getElem?_eq_some_iff.1 hx).1] at hz
        injection hz with hz
        exact hz.symm
      subst hz2
      obtain ⟨ds, es, he, ⟨rfl, h1, h2⟩, rfl, h3, h4⟩ := hr.2 i x hx
      show tWin.rep _ _ _ (chunk 2 i _)
      rw [chunk_set_near he]
      exact ⟨[_], [_], rfl, ⟨rfl, hy.1, by have := hy.2; omega⟩, rfl, h3, h4⟩
    · rw [List.getElem?_set_ne (by omega)] at hz
      show tWin.rep _ _ _ (chunk 2 i _)
      rw [chunk_set_far hij]
      exact flat_pair flat_num flat_num _ _ _ _ _ _ (hr.2 i z hz)
def trW (t : Tr) (up : List Int) (w : Win) : Win := ((upM t up w.1 w.2).1, w.2)
theorem winL_stop {t : Tr} {up : List Int} {l : List Win} {k : Nat} {x : Win} (h : l[k]? = some x) (ha : ∀ q ∈ l.take k, (upM t up q.1 q.2).2 = 0) (hx : (upM t up x.1 x.2).2 ≠ 0) : winL t up l = ([], (upM t up x.1 x.2).2) := by
  induction l generalizing k with
  | nil => simp at h
  | cons a r ih =>
    rw [winL]
    rcases k with _ | k
    · simp at h
      subst h
      rw [if_pos hx]
    · have h2 := ih (by simpa using h) fun q hq => ha q (by simp [hq])
      rw [if_neg (by simp [ha a (by simp)]), h2, if_pos hx]
theorem winL_all {t : Tr} {up : List Int} {l : List Win} (ha : ∀ q ∈ l, (upM t up q.1 q.2).2 = 0) : winL t up l = (l.map (trW t up), 0) := by
  induction l with
  | nil => rfl
  | cons a r ih =>
    have h2 := ih fun q hq => ha q (by simp [hq])
    rw [winL, if_neg (by simp [ha a (by simp)]), h2, if_neg (by simp)]
    rfl
def winTo (t : Tr) (up : List Int) (l : List Win) (k : Nat) : List Win := (l.take k).map (trW t up) ++ l.drop k
theorem winTo_length (t : Tr) (up : List Int) (l : List Win) (k : Nat) : (winTo t up l k).length = l.length := by simp [winTo]; omega
theorem winTo_get {t : Tr} {up : List Int} {l : List Win} {k : Nat} (hk : k < l.length) : (winTo t up l k)[k]? = l[k]? := by
  unfold winTo
  rw [List.getElem?_append_right (by simp; omega)]
  simp [Nat.min_eq_left (Nat.le_of_lt hk)]
theorem winTo_next {t : Tr} {up : List Int} {l : List Win} {k : Nat} {x : Win} (hx : l[k]? = some x) : (winTo t up l k).set k (trW t up x) = winTo t up l (k + 1) := by
  have hk := (List.getElem?_eq_some_iff.1 hx).1
  unfold winTo
  rw [Nd.take_snoc hx, List.map_append, List.set_append_right _ _ (by simp; omega)]
  have h1 : l.drop k = x :: l.drop (k + 1) := by rw [List.drop_eq_getElem_cons hk]; congr 1; exact (List.getElem?_eq_some_iff.1 hx).2
  rw [h1]
  simp [Nat.min_eq_left (Nat.le_of_lt hk)]
theorem Own.gform {α : Type} {T : Ty α} {e : TypeId} {w : World} {B : Nat} {ok : Nat → Prop} {v : Value} {xs : List α} (h : Own T e w B ok v xs) (hn : xs ≠ []) : ∃ g c, v = .slice (some ⟨g, 0, none⟩) xs.length c ∧ B ≤ g ∧ g < w.heap.size ∧ ∀ j, w.frozen? ⟨g, j, none⟩ = false := by
  obtain ⟨cells, ho, hk, hr⟩ := h
  have hlt := ho.lt
  rcases ho.2 with ⟨rfl, h0⟩ | ⟨g, cap, cur, rfl, hb, hg, _⟩
  · exact absurd (List.eq_nil_of_length_eq_zero h0) hn
  · exact ⟨g, cap, rfl, hb, blockLt hg, fun j => bfrozenAt hg j⟩
set_option maxRecDepth 100000 in
set_option maxHeartbeats 2000000 in
theorem windows_walk (t : Tr) (hsz : t.root.size ≤ 1073741824) (place : List Int) (w : World) (ok okp : Nat → Prop) (v pv : Value) (hv : TrV w ok v t) (hp : Sl tInt w okp pv place) :
    Calls Tryz.prog 200 #[v, pv] w fun e w' => ∃ v', e = .returned (.tuple #[v', .int .i64 (windowsM t place).2]) ∧ Sl tWin w' (w.heap.size ≤ ·) v' (windowsM t place).1 ∧ Below w.heap.size w w' := by
  have hget := fun w1 (h : Below w.heap.size w w1) pl pv2 (hp2 : Sl tInt w1 (fun k => ok k ∨ okp k) pv2 pl) => get_walk t hsz pl w1 (fun k => ok k ∨ okp k) _ _ ((hv.mono fun k h _ => Or.inl h).below h) hp2
  have hup := fun w1 (h : Below w.heap.size w w1) pl pv2 (hp2 : Sl tInt w1 okp pv2 pl) a z ha hz => up_walk t hsz pl a z ha hz w1 ok okp _ pv2 (hv.below h) hp2
  have hgle := fun pl => getN_le t pl
  have hp0 : Sl tInt w (fun k => ok k ∨ okp k) pv place := hp.mono fun k h _ => Or.inr h
  obtain ⟨A1, c1, A2, c2, A3, c3, rfl, hrl⟩ := hv.form
  obtain ⟨A4, c4, rfl, hc4, hl4, ha4⟩ := hp
  have hd : windowsM t place = if (getN t place).2 ≠ 0 then ([], 8) else if place = [] then ([], 1)
      else if (regM (getN t place.dropLast).1 (getN t place).1).2 ≠ 0 then ([], (regM (getN t place.dropLast).1 (getN t place).1).2)
      else winL t place.dropLast (regM (getN t place.dropLast).1 (getN t place).1).1 := rfl
  rw [hd]
  clear hd
  obtain ⟨n, e0, hg0⟩ : ∃ n e0, getN t place = (n, e0) := ⟨_, _, rfl⟩
  have hg1 := fun w1 (h : Below w.heap.size w w1) => hget w1 h place _ (hp0.below h)
  have hns := hgle place
  rw [hg0] at hns ⊢
  simp only [hg0] at hg1
  simp only at hns ⊢
  by_cases q0 : e0 = 0
  · subst q0
    rw [if_neg (by simp)]
    by_cases q1 : place = []
    · rw [if_pos q1]
      have q2 : ((place.length : Int) == 0) = true := by rw [q1]; rfl
      clear q1 hg0
      go_enter Tryz.func200, Tryz.ntmps200
      go_wp2_with (first
        | (go_at_call 155; refine (hg1 _ (by repeat (first | assumption | exact Below.refl _ _ | with_reducible refine bset ?_ (by simp) _ | with_reducible refine balloc ?_ _ | with_reducible refine bdrew ?_ | with_reducible refine bdrewN ?_ _ | with_reducible refine bstep ?_ (by assumption)))).mono ?_; clear hg1; rintro e w1 ⟨v1, rfl, hv1, hb1⟩; obtain ⟨A5, c5, B5, d5, rfl, hA5⟩ := hv1.form))
      go_ret2
      exact ⟨_, rfl, Sl.nil 0 none, (by repeat (first | assumption | exact Below.refl _ _ | with_reducible refine bset ?_ (by simp) _ | with_reducible refine balloc ?_ _ | with_reducible refine bdrew ?_ | with_reducible refine bdrewN ?_ _ | with_reducible refine bstep ?_ (by assumption)))⟩
    · rw [if_neg q1]
      have hlen : 0 < place.length := by rcases place with _ | _; exact absurd rfl q1; simp
      have q2 : ((place.length : Int) == 0) = false := by rw [beq_eq_false_iff_ne]; omega
      obtain ⟨j, hj⟩ : ∃ j, place.length = j + 1 := ⟨place.length - 1, by omega⟩
      have hdl : place.dropLast = place.take j := by rw [List.dropLast_eq_take, hj]; rfl
      rw [hdl]
      have hpl := fun w1 (h : Below w.heap.size w w1) => Sl.cut0 (T := tInt) rfl (ha4.below h) hc4 hl4 j (by omega)
      obtain ⟨P, Pe, hP⟩ : ∃ P Pe, getN t (place.take j) = (P, Pe) := ⟨_, _, rfl⟩
      have hPs := hgle (place.take j)
      have hg2 := fun w1 (h : Below w.heap.size w w1) => hget w1 h (place.take j) _ ((hpl w1 h).mono fun k h _ => Or.inr h)
      rw [hP] at hPs ⊢
      simp only [hP] at hg2
      simp only at hPs ⊢
      have hreg := fun w2 okA okB vA vB hA hB => reg_walk P n (by omega) (by omega) w2 okA okB vA vB hA hB
      obtain ⟨l, e1, hl⟩ : ∃ l e1, regM P n = (l, e1) := ⟨_, _, rfl⟩
      rw [hl] at hreg ⊢
      simp only at hreg ⊢
      have hc5 : 0 < c4 := by omega
      clear hg0 hget hP hl q1 hdl
      have J := Lib.hid hj
      have hjl : (j : Int) ≤ (c4 : Int) := by omega
      have hj2 : ((place.length : Int) - 1) = (j : Int) := by omega
      have hj3 : (0 : Int) ≤ (j : Int) := by omega
      clear hj
      by_cases q4 : e1 = 0
      · subst q4
        rw [if_neg (by simp)]
        obtain ⟨R, hR⟩ : ∃ R, R = winL t (place.take j) l := ⟨_, rfl⟩
        rw [← hR]
        have HR := Lib.hid hR
        clear hR
        go_enter Tryz.func200, Tryz.ntmps200
        go_wp2_with (first
          | (go_at_call 155; (with_reducible refine (hg1 _ ?_).mono ?_); exact (by repeat (first | assumption | exact Below.refl _ _ | with_reducible refine bset ?_ (by simp) _ | with_reducible refine balloc ?_ _ | with_reducible refine bdrew ?_ | with_reducible refine bdrewN ?_ _ | with_reducible refine bstep ?_ (by assumption))); clear hg1; rintro e w1 ⟨v1, rfl, hv1, hb1⟩; obtain ⟨A5, c5', B5, d5, rfl, hA5⟩ := hv1.form; clear hA5; have hbox := bblock (blast w _ _ rfl) hb1; have t0 := bcellAt hbox 0 rfl; have t1 := bcellAt hbox 1 rfl; have t2 := bcellAt hbox 2 rfl; have t3 := bcellAt hbox 3 rfl; have t4 := bcellAt hbox 4 rfl; have lt1 := blockLt hbox; have hbw := bstep (balloc (brefl w) _) hb1)
          | (go_at_call 155; (with_reducible refine (hg2 _ ?_).mono ?_); exact (by repeat (first | assumption | exact Below.refl _ _ | with_reducible refine bset ?_ (by simp) _ | with_reducible refine balloc ?_ _ | with_reducible refine bdrew ?_ | with_reducible refine bdrewN ?_ _ | with_reducible refine bstep ?_ (by assumption))); clear hg2; rintro e w2 ⟨v2, rfl, hv2, hb2⟩; obtain ⟨A6, c6, B6, d6, rfl, hA6⟩ := hv2.form; clear hA6; have nbox := bblock (blast w1 _ _ rfl) hb2; have n0 := bcellAt nbox 0 rfl; have n1 := bcellAt nbox 1 rfl; have n2 := bcellAt nbox 2 rfl; have lt2 := blockLt nbox; have hbw2 := bstep (balloc hbw _) hb2; replace hbox := bblock (bblock_alloc hbox _) hb2; clear t0 t1 t2 t3 t4)
          | (go_at_call 182; (refine (hreg _ (w1.heap.size + 1 ≤ ·) (w.heap.size ≤ ·) _ _ ?_ ?_).mono ?_); exact ((hv2.below (balloc (brefl _) _)).mono fun k h _ => by simpa using h); exact ((hv1.below (balloc (bstep (balloc (brefl w1) _) hb2) _)).mono fun k h _ => by simp at h; omega); clear hreg; rintro e w3 ⟨v3, rfl, hr3, hb3⟩; obtain ⟨A7, c7, rfl, hc7, hl7, hA7⟩ := hr3.form; clear hA7; have hbw3 := bstep (balloc hbw2 _) hb3; have hbox3 := bblock (bblock_alloc hbox _) hb3))
        have hr4 : Row tWin 322 w3 (w.heap.size + 1) (.slice A7 l.length c7) l := hr3.mono (by have := hbw2.size; simp; omega) (fun k h _ => by have := hbw2.size; simp at h; omega)
        clear hr3 nbox n0 n1 n2 hbox lt1 lt2 hv1 hv2 q2 hj2
        go_loopw [48] (fun i wr => ∃ k : Nat, k ≤ l.length ∧ i = .int .i64 k ∧ (∀ q ∈ l.take k, (upM t (place.take j) q.1 q.2).2 = 0) ∧ Row tWin 322 wr (w.heap.size + 1) (.slice A7 l.length c7) (winTo t (place.take j) l k) ∧
          wr.heap[w.heap.size]? = some (.cells #[.int .u32 t.boot, .slice A1 t.res.length c1, .string t.root.name, .slice A2 t.root.props.length c2, .slice A3 t.root.kids.length c3] 34 (0, 0)) ∧ Below w.heap.size w wr) (fun i _ => l.length - (intOf i).toNat)
        case atStart => exact ⟨0, by omega, rfl, by simp, by simpa [winTo] using hr4, hbox3, hbw3⟩
        case round =>
          clear hr4 hbox3 hbw3 hb3 hbw2 hb2 hbw hb1
          obtain ⟨k, hk, rfl, hall, hrow, hbt, hb⟩ := hrel
          have HA := Lib.hid hall
          clear hall
          by_cases hkl : k < l.length
          · have hx : l[k]? = some l[k] := List.getElem?_eq_getElem hkl
            obtain ⟨x, hxe⟩ : ∃ x, x = l[k] := ⟨_, rfl⟩
            rw [← hxe] at hx
            have hx2 : (winTo t (place.take j) l k)[k]? = some x := by rw [winTo_get hkl]; exact hx
            obtain ⟨g, c8, he, hBg, hlg, hfz⟩ := hrow.gform (by intro h; rw [h] at hx2; simp at hx2)
            injection he with i1 i2 i3
            subst i1
            obtain ⟨A9, c9, he9, _, _, ha9⟩ := hrow.sl
            injection he9 with i4 i5 i6
            subst i4
            obtain ⟨b, off, hA, _, _, r0, r1, u0, u1, u2, u3⟩ := ha9.res_at hx2
            injection hA with hA
            injection hA with hA1 hA2
            subst hA1 hA2
            simp only [Nat.zero_add] at r0 r1
            have hupc := fun w2 (h : Below w.heap.size w w2) => hup w2 h (place.take j) _ (hpl w2 h) x.1 x.2 (U64.of_lt u0 u1) (U64.of_lt u2 u3)
            have hstop := winL_stop (t := t) (up := place.take j) hx HA.out
            obtain ⟨y, e2, hU⟩ : ∃ y e2, upM t (place.take j) x.1 x.2 = (y, e2) := ⟨_, _, rfl⟩
            simp only [hU] at hupc hstop
            have htr : trW t (place.take j) x = (y, x.2) := by unfold trW; rw [hU]
            have hnext := all_snoc (P := fun q : Win => (upM t (place.take j) q.1 q.2).2 = 0) hx HA.out
            simp only [hU] at hnext
            have HS := Lib.hid hstop
            have HN := Lib.hid hnext
            have HX := Lib.hid hx
            have HX2 := Lib.hid hx2
            have HTR := Lib.hid htr
            obtain ⟨x0, x1⟩ := x
            simp only at r0 r1 hupc HX2 HTR
            have t0 := bcellAt hbt 0 rfl
            have t1 := bcellAt hbt 1 rfl
            have t2 := bcellAt hbt 2 rfl
            have t3 := bcellAt hbt 3 rfl
            have t4 := bcellAt hbt 4 rfl
            have lt1 := blockLt hbt
            have hk0 : (0 : Int) ≤ (k : Int) := by omega
            have hk1 : (k : Int) < (l.length : Int) := by omega
            have fz0 := hfz (k * 2)
            clear hstop hnext hx hx2 htr hU hxe ha9 i2 i3 i5 i6 hfz
            go_upto_region 14 with fail
            go_cut [7] (fun e wx => e = .int .i64 e2 ∧ U64 y ∧ Row tWin 322 wx (w.heap.size + 1) (.slice (some ⟨g, 0, none⟩) l.length c7) ((winTo t (place.take j) l k).set k (y, x1)) ∧
              wx.heap[w.heap.size]? = some (.cells #[.int .u32 t.boot, .slice A1 t.res.length c1, .string t.root.name, .slice A2 t.root.props.length c2, .slice A3 t.root.kids.length c3] 34 (0, 0)) ∧ Below w.heap.size w wx)
            case first =>
              go_region_law (first
                | (go_simp; go_at_call 291; (refine (hupc _ ?_).mono ?_); exact (by repeat (first | assumption | exact Below.refl _ _ | with_reducible refine bset ?_ (by simp) _ | with_reducible refine balloc ?_ _ | with_reducible refine bdrew ?_ | with_reducible refine bdrewN ?_ _ | with_reducible refine bstep ?_ (by assumption))); rintro e w5 ⟨rfl, hu5, hb5⟩; have s0 := bkeep hb5 r0; have s1 := bkeepF hb5 r0 fz0))
              all_goals go_wp2_with fail
              all_goals go_meet
              all_goals exact ⟨rfl, hu5, Row.setWin (hrow.below (bstep (bdrew (brefl wr)) hb5)) HX2.out hu5, bsetFar (bblock (w := wr.drew) hbt hb5) (by simp; omega) _, bset (bstep (bstep hb (bdrew (brefl wr))) hb5) (by simp; omega) _⟩
            case rest =>
              obtain ⟨rfl, hy, hrow2, hbt2, hb2⟩ := hcut
              by_cases q6 : e2 = 0
              · subst q6
                have hn := HN.out rfl
                rw [HTR.out.symm, winTo_next HX.out] at hrow2
                have HN2 := Lib.hid hn
                clear hn
                go_wp2_with fail
                go_roundw
                case rel => exact ⟨k + 1, by omega, by go_num, HN2.out, hrow2, hbt2, hb2⟩
                case measure => simp [intOf]; omega
              · have hfin := HR.out.trans (HS.out q6)
                have q7 : (e2 != 0) = true := by rw [bne_iff_ne]; exact q6
                subst hfin
                clear q6
                go_wp2_with fail
                go_ret2
                exact ⟨_, rfl, Sl.nil 0 none, hb2⟩
          · obtain rfl : k = l.length := by omega
            have h5 := HA.out
            rw [List.take_length] at h5
            have hfin := HR.out.trans (winL_all h5)
            have hw : winTo t (place.take j) l l.length = l.map (trW t (place.take j)) := by simp [winTo]
            rw [hw] at hrow
            subst hfin
            clear h5
            go_wp2_with fail
            go_ret2
            exact ⟨_, rfl, hrow.sl.mono (fun k h _ => by have h2 : w.heap.size + 1 ≤ k := h; show w.heap.size ≤ k; omega), hb⟩
      · rw [if_pos q4]
        have q5 : (e1 != 0) = true := by rw [bne_iff_ne]; exact q4
        go_enter Tryz.func200, Tryz.ntmps200
        go_wp2_with (first
          | (go_at_call 155; (with_reducible refine (hg1 _ ?_).mono ?_); exact (by repeat (first | assumption | exact Below.refl _ _ | with_reducible refine bset ?_ (by simp) _ | with_reducible refine balloc ?_ _ | with_reducible refine bdrew ?_ | with_reducible refine bdrewN ?_ _ | with_reducible refine bstep ?_ (by assumption))); clear hg1; rintro e w1 ⟨v1, rfl, hv1, hb1⟩; obtain ⟨A5, c5', B5, d5, rfl, hA5⟩ := hv1.form; clear hA5; have hbox := bblock (blast w _ _ rfl) hb1; have t0 := bcellAt hbox 0 rfl; have t1 := bcellAt hbox 1 rfl; have t2 := bcellAt hbox 2 rfl; have t3 := bcellAt hbox 3 rfl; have t4 := bcellAt hbox 4 rfl; have lt1 := blockLt hbox; have hbw := bstep (balloc (brefl w) _) hb1)
          | (go_at_call 155; (with_reducible refine (hg2 _ ?_).mono ?_); exact (by repeat (first | assumption | exact Below.refl _ _ | with_reducible refine bset ?_ (by simp) _ | with_reducible refine balloc ?_ _ | with_reducible refine bdrew ?_ | with_reducible refine bdrewN ?_ _ | with_reducible refine bstep ?_ (by assumption))); clear hg2; rintro e w2 ⟨v2, rfl, hv2, hb2⟩; obtain ⟨A6, c6, B6, d6, rfl, hA6⟩ := hv2.form; clear hA6; have nbox := bblock (blast w1 _ _ rfl) hb2; have n0 := bcellAt nbox 0 rfl; have n1 := bcellAt nbox 1 rfl; have n2 := bcellAt nbox 2 rfl; have lt2 := blockLt nbox; have hbw2 := bstep (balloc hbw _) hb2; replace hbox := bblock (bblock_alloc hbox _) hb2; clear t0 t1 t2 t3 t4)
          | (go_at_call 182; (refine (hreg _ (w1.heap.size + 1 ≤ ·) (w.heap.size ≤ ·) _ _ ?_ ?_).mono ?_); exact ((hv2.below (balloc (brefl _) _)).mono fun k h _ => by simpa using h); exact ((hv1.below (balloc (bstep (balloc (brefl w1) _) hb2) _)).mono fun k h _ => by simp at h; omega); clear hreg; rintro e w3 ⟨v3, rfl, hr3, hb3⟩; obtain ⟨A7, c7, rfl, hc7, hl7, hA7⟩ := hr3.form; clear hA7; have hbw3 := bstep (balloc hbw2 _) hb3; have hbox3 := bblock (bblock_alloc hbox _) hb3))
        go_ret2
        exact ⟨_, rfl, Sl.nil 0 none, (by repeat (first | assumption | exact Below.refl _ _ | with_reducible refine bset ?_ (by simp) _ | with_reducible refine balloc ?_ _ | with_reducible refine bdrew ?_ | with_reducible refine bdrewN ?_ _ | with_reducible refine bstep ?_ (by assumption)))⟩
  · rw [if_pos q0]
    have q3 : (e0 != 0) = true := by rw [bne_iff_ne]; exact q0
    clear hg0
    go_enter Tryz.func200, Tryz.ntmps200
    go_wp2_with (first
      | (go_at_call 155; refine (hg1 _ (by repeat (first | assumption | exact Below.refl _ _ | with_reducible refine bset ?_ (by simp) _ | with_reducible refine balloc ?_ _ | with_reducible refine bdrew ?_ | with_reducible refine bdrewN ?_ _ | with_reducible refine bstep ?_ (by assumption)))).mono ?_; clear hg1; rintro e w1 ⟨v1, rfl, hv1, hb1⟩; obtain ⟨A5, c5, B5, d5, rfl, hA5⟩ := hv1.form))
    go_ret2
    exact ⟨_, rfl, Sl.nil 0 none, (by repeat (first | assumption | exact Below.refl _ _ | with_reducible refine bset ?_ (by simp) _ | with_reducible refine balloc ?_ _ | with_reducible refine bdrew ?_ | with_reducible refine bdrewN ?_ _ | with_reducible refine bstep ?_ (by assumption)))⟩
end Go.Proofs.YtdfknlhfdbbogaaGreatDoor
