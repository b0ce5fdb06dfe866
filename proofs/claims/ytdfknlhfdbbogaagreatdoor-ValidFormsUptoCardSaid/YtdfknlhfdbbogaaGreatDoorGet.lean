/-
  path.Get: the node at a place. No condition.
-/
import Derived.Test.YtdfknlhfdbbogaaGreatDoorCloneNode
namespace Go.Proofs.YtdfknlhfdbbogaaGreatDoor
open Go.RowKit
set_option linter.unusedSimpArgs false
set_option linter.unusedVariables false
/-- The node that a place leads to. -/
def downN : Nd → List Int → Option Nd
  | n, [] => some n
  | n, k :: r => if 0 ≤ k ∧ k < n.kids.length then (match n.kids[k.toNat]? with | some x => downN x r | none => none) else none
def Nd.zero : Nd := .mk ⟨#[]⟩ [] []
def getN (t : Tr) (place : List Int) : Nd × Int := if 16 < place.length then (Nd.zero, 6) else match downN t.root place with | some n => (n, 0) | none => (Nd.zero, 8)
theorem downN_snoc {n m : Nd} {l : List Int} {x : Int} (h : downN n l = some m) : downN n (l ++ [x]) = downN m [x] := by
  induction l generalizing n with
  | nil => simp only [downN] at h; injection h with h; subst h; rfl
  | cons a r ih =>
    rw [List.cons_append, downN]
    rw [downN] at h
    split at h
    · rename_i hc
      rw [if_pos hc]
      cases hk : n.kids[a.toNat]? with
      | none => rw [hk] at h; cases h
      | some y => rw [hk] at h; exact ih h
    · cases h
theorem downN_one {m : Nd} {j : Nat} (h : j < m.kids.length) : downN m [(j : Int)] = some m.kids[j] := by
  rw [downN, if_pos (by omega)]
  simp [h, downN]
theorem downN_none {n m : Nd} {l : List Int} {k : Nat} {x : Int} (hx : l[k]? = some x) (h : downN n (l.take k) = some m) (hb : ¬ (0 ≤ x ∧ x < m.kids.length)) : downN n l = none := by
  induction l generalizing n k with
  | nil => simp at hx
  | cons a r ih =>
    rcases k with _ | k
    · simp at hx
      simp only [List.take_zero, downN] at h
      injection h with h
      subst h hx
      rw [downN, if_neg hb]
    · rw [List.take_succ_cons, downN] at h
      rw [downN]
      split at h
      · rename_i hc
        rw [if_pos hc]
        cases hk : n.kids[a.toNat]? with
        | none => rfl
        | some y => rw [hk] at h; exact ih (by simpa using hx) h
      · cases h
theorem ndv_zero {w : World} {ok : Nat → Prop} : NdV w ok (.agg #[.string ⟨#[]⟩, .slice none 0 0, .slice none 0 0]) Nd.zero := ⟨_, _, rfl, Sl.nil 0 none, Sl.nil 0 none⟩
theorem downN_size {n m : Nd} {l : List Int} (h : downN n l = some m) : m.size ≤ n.size := by
  induction l generalizing n with
  | nil => simp only [downN] at h; injection h with h; subst h; exact Nat.le_refl _
  | cons a r ih =>
    rw [downN] at h
    split at h
    · cases hk : n.kids[a.toNat]? with
      | none => rw [hk] at h; cases h
      | some y =>
        rw [hk] at h
        have := ih h
        have := Nd.kid_size (List.mem_of_getElem? hk)
        omega
    · cases h
set_option maxRecDepth 100000 in
theorem get_walk (t : Tr) (hsz : t.root.size ≤ 1073741824) (place : List Int) (w : World) (ok : Nat → Prop) (v pv : Value) (hv : TrV w ok v t) (hp : Sl tInt w ok pv place) :
    Calls Tryz.prog 155 #[v, pv] w fun e w' => ∃ v', e = .returned (.tuple #[v', .int .i64 (getN t place).2]) ∧ NdV w' (w.heap.size ≤ ·) v' (getN t place).1 ∧ Below w.heap.size w w' := by
  obtain ⟨vr, vp, vk, rfl, h0, h00, h1, h2, h3⟩ := hv
  have hn := TrV.root (t := t) h2 h3
  obtain ⟨A1, c1, rfl, hc1, hl1, ha1⟩ := h1
  obtain ⟨A2, c2, rfl, hc2, hl2, ha2⟩ := h2
  obtain ⟨A3, c3, rfl, hc3, hl3, ha3⟩ := h3
  obtain ⟨A4, c4, rfl, hc4, hl4, ha4⟩ := hp
  obtain ⟨E, F, hE⟩ : ∃ E F, getN t place = (E, F) := ⟨_, _, rfl⟩
  rw [hE]
  have hE1 := Lib.hid hE
  clear hE
  by_cases hdeep : 16 < place.length
  · have hF : E = Nd.zero ∧ F = 6 := by have := hE1.out; unfold getN at this; rw [if_pos hdeep] at this; injection this with a b; exact ⟨a.symm, b.symm⟩
    obtain ⟨rfl, rfl⟩ := hF
    go_enter Tryz.func155, Tryz.ntmps155
    go_wp2_with fail
    exact bodyPost_ret (v := .tuple #[.agg #[.string ⟨#[]⟩, .slice none 0 0, .slice none 0 0], .int .i64 6]) (by simp [results, Tryz.results155, go_sem]) rfl ⟨_, rfl, ndv_zero, (by repeat (first | assumption | exact Below.refl _ _ | with_reducible refine bset ?_ (by simp) _ | with_reducible refine balloc ?_ _ | with_reducible refine bdrew ?_ | with_reducible refine bdrewN ?_ _ | with_reducible refine bstep ?_ (by assumption)))⟩
  · go_enter Tryz.func155, Tryz.ntmps155
    go_wp2_with fail
    go_loopw [17] (fun i wr => ∃ (k : Nat) (m : Nd) (Am : Option Addr) (cm : Nat) (Ak : Option Addr) (ck : Nat), k ≤ place.length ∧ i = .int .i64 k ∧ downN t.root (place.take k) = some m ∧ NdV w ok (.agg #[.string m.name, .slice Am m.props.length cm, .slice Ak m.kids.length ck]) m ∧
      wr.heap[w.heap.size + 2]? = some (.cells #[.string m.name, .slice Am m.props.length cm, .slice Ak m.kids.length ck] 32 (0, 0)) ∧
      wr.heap[w.heap.size + 1]? = some (.cells #[.string ⟨#[]⟩, .slice none 0 0, .slice none 0 0] 32 (0, 0)) ∧ Below w.heap.size w wr) (fun i _ => place.length - (intOf i).toNat)
    case atStart => exact ⟨0, t.root, A2, c2, A3, c3, by omega, rfl, rfl, hn, (by repeat (first | assumption | exact blast _ _ _ (by simp) | with_reducible refine bblock_alloc ?_ _)), (by repeat (first | assumption | exact blast _ _ _ (by simp) | with_reducible refine bblock_alloc ?_ _)), (by repeat (first | assumption | exact Below.refl _ _ | with_reducible refine bset ?_ (by simp) _ | with_reducible refine balloc ?_ _ | with_reducible refine bdrew ?_ | with_reducible refine bdrewN ?_ _ | with_reducible refine bstep ?_ (by assumption)))⟩
    case round =>
      obtain ⟨k, m, Am, cm, Ak, ck, hk, rfl, hdown, hm, hb3, hb2, hb⟩ := hrel
      have hd1 := Lib.hid hdown
      clear hdown
      by_cases hkl : k < place.length
      · have hx : place[k]? = some place[k] := List.getElem?_eq_getElem hkl
        obtain ⟨x, hxe⟩ : ∃ x, x = place[k] := ⟨_, rfl⟩
        rw [← hxe] at hx
        clear hxe
        obtain ⟨b, off, rfl, hob, hlb, hc0, hlo, hhi⟩ := (ha4.below hb).num_at hx
        obtain ⟨Am', cm', Ak', ck', he, hm1, hm2, hm3, hm4, hm5, hm6⟩ := hm.form
        have he2 : Am = Am' ∧ cm = cm' ∧ Ak = Ak' ∧ ck = ck' := by simpa [and_assoc] using he
        obtain ⟨rfl, rfl, rfl, rfl⟩ := he2
        clear he
        have f2 := bcellAt (v := .slice Ak m.kids.length ck) hb3 2 rfl
        have q0 := bfrozenAt hb3 0
        have q1 := bfrozenAt hb3 1
        have q2 := bfrozenAt hb3 2
        have p0 := bcellAt (v := .string ⟨#[]⟩) hb2 0 rfl
        have p1 := bcellAt (v := .slice none 0 0) hb2 1 rfl
        have p2 := bcellAt (v := .slice none 0 0) hb2 2 rfl
        have y0 := bfrozenAt hb2 0
        have y1 := bfrozenAt hb2 1
        have y2 := bfrozenAt hb2 2
        have lt3 := blockLt hb3
        have lt2 := blockLt hb2
        have g0 := bcellAt (v := .string m.name) hb3 0 rfl
        have g1 := bcellAt (v := .slice Am m.props.length cm) hb3 1 rfl
        have H3 := Lib.hid hb3
        have H2 := Lib.hid hb2
        clear hb3 hb2
        have hF := bsetAt (bsetAt (bsetAt H2.out 0 (.string ⟨#[]⟩)) 1 (.slice none 0 0)) 2 (.slice none 0 0)
        have z0 := bcellAt (v := .string ⟨#[]⟩) hF 0 (by rfl)
        have z1 := bcellAt (v := .slice none 0 0) hF 1 (by rfl)
        have z2 := bcellAt (v := .slice none 0 0) hF 2 (by rfl)
        clear hF
        by_cases hin : 0 ≤ x ∧ x < m.kids.length
        · obtain ⟨j, rfl⟩ := Int.eq_ofNat_of_zero_le hin.1
          have hj : j < m.kids.length := by omega
          have hy : m.kids[j]? = some m.kids[j] := List.getElem?_eq_getElem hj
          have hnext : downN t.root (place.take (k + 1)) = some m.kids[j] := by rw [Nd.take_snoc hx, downN_snoc hd1.out, downN_one hj]
          obtain ⟨y, hye⟩ : ∃ y, y = m.kids[j] := ⟨_, rfl⟩
          rw [← hye] at hy hnext
          clear hye
          obtain ⟨b2, off2, A7, c7, A8, c8, rfl, hob2, hlb3, r0, r1, r2, hny⟩ := hm6.node_at hy
          have r0 := bkeep hb r0
          have r1 := bkeep hb r1
          have r2 := bkeep hb r2
          clear hin
          have hn2 := Lib.hid hnext
          clear hnext
          have hny2 := Lib.hid hny
          clear z0 z1 z2 p0 p1 p2 y0 y1 y2 hy hm hny hx hm3 hm6 hn hlo hhi
          go_upto_region 9 with fail
          clear hc0
          have hjlt : (j : Int) < m.kids.length := by omega
          go_wp
          go_roundw
          case rel => exact ⟨k + 1, y, A7, c7, A8, c8, by omega, by go_num, hn2.out, hny2.out, bsetAt (bsetAt (bsetAt H3.out 0 _) 1 _) 2 _, bsetFar (bsetFar (bsetFar H2.out (by simp) _) (by simp) _) (by simp) _, bset (bset (bset hb (by simp; omega) _) (by simp; omega) _) (by simp; omega) _⟩
          case measure => simp [intOf]; omega
        · have hF : E = Nd.zero ∧ F = 8 := by have := hE1.out; unfold getN at this; rw [if_neg hdeep, downN_none hx hd1.out hin] at this; injection this with a b; exact ⟨a.symm, b.symm⟩
          obtain ⟨rfl, rfl⟩ := hF
          by_cases hneg : x < 0
          · go_wp2_with fail
            exact bodyPost_ret (v := .tuple #[.agg #[.string ⟨#[]⟩, .slice none 0 0, .slice none 0 0], .int .i64 8]) (by simp [results, Tryz.results155, go_sem, z0, z1, z2]) rfl ⟨_, rfl, ndv_zero, bset (bset (bset hb (by simp) _) (by simp) _) (by simp) _⟩
          · have hge : (m.kids.length : Int) ≤ x := by omega
            go_wp2_with fail
            exact bodyPost_ret (v := .tuple #[.agg #[.string ⟨#[]⟩, .slice none 0 0, .slice none 0 0], .int .i64 8]) (by simp [results, Tryz.results155, go_sem, z0, z1, z2]) rfl ⟨_, rfl, ndv_zero, bset (bset (bset hb (by simp) _) (by simp) _) (by simp) _⟩
      · obtain rfl : k = place.length := by omega
        have hd2 := hd1.out
        rw [List.take_length] at hd2
        have hF : E = m ∧ F = 0 := by have := hE1.out; unfold getN at this; rw [if_neg hdeep, hd2] at this; injection this with a b; exact ⟨a.symm, b.symm⟩
        have hms := downN_size hd2
        obtain ⟨rfl, rfl⟩ := hF
        have g0 := bcellAt (v := .string E.name) hb3 0 rfl
        have g1 := bcellAt (v := .slice Am E.props.length cm) hb3 1 rfl
        have g2 := bcellAt (v := .slice Ak E.kids.length ck) hb3 2 rfl
        have H2 := Lib.hid hb2
        have lt2 := blockLt hb2
        clear hd2 hb3 hb2
        go_wp2_with (first | (go_at_call 179; refine (cloneNode_walk E (by omega) _ ok _ (hm.below hb)).mono ?_; rintro e w1 ⟨v1, rfl, hv1, hb1⟩; obtain ⟨A5, c5, A6, c6, rfl, hA5⟩ := hv1.form; clear hA5; have e2 := bblock H2.out hb1; have p0 := bcellAt (v := .string ⟨#[]⟩) e2 0 rfl; have p1 := bcellAt (v := .slice none 0 0) e2 1 rfl; have p2 := bcellAt (v := .slice none 0 0) e2 2 rfl; have y0 := bfrozenAt e2 0; have y1 := bfrozenAt e2 1; have y2 := bfrozenAt e2 2; have lt4 := blockLt e2; have HE := Lib.hid e2; clear e2 g0 g1 g2))
        have hF := bsetAt (bsetAt (bsetAt HE.out 0 (.string E.name)) 1 (.slice A5 E.props.length c5)) 2 (.slice A6 E.kids.length c6)
        have z0 := bcellAt (v := .string E.name) hF 0 (by rfl)
        have z1 := bcellAt (v := .slice A5 E.props.length c5) hF 1 (by rfl)
        have z2 := bcellAt (v := .slice A6 E.kids.length c6) hF 2 (by rfl)
        refine bodyPost_ret (v := .tuple #[.agg #[.string E.name, .slice A5 E.props.length c5, .slice A6 E.kids.length c6], .int .i64 0]) (by simp [results, Tryz.results155, go_sem, z0, z1, z2]) rfl ⟨_, rfl, (hv1.move fun k h hlt => ?_).mono fun k h _ => ?_, bset (bset (bset (bstep hb hb1) (by simp) _) (by simp) _) (by simp) _⟩
        · have : wr.heap.size ≤ k := h
          rw [Below.heap_setCell _ _ _ _ (by simp; omega), Below.heap_setCell _ _ _ _ (by simp; omega), Below.heap_setCell _ _ _ _ (by simp; omega)]
        · have : wr.heap.size ≤ k := h
          omega
end Go.Proofs.YtdfknlhfdbbogaaGreatDoor
