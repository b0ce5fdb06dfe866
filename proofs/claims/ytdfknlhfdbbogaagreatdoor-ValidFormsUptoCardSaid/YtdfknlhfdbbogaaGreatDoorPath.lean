/-
  path: All, Path. No condition.
-/
import Derived.Test.YtdfknlhfdbbogaaGreatDoorAll
import Derived.Test.YtdfknlhfdbbogaaGreatDoorIndex
namespace Go.Proofs.YtdfknlhfdbbogaaGreatDoor
open Go.RowKit
set_option linter.unusedSimpArgs false
set_option linter.unusedVariables false
theorem all69_walk (t : Tr) (hsz : t.root.size ≤ 536870912) (w : World) (ok : Nat → Prop) (v : Value) (hv : TrV w ok v t) :
    Calls Tryz.prog 69 #[v] w fun e w' => ∃ v', e = .returned v' ∧ Own (tSl tInt) 79 w' w.heap.size (w.heap.size ≤ ·) v' (allN [] t.root) ∧ Below w.heap.size w w' := by
  obtain ⟨vr, vp, vk, rfl, h0, h00, h1, h2, h3⟩ := hv
  have hn := TrV.root (t := t) h2 h3
  obtain ⟨A1, c1, rfl, hc1, hl1, ha1⟩ := h1
  obtain ⟨A2, c2, rfl, hc2, hl2, ha2⟩ := h2
  obtain ⟨A3, c3, rfl, hc3, hl3, ha3⟩ := h3
  have hall := fun w1 (h : Below w.heap.size w w1) => all153_walk t.root (by omega) [] w1 ok (fun _ => False) _ (.slice none 0 0) (hn.below h) (Sl.nil 0 none) (by simp; omega)
  go_enter Tryz.func69, Tryz.ntmps69
  go_wp2_with (first
    | (go_at_call 153; refine (hall _ (by repeat (first | assumption | exact Below.refl _ _ | with_reducible refine bset ?_ (by simp) _ | with_reducible refine balloc ?_ _ | with_reducible refine bdrew ?_ | with_reducible refine bdrewN ?_ _ | with_reducible refine bstep ?_ (by assumption)))).mono ?_; clear hall; rintro e w1 ⟨v1, rfl, hr1, hb1⟩))
  go_ret
  refine ⟨_, rfl, hr1.mono (by simp) (fun k h _ => ?_), (by repeat (first | assumption | exact Below.refl _ _ | with_reducible refine bset ?_ (by simp) _ | with_reducible refine balloc ?_ _ | with_reducible refine bdrew ?_ | with_reducible refine bdrewN ?_ _ | with_reducible refine bstep ?_ (by assumption)))⟩
  rcases h with ⟨h, _⟩ | h
  · exact h.elim
  · simp at h; show w.heap.size ≤ k; omega
theorem downN_mid {n r : Nd} {l : List Int} (h : downN n l = some r) (k : Nat) : ∃ m, downN n (l.take k) = some m := by
  rw [← List.take_append_drop k l, downN_append] at h
  cases h2 : downN n (l.take k) with
  | none => rw [h2] at h; cases h
  | some m => exact ⟨m, rfl⟩
theorem downN_at {n r m : Nd} {l : List Int} {k : Nat} {x : Int} (h : downN n l = some r) (hm : downN n (l.take k) = some m) (hx : l[k]? = some x) : ∃ j : Nat, x = j ∧ j < m.kids.length := by
  rcases Classical.em (0 ≤ x ∧ x < m.kids.length) with hin | hin
  · obtain ⟨j, rfl⟩ := Int.eq_ofNat_of_zero_le hin.1
    exact ⟨j, rfl, by omega⟩
  · rw [downN_none hx hm hin] at h; cases h
theorem pathL_snoc {n m : Nd} {l : List Int} {j : Nat} {y : Nd} (h : downN n l = some m) (hy : m.kids[j]? = some y) : pathL n (l ++ [(j : Int)]) = pathL n l ++ 47 :: y.name.data.toList := by
  induction l generalizing n with
  | nil => simp only [downN] at h; injection h with h; subst h; simp [pathL, hy]
  | cons a r ih =>
    rw [downN] at h
    split at h
    · cases hk : n.kids[a.toNat]? with
      | none => rw [hk] at h; cases h
      | some z => rw [hk] at h; simp only [List.cons_append, pathL, hk]; rw [ih h]; simp
    · cases h
theorem str_join (l : List UInt8) (s : ByteArray) : (⟨l.toArray⟩ : ByteArray) ++ ((⟨#[47]⟩ : ByteArray) ++ s) = ⟨(l ++ 47 :: s.data.toList).toArray⟩ := by
  apply letters_inj
  simp
theorem pathL_le {n m : Nd} {l : List Int} (h : downN n l = some m) : (pathL n l).length + n.name.size ≤ l.length + n.size := by
  induction l generalizing n with
  | nil => have := Nd.size_eq n; simp [pathL]; omega
  | cons a r ih =>
    rw [downN] at h
    split at h
    · cases hk : n.kids[a.toNat]? with
      | none => rw [hk] at h; cases h
      | some z =>
        rw [hk] at h
        have h1 := ih h
        have h2 := Nd.size_eq n
        have h3 := Nd.sizes_mem (List.mem_of_getElem? hk)
        have h5 := blen z.name
        simp only [pathL, hk, List.length_cons, List.length_append]
        omega
    · cases h
set_option maxRecDepth 100000 in
theorem path_walk (t : Tr) (hsz : t.root.size ≤ 536870912) (place : List Int) (w : World) (ok okp : Nat → Prop) (v pv : Value) (hv : TrV w ok v t) (hp : Sl tInt w okp pv place) :
    Calls Tryz.prog 154 #[v, pv] w fun e w' => e = .returned (.tuple #[.string (pathM t place).1, .int .i64 (pathM t place).2]) ∧ Below w.heap.size w w' := by
  have hget := fun w1 (h : Below w.heap.size w w1) => get_walk t (by omega) place w1 (fun k => ok k ∨ okp k) _ _ ((hv.mono fun k h _ => Or.inl h).below h) ((hp.mono fun k h _ => Or.inr h).below h)
  obtain ⟨vr, vp, vk, rfl, h0, h00, h1, h2, h3⟩ := hv
  have hn := TrV.root (t := t) h2 h3
  obtain ⟨A1, c1, rfl, hc1, hl1, ha1⟩ := h1
  obtain ⟨A2, c2, rfl, hc2, hl2, ha2⟩ := h2
  obtain ⟨A3, c3, rfl, hc3, hl3, ha3⟩ := h3
  obtain ⟨A4, c4, rfl, hc4, hl4, ha4⟩ := hp
  have hd : pathM t place = if (getN t place).2 ≠ 0 then (⟨#[]⟩, (getN t place).2) else if place = [] then (slash, 0) else (⟨(pathL t.root place).toArray⟩, 0) := rfl
  have hs : slash = ⟨#[47]⟩ := rfl
  rw [hd, hs]
  clear hd hs
  obtain ⟨m0, e0, hg0⟩ : ∃ m0 e0, getN t place = (m0, e0) := ⟨_, _, rfl⟩
  rw [hg0] at hget ⊢
  simp only at hget ⊢
  by_cases g1 : e0 = 0
  · subst g1
    rw [if_neg (by simp)]
    have hdown : downN t.root place = some m0 := by
      unfold getN at hg0
      split at hg0
      · injection hg0 with h1 h2; cases h2
      · cases hdn : downN t.root place with
        | none => rw [hdn] at hg0; injection hg0 with h1 h2; cases h2
        | some z => rw [hdn] at hg0; injection hg0 with h1 h2; rw [h1]
    have hplen : place.length ≤ 16 := by
      unfold getN at hg0
      split at hg0
      · injection hg0 with h1 h2; cases h2
      · omega
    clear hg0
    by_cases q1 : place = []
    · rw [if_pos q1]
      have q2 : ((place.length : Int) == 0) = true := by rw [q1]; rfl
      clear q1 hdown
      go_enter Tryz.func154, Tryz.ntmps154
      go_wp2_with (first
        | (go_at_call 155; refine (hget _ (by repeat (first | assumption | exact Below.refl _ _ | with_reducible refine bset ?_ (by simp) _ | with_reducible refine balloc ?_ _ | with_reducible refine bdrew ?_ | with_reducible refine bdrewN ?_ _ | with_reducible refine bstep ?_ (by assumption)))).mono ?_; clear hget; rintro e w1 ⟨v1, rfl, hv1, hb1⟩; obtain ⟨A5, c5, B5, d5, rfl, hA5⟩ := hv1.form))
      go_ret2
      exact ⟨rfl, (by repeat (first | assumption | exact Below.refl _ _ | with_reducible refine bset ?_ (by simp) _ | with_reducible refine balloc ?_ _ | with_reducible refine bdrew ?_ | with_reducible refine bdrewN ?_ _ | with_reducible refine bstep ?_ (by assumption)))⟩
    · rw [if_neg q1]
      have hlen : 0 < place.length := by rcases place with _ | _; exact absurd rfl q1; simp
      have q2 : ((place.length : Int) == 0) = false := by rw [beq_eq_false_iff_ne]; omega
      have HD := Lib.hid hdown
      clear q1 hdown
      have hrs : t.root.size ≤ 536870912 := hsz
      go_enter Tryz.func154, Tryz.ntmps154
      go_wp2_with (first
        | (go_at_call 155; refine (hget _ (by repeat (first | assumption | exact Below.refl _ _ | with_reducible refine bset ?_ (by simp) _ | with_reducible refine balloc ?_ _ | with_reducible refine bdrew ?_ | with_reducible refine bdrewN ?_ _ | with_reducible refine bstep ?_ (by assumption)))).mono ?_; clear hget; rintro e w1 ⟨v1, rfl, hv1, hb1⟩; obtain ⟨A5, c5, B5, d5, rfl, hA5⟩ := hv1.form; clear hA5; have hbox := bblock (blast w _ _ rfl) hb1; have t2 := bcellAt hbox 2 rfl; have t3 := bcellAt hbox 3 rfl; have t4 := bcellAt hbox 4 rfl; have lt1 := blockLt hbox; have hbw := bstep (balloc (brefl w) _) hb1))
      clear hbox
      go_loopw [9, 28] (fun sv i wr => ∃ (k : Nat) (m : Nd) (Am : Option Addr) (cm : Nat) (Bm : Option Addr) (dm : Nat), k ≤ place.length ∧ i = .int .i64 k ∧ sv = .string ⟨(pathL t.root (place.take k)).toArray⟩ ∧ downN t.root (place.take k) = some m ∧ NdV w ok (.agg #[.string m.name, .slice Am m.props.length cm, .slice Bm m.kids.length dm]) m ∧
        wr.heap[w1.heap.size + 1]? = some (.cells #[.string m.name, .slice Am m.props.length cm, .slice Bm m.kids.length dm] 32 (0, 0)) ∧ Below w.heap.size w wr) (fun _ i _ => place.length - (intOf i).toNat)
      case atStart => exact ⟨0, t.root, A2, c2, A3, c3, by omega, rfl, rfl, rfl, hn, blast _ _ _ (by simp), (by repeat (first | assumption | exact Below.refl _ _ | with_reducible refine bset ?_ (by simp) _ | with_reducible refine balloc ?_ _ | with_reducible refine bdrew ?_ | with_reducible refine bdrewN ?_ _ | with_reducible refine bstep ?_ (by assumption)))⟩
      case round =>
        clear t2 t3 t4 hbw hb1
        obtain ⟨k, m, Am, cm, Bm, dm, hk, rfl, rfl, hdm, hmv, hbm, hb⟩ := hrel
        by_cases hkl : k < place.length
        · have hx : place[k]? = some place[k] := List.getElem?_eq_getElem hkl
          obtain ⟨x, hxe⟩ : ∃ x, x = place[k] := ⟨_, rfl⟩
          rw [← hxe] at hx
          obtain ⟨b, off, rfl, hob, hlb, hc0, hlo, hhi⟩ := (ha4.below hb).num_at hx
          obtain ⟨j, rfl, hj⟩ := downN_at HD.out hdm hx
          have hy : m.kids[j]? = some m.kids[j] := List.getElem?_eq_getElem hj
          have hnext : downN t.root (place.take (k + 1)) = some m.kids[j] := by rw [Nd.take_snoc hx, downN_snoc hdm, downN_one hj]
          have hpl : pathL t.root (place.take (k + 1)) = pathL t.root (place.take k) ++ 47 :: m.kids[j].name.data.toList := by rw [Nd.take_snoc hx, pathL_snoc hdm hy]
          obtain ⟨Am', cm', Bm', dm', he, hm1, hm2, hm3, hm4, hm5, hm6⟩ := hmv.form
          have he2 : Am = Am' ∧ cm = cm' ∧ Bm = Bm' ∧ dm = dm' := by simpa [and_assoc] using he
          obtain ⟨rfl, rfl, rfl, rfl⟩ := he2
          obtain ⟨y, hye⟩ : ∃ y, y = m.kids[j] := ⟨_, rfl⟩
          rw [← hye] at hy hnext hpl
          obtain ⟨b2, off2, A7, c7, B8, c8, rfl, hob2, hlb3, r0, r1, r2, hny⟩ := hm6.node_at hy
          have r0 := bkeep hb r0
          have r1 := bkeep hb r1
          have r2 := bkeep hb r2
          have sj := str_join (pathL t.root (place.take k)) y.name
          rw [← hpl] at sj
          have SJ := Lib.hid sj
          have HX := Lib.hid hnext
          have f2 := bcellAt (v := .slice (some ⟨b2, off2, none⟩) m.kids.length dm) hbm 2 rfl
          have f0 := bcellAt hbm 0 rfl
          have f1 := bcellAt hbm 1 rfl
          have y0 := bfrozenAt hbm 0
          have y1 := bfrozenAt hbm 1
          have y2 := bfrozenAt hbm 2
          have lt3 := blockLt hbm
          have HB := Lib.hid hbm
          have hjlt : (j : Int) < m.kids.length := by omega
          have hb1 : (pathL t.root (place.take k)).length ≤ 1073741824 := by have h9 := pathL_le hdm; rw [List.length_take] at h9; omega
          have hb2 : y.name.size ≤ 1073741824 := by have h9 := downN_size HX.out; have h8 := Nd.size_eq y; omega
          rw [← bsize] at hb1
          obtain ⟨sk, hsk⟩ : ∃ sk : ByteArray, sk = ⟨(pathL t.root (place.take k)).toArray⟩ := ⟨_, rfl⟩
          rw [← hsk] at sj SJ hb1 ⊢
          clear sj hnext hpl hye hy hx hxe hbm he hdm hsk hm6 hm3 hlo hhi
          go_wp2_with fail
          go_roundw
          case rel => exact ⟨k + 1, y, A7, c7, B8, c8, by omega, by go_num, by rw [← SJ.out], HX.out, hny, bset3At HB.out _ _ _, bset3 hb (by omega) _ _ _⟩
          case measure => simp [intOf]; omega
        · obtain rfl : k = place.length := by omega
          rw [List.take_length]
          go_wp2_with fail
          go_ret2
          exact ⟨rfl, hb⟩
  · rw [if_pos g1]
    have g3 : (e0 != 0) = true := by rw [bne_iff_ne]; exact g1
    clear hg0
    go_enter Tryz.func154, Tryz.ntmps154
    go_wp2_with (first
      | (go_at_call 155; refine (hget _ (by repeat (first | assumption | exact Below.refl _ _ | with_reducible refine bset ?_ (by simp) _ | with_reducible refine balloc ?_ _ | with_reducible refine bdrew ?_ | with_reducible refine bdrewN ?_ _ | with_reducible refine bstep ?_ (by assumption)))).mono ?_; clear hget; rintro e w1 ⟨v1, rfl, hv1, hb1⟩; obtain ⟨A5, c5, B5, d5, rfl, hA5⟩ := hv1.form))
    go_ret2
    exact ⟨rfl, (by repeat (first | assumption | exact Below.refl _ _ | with_reducible refine bset ?_ (by simp) _ | with_reducible refine balloc ?_ _ | with_reducible refine bdrew ?_ | with_reducible refine bdrewN ?_ _ | with_reducible refine bstep ?_ (by assumption)))⟩
end Go.Proofs.YtdfknlhfdbbogaaGreatDoor
