/-
  A node's copy in new memory. No condition.
-/
import Derived.Test.YtdfknlhfdbbogaaGreatDoorClone
import Derived.Deep.RegionLaw
namespace Go.Proofs.YtdfknlhfdbbogaaGreatDoor
open Go.RowKit
set_option linter.unusedSimpArgs false
set_option linter.unusedVariables false
theorem row_set {α : Type} {T : Ty α} {e : TypeId} {w : World} {B : Nat} {v : Value} {xs : List α} (h : Row T e w B v xs) {p : Addr} (hp : p.block < B) (u : Value) : Row T e (w.setCell p u) B v xs :=
  h.move fun k hk _ => Below.heap_setCell _ _ _ _ (by have : B ≤ k := hk; omega)
theorem ggrown {w W W' : World} {row row' : Option Nat} (h : w.grownBy W row) (k : W.grownBy W' row') (hr : ∀ j, row' = some j → w.heap.size ≤ j) : w.grownBy W' row :=
  ⟨k.os.trans h.os, k.tape.trans h.tape, k.output.trans h.output, Nat.le_trans h.size k.size, fun i hi hne => (k.block i (Nat.lt_of_lt_of_le hi h.size) (fun e => by have := hr i e.symm; omega)).trans (h.block i hi hne)⟩
theorem NdV.repN {w : World} {ok : Nat → Prop} {n : Nd} {a b c : Value} (h : NdV w ok (.agg #[a, b, c]) n) : tNd.rep w ok n [a, b, c] := by
  obtain ⟨vp, vk, he, h1, h2⟩ := h
  have : #[a, b, c] = #[Value.string n.name, vp, vk] := by injection he
  simp at this
  obtain ⟨rfl, rfl, rfl⟩ := this
  exact RepN.shut h1 h2
set_option maxRecDepth 100000 in
set_option maxHeartbeats 4000000 in
theorem cloneNode_walk (n : Nd) : n.size ≤ 1073741824 → ∀ (w : World) (ok : Nat → Prop) (v : Value), NdV w ok v n →
    Calls Tryz.prog 179 #[v] w fun e w' => ∃ v', e = .returned v' ∧ NdV w' (w.heap.size ≤ ·) v' n ∧ Below w.heap.size w w' := by
  induction n using Nd.ind with
  | h n ih =>
    intro hsz w ok v hv
    obtain ⟨A2, c2, A, c, rfl, hc2, hl2, ha2, hc, hl, ha⟩ := hv.form
    have z1 := Nd.size_eq n
    have z2 := Nd.propsSize_length n.props
    have z3 := Nd.sizes_length n.kids
    go_enter Tryz.func179, Tryz.ntmps179
    go_wp2_with fail
    go_loopw [14] (fun i wr => ∃ (k : Nat) (vp : Value), k ≤ n.props.length ∧ i = .int .i64 k ∧ Row tPr 260 wr (w.heap.size + 3) vp (n.props.take k) ∧
      wr.heap[w.heap.size + 2]? = some (.cells #[.string n.name, vp, .slice none 0 0] 32 (0, 0)) ∧
      wr.heap[w.heap.size]? = some (.cells #[.string n.name, .slice A2 n.props.length c2, .slice A n.kids.length c] 32 (0, 0)) ∧
      wr.heap[w.heap.size + 1]? = some (.cells #[.string ⟨#[]⟩, .slice none 0 0, .slice none 0 0] 32 (0, 0)) ∧ Below w.heap.size w wr) (fun i _ => n.props.length - (intOf i).toNat)
    case atStart => exact ⟨0, .slice none 0 0, by omega, rfl, Own.nil, (by repeat (first | assumption | exact blast _ _ _ (by simp) | with_reducible refine bblock_alloc ?_ _)), (by repeat (first | assumption | exact blast _ _ _ (by simp) | with_reducible refine bblock_alloc ?_ _)), (by repeat (first | assumption | exact blast _ _ _ (by simp) | with_reducible refine bblock_alloc ?_ _)), (by repeat (first | assumption | exact Below.refl _ _ | with_reducible refine bset ?_ (by simp) _ | with_reducible refine balloc ?_ _ | with_reducible refine bdrew ?_ | with_reducible refine bdrewN ?_ _ | with_reducible refine bstep ?_ (by assumption)))⟩
    case round =>
      obtain ⟨k, vp, hk, rfl, hrow, hb3, hb1, hb2, hb⟩ := hrel
      by_cases hkl : k < n.props.length
      · have hx : n.props[k]? = some n.props[k] := List.getElem?_eq_getElem hkl
        obtain ⟨b, off, A3, c3, rfl, hob, hlb2, hc0, hc1, hc3, hl3, ha3⟩ := (ha2.below hb).prop_at hx
        have hps := Nd.propsSize_mem (List.getElem_mem hkl)
        have hsl : Sl tByte wr ok (.slice A3 n.props[k].2.length c3) n.props[k].2 := ⟨A3, c3, rfl, hc3, hl3, ha3⟩
        obtain ⟨x, hxe⟩ : ∃ x, x = n.props[k] := ⟨_, rfl⟩
        rw [← hxe] at hx hc0 hc1 hc3 hl3 ha3 hps hsl
        have H3 := Lib.hid hb3
        have hlt3 := blockLt hb3
        have d1 := bcellAt (v := vp) hb3 1 rfl
        clear hxe
        go_upto_block 1 with fail
        go_cut [] (fun wx => ∃ vp', Row tPr 260 wx (w.heap.size + 3) vp' (n.props.take (k + 1)) ∧
          wx.heap[w.heap.size + 2]? = some (.cells #[.string n.name, vp', .slice none 0 0] 32 (0, 0)) ∧
          wx.heap[w.heap.size]? = some (.cells #[.string n.name, .slice (some ⟨b, off, none⟩) n.props.length c2, .slice A n.kids.length c] 32 (0, 0)) ∧
          wx.heap[w.heap.size + 1]? = some (.cells #[.string ⟨#[]⟩, .slice none 0 0, .slice none 0 0] 32 (0, 0)) ∧ Below w.heap.size w wx)
        case first =>
          go_wp2_with fail
          obtain ⟨W, hW⟩ : ∃ W, W = wr.alloc (.cells #[.string x.1, .slice A3 x.2.length c3] 260) := ⟨_, rfl⟩
          rw [← hW]
          have hWb : Below wr.heap.size wr W := by rw [hW]; exact balloc (brefl _) _
          have hP : W.heap[wr.heap.size]? = some (.cells #[.string x.1, .slice A3 x.2.length c3] 260 (0, 0)) := by rw [hW]; exact blast _ _ _ rfl
          have hWs : W.heap.size = wr.heap.size + 1 := by rw [hW]; simp
          have e3 := bblock H3.out hWb
          have f0 := bcellAt hP 0 rfl
          have f1 := bcellAt hP 1 rfl
          have f2 := bcellAt (v := vp) e3 1 rfl
          have HB1 := Lib.hid (bblock hb1 hWb)
          have HB2 := Lib.hid (bblock hb2 hWb)
          clear hW d1 hc0 hc1 hb3 hb1 hb2
          have E3 := Lib.hid e3
          have HP := Lib.hid hP
          clear e3 hP
          go_region_law (first
            | (go_simp; go_at_call 274; refine (bytesClone_walk x.2 (by omega) _ ok _ (hsl.below (bdrew hWb))).mono ?_; rintro e w4 ⟨v1, rfl, hr4, hb4⟩; obtain ⟨A5, c5, rfl, hA5⟩ := hr4.form; clear hA5; have hs4 : W.heap.size ≤ w4.heap.size := hb4.size; have lt4 : w.heap.size + 2 < w4.heap.size := (by omega); have lt4b : wr.heap.size < w4.heap.size := (by omega); have g0 := bkeep (w := W.drew) hb4 f0; have g1 := bkeep (w := W.drew) hb4 f1; have g2 := bkeep (w := W.drew) hb4 f2)
            | (refine step_row1 (by rfl) elPr _ _ (by rfl) (hrow.below (balloc (bstep (bdrew hWb) hb4) _)) (by rfl) (by rfl) (blast _ _ _ (by simp)) (rep_pr (x := x) (v := .slice A5 x.2.length c5) ((hr4.sl.below (balloc (brefl _) _)).mono (fun k h hlt => ⟨by simp at h; omega, fun e => by have := (hrow.lt k e.symm).2; simp at h; omega⟩))) (by simp; omega) (by simp; omega) ?_; intro g cap w5 hrow1 hg1 hat1 hlt1; have hE5 := gblock (bblock_alloc (bblock (w := W.drew) (by exact E3.out) hb4) _) hg1 (hrow.ne (by omega)); have k5 := bcellAt (v := vp) hE5 1 rfl; have fz5 := bfrozenAt hE5 1; have lt5 := blockLt hE5; have HE5 := Lib.hid hE5; clear hE5))
          all_goals go_wp2_with fail
          all_goals go_meet
          all_goals
            rw [List.length_take, Nat.min_eq_left hk] at hrow1
            rw [← Nd.take_snoc hx] at hrow1
            exact ⟨_, row_set hrow1 (by simp) _, bsetAt HE5.out 1 _, bsetFar (gblock (bblock_alloc (bblock (w := W.drew) (by exact HB1.out) hb4) _) hg1 (hrow.ne (by omega))) (by simp; try omega) _,
              bsetFar (gblock (bblock_alloc (bblock (w := W.drew) (by exact HB2.out) hb4) _) hg1 (hrow.ne (by omega))) (by simp; try omega) _,
              bset (bgrown (bstep (bstep hb hWb) (balloc (bstep (bdrew (brefl W)) hb4) _)) hg1 (hrow.base (by omega))) (by simp; try omega) _⟩
        case rest =>
          obtain ⟨vp', hrow', hb3', hb1', hb2', hb'⟩ := hcut
          go_wp2_with fail
          go_roundw
          case rel => exact ⟨k + 1, vp', by omega, by go_num, hrow', hb3', hb1', hb2', hb'⟩
          case measure => simp [intOf]; omega
      · obtain rfl : k = n.props.length := by omega
        rw [List.take_length] at hrow
        obtain ⟨Ap, cp, rfl, hp1, hp2, hp3⟩ := hrow.form
        have hvp : Sl tPr wr (fun k => w.heap.size + 3 ≤ k ∧ k < wr.heap.size) (.slice Ap n.props.length cp) n.props := hrow.sl.mono (fun k h hlt => ⟨h, hlt⟩)
        have hlt3 := blockLt hb3
        have d1 := bcellAt hb1 2 rfl
        have H3 := Lib.hid hb3
        have H2 := Lib.hid hb2
        clear hb1 hb2 hb3 hp1 hp2 hp3 hrow
        go_wp2_with fail
        obtain ⟨W2, rfl⟩ : ∃ W2 : World, W2 = wr := ⟨_, rfl⟩
        clear d1
        go_loopw [33] (fun i wr => ∃ (k : Nat) (vk : Value), k ≤ n.kids.length ∧ i = .int .i64 k ∧ Row tNd 32 wr W2.heap.size vk (n.kids.take k) ∧
          wr.heap[w.heap.size + 2]? = some (.cells #[.string n.name, .slice Ap n.props.length cp, vk] 32 (0, 0)) ∧
          wr.heap[w.heap.size + 1]? = some (.cells #[.string ⟨#[]⟩, .slice none 0 0, .slice none 0 0] 32 (0, 0)) ∧ W2.grownBy wr (some (w.heap.size + 2)) ∧ Below w.heap.size w wr) (fun i _ => n.kids.length - (intOf i).toNat)
        case atStart => exact ⟨0, .slice none 0 0, by omega, rfl, Own.nil, H3.out, H2.out, gbelow _ (brefl _), hb⟩
        case round =>
          clear hb H3 H2
          obtain ⟨k, vk, hk, rfl, hrow, hb3, hb2, hgr, hb⟩ := hrel
          have hgs : W2.heap.size ≤ wr.heap.size := hgr.size
          by_cases hkl : k < n.kids.length
          · have hx : n.kids[k]? = some n.kids[k] := List.getElem?_eq_getElem hkl
            have hmem := List.getElem_mem hkl
            obtain ⟨b, off, A3, c3, A4, c4, rfl, hob, hlb2, hc0, hc1, hc2, hnv⟩ := (ha.below hb).node_at hx
            have hks := Nd.kid_size hmem
            obtain ⟨x, hxe⟩ : ∃ x, x = n.kids[k] := ⟨_, rfl⟩
            rw [← hxe] at hx hc0 hc1 hc2 hnv hks hmem
            clear hxe
            have E0 := Lib.hid hb3
            have hlt4 := blockLt hb3
            go_upto_block 3 with fail
            go_cut [] (fun wx => ∃ vk', Row tNd 32 wx W2.heap.size vk' (n.kids.take (k + 1)) ∧
              wx.heap[w.heap.size + 2]? = some (.cells #[.string n.name, .slice Ap n.props.length cp, vk'] 32 (0, 0)) ∧
              wx.heap[w.heap.size + 1]? = some (.cells #[.string ⟨#[]⟩, .slice none 0 0, .slice none 0 0] 32 (0, 0)) ∧ W2.grownBy wx (some (w.heap.size + 2)) ∧ Below w.heap.size w wx)
            case first =>
              go_wp2_with fail
              obtain ⟨W, hW⟩ : ∃ W, W = wr.alloc (.cells #[.string x.name, .slice A3 x.props.length c3, .slice A4 x.kids.length c4] 32) := ⟨_, rfl⟩
              rw [← hW]
              have hWb : Below wr.heap.size wr W := by rw [hW]; exact balloc (brefl _) _
              have hP : W.heap[wr.heap.size]? = some (.cells #[.string x.name, .slice A3 x.props.length c3, .slice A4 x.kids.length c4] 32 (0, 0)) := by rw [hW]; exact blast _ _ _ rfl
              have hWs : W.heap.size = wr.heap.size + 1 := by rw [hW]; simp
              have e3 := bblock E0.out hWb
              have f0 := bcellAt (v := .string x.name) hP 0 rfl
              have f1 := bcellAt (v := .slice A3 x.props.length c3) hP 1 rfl
              have f2 := bcellAt (v := .slice A4 x.kids.length c4) hP 2 rfl
              have f3 := bcellAt (v := vk) e3 2 rfl
              have HB2 := Lib.hid (bblock hb2 hWb)
              clear hW hc0 hc1 hc2 hb3 hb2
              have E3 := Lib.hid e3
              have HP := Lib.hid hP
              clear e3 hP
              go_region_law (first
                | (go_simp; go_at_call 179; refine (ih x hmem (by omega) _ ok _ (hnv.below (bdrew hWb))).mono ?_; rintro e w4 ⟨v1, rfl, hr4, hb4⟩; obtain ⟨A5, c5, A6, c6, rfl, hA5⟩ := hr4.form; clear hA5; have hs4 : W.heap.size ≤ w4.heap.size := hb4.size; have lt4 : w.heap.size + 2 < w4.heap.size := (by omega); have lt4b : wr.heap.size < w4.heap.size := (by omega); have g0 := bkeep (w := W.drew) hb4 f0; have g1 := bkeep (w := W.drew) hb4 f1; have g2 := bkeep (w := W.drew) hb4 f2; have g3 := bkeep (w := W.drew) hb4 f3)
                | (refine step_row1 (by rfl) elNd _ _ (by rfl) (hrow.below (balloc (bstep (bdrew hWb) hb4) _)) (by rfl) (by rfl) (blast _ _ _ (by simp)) (NdV.repN (n := x) (a := .string x.name) (b := .slice A5 x.props.length c5) (c := .slice A6 x.kids.length c6) ((hr4.below (balloc (brefl _) _)).mono (fun k h hlt => ⟨by simp at h; omega, fun e => by have := (hrow.lt k e.symm).2; simp at h; omega⟩))) (by simp; omega) (by simp; omega) ?_; intro g cap w5 hrow1 hg1 hat1 hlt1; have hE5 := gblock (bblock_alloc (bblock (w := W.drew) (by exact E3.out) hb4) _) hg1 (hrow.ne (by omega)); have k5 := bcellAt (v := vk) hE5 2 rfl; have fz5 := bfrozenAt hE5 2; have lt5 := blockLt hE5; have HE5 := Lib.hid hE5; clear hE5))
              all_goals go_wp2_with fail
              all_goals go_meet
              all_goals
                rw [List.length_take, Nat.min_eq_left hk] at hrow1
                rw [← Nd.take_snoc hx] at hrow1
                exact ⟨_, row_set hrow1 (by simp; omega) _, bsetAt HE5.out 2 _,
                  bsetFar (gblock (bblock_alloc (bblock (w := W.drew) (by exact HB2.out) hb4) _) hg1 (hrow.ne (by omega))) (by simp; try omega) _,
                  gset (ggrown (gtrans hgr (bstep hWb (balloc (bstep (bdrew (brefl W)) hb4) _))) hg1 (hrow.base (by omega))) rfl _,
                  bset (bgrown (bstep (bstep hb hWb) (balloc (bstep (bdrew (brefl W)) hb4) _)) hg1 (hrow.base (by omega))) (by simp; try omega) _⟩
            case rest =>
              obtain ⟨vk', hrow', hb3', hb2', hgr', hb'⟩ := hcut
              go_wp2_with fail
              go_roundw
              case rel => exact ⟨k + 1, vk', by omega, by go_num, hrow', hb3', hb2', hgr', hb'⟩
              case measure => simp [intOf]; omega
          · obtain rfl : k = n.kids.length := by omega
            rw [List.take_length] at hrow
            obtain ⟨Ak, ck, rfl, hp1, hp2, hp3⟩ := hrow.form
            have q0 := bcellAt hb3 0 rfl
            have q1 := bcellAt hb3 1 rfl
            have q2 := bcellAt hb3 2 rfl
            have y0 := bfrozenAt hb2 0
            have y1 := bfrozenAt hb2 1
            have y2 := bfrozenAt hb2 2
            have p0 := bcellAt hb2 0 rfl
            have p1 := bcellAt hb2 1 rfl
            have p2 := bcellAt hb2 2 rfl
            have ltb := blockLt hb2
            have ltb3 := blockLt hb3
            have H3 := Lib.hid hb3
            have H2 := Lib.hid hb2
            clear hb2 hb3 hp1 hp2 hp3
            go_wp2_with fail
            have hF := bsetAt (bsetAt (bsetAt H2.out 0 (.string n.name)) 1 (.slice Ap n.props.length cp)) 2 (.slice Ak n.kids.length ck)
            have r0 := bcellAt (v := .string n.name) hF 0 (by rfl)
            have r1 := bcellAt (v := .slice Ap n.props.length cp) hF 1 (by rfl)
            have r2 := bcellAt (v := .slice Ak n.kids.length ck) hF 2 (by rfl)
            refine bodyPost_ret (v := .agg #[.string n.name, .slice Ap n.props.length cp, .slice Ak n.kids.length ck]) (by simp [results, Tryz.results179, go_sem, r0, r1, r2]) rfl ⟨_, rfl, ⟨_, _, rfl, ?_, ?_⟩, ?_⟩
            · refine (hvp.move fun k h hlt => ?_).mono fun k h _ => by omega
              rw [Below.heap_setCell _ _ _ _ (by simp; omega), Below.heap_setCell _ _ _ _ (by simp; omega), Below.heap_setCell _ _ _ _ (by simp; omega)]
              exact hgr.block k hlt (by simp; omega)
            · have hrow3 := row_set (row_set (row_set hrow (p := ⟨w.heap.size + 1, 0, none⟩) (by have := hb.size; have := hvp; simp; omega) (.string n.name)) (p := ⟨w.heap.size + 1, 1, none⟩) (by simp; omega) (.slice Ap n.props.length cp)) (p := ⟨w.heap.size + 1, 2, none⟩) (by simp; omega) (.slice Ak n.kids.length ck)
              exact hrow3.sl.mono fun k h _ => by have : W2.heap.size ≤ k := h; omega
            · exact bset (bset (bset hb (by simp) _) (by simp) _) (by simp) _
end Go.Proofs.YtdfknlhfdbbogaaGreatDoor
