/-
  path.all, path.All: the places of all nodes. No condition.
-/
import Derived.Test.YtdfknlhfdbbogaaGreatDoorWindows
import Derived.Test.YtdfknlhfdbbogaaGreatDoorHandle
namespace Go.Proofs.YtdfknlhfdbbogaaGreatDoor
open Go.RowKit
set_option linter.unusedSimpArgs false
set_option linter.unusedVariables false
section
variable {α : Type} {T : Ty α} {t e : TypeId} {bytes : Nat}
/-- At the operation: a row appended to a row. -/
theorem wp_own_app {w : World} {o : Oper} {a : Act} {K : Act → World → Prop} {Q : Exit → Act → World → Prop} (E : El T t e bytes) (s x : Operand)
    (ho : o.op = .call { callee := .builtin .append, args := #[s, x], argTypes := #[t, t] }) {B : Nat} {ok : Nat → Prop} {v : Value} {xs : List α} (hrow : Own T e w B ok v xs) (hs : a.eval s = v)
    {ad : Addr} {c : Nat} {ys : List α} {news : List Value} (hx : a.eval x = .slice (some ad) ys.length c) (hnews : ∀ j u, news[j]? = some u → w.cell? (ad.add j) = some u) (hr : Reps T w (fun k => ok k ∧ some k ≠ v.ownBlock) ys news) (hy : 0 < ys.length)
    (hsz : (xs.length + ys.length) * (bytes + 1) ≤ 140737488351232) (hB : B ≤ w.heap.size) (hfresh : ∀ k, w.heap.size ≤ k → ok k)
    (h : ∀ g cap w', Own T e w' B ok (.slice (some ⟨g, 0, none⟩) (xs.length + ys.length) cap) (xs ++ ys) → w.grownBy w' v.ownBlock → (v.ownBlock = some g ∨ g = w.heap.size) → g < w'.heap.size → K (a.put o.dst (.slice (some ⟨g, 0, none⟩) (xs.length + ys.length) cap)) w') : o.wp Tryz.prog a w K Q := by
  obtain ⟨i, z, hi, hz, h1, h2, h3⟩ := E.info
  obtain ⟨cells, hown, hk, hreps⟩ := hrow
  have hs2 : (xs.length + ys.length) + (xs.length + ys.length) * bytes ≤ 140737488351232 := by rw [Nat.mul_add] at hsz; omega
  refine wp_append_lies (P := Tryz.prog) w s x t ho B e i z T.sz bytes E.under hi hz h1 h2 h3 T.pos v xs.length cells hs hown ad ys.length c news hx hr.1 hnews hr.one hy (by unfold maxLen; omega) (by omega) hB _ rfl ?_
  intro g cap w' ho' hg hat hlt
  refine h g cap w' (Own.after (W := w) (hreps.append hr) hk ho' (by simp) hg ?_ hfresh) hg hat hlt
  rcases hat with hat | rfl
  · exact .inl hat.symm
  · exact .inr ⟨_, rfl, Nat.le_refl _⟩
theorem step_own_app {w : World} {ops : Array Oper} {o : Oper} {a : Act} {K : Act → World → Prop} {Q : Exit → Act → World → Prop} {Z : Prop} (hgd : o.guard = none) (E : El T t e bytes) (s x : Operand)
    (ho : o.op = .call { callee := .builtin .append, args := #[s, x], argTypes := #[t, t] }) {B : Nat} {ok : Nat → Prop} {v : Value} {xs : List α} (hrow : Own T e w B ok v xs) (hs : a.eval s = v)
    {ad : Addr} {c : Nat} {ys : List α} {news : List Value} (hx : a.eval x = .slice (some ad) ys.length c) (hnews : ∀ j u, news[j]? = some u → w.cell? (ad.add j) = some u) (hr : Reps T w (fun k => ok k ∧ some k ≠ v.ownBlock) ys news) (hy : 0 < ys.length)
    (hsz : (xs.length + ys.length) * (bytes + 1) ≤ 140737488351232) (hB : B ≤ w.heap.size) (hfresh : ∀ k, w.heap.size ≤ k → ok k)
    (h : ∀ g cap w', Own T e w' B ok (.slice (some ⟨g, 0, none⟩) (xs.length + ys.length) cap) (xs ++ ys) → w.grownBy w' v.ownBlock → (v.ownBlock = some g ∨ g = w.heap.size) → g < w'.heap.size → K (a.put o.dst (.slice (some ⟨g, 0, none⟩) (xs.length + ys.length) cap)) w') :
    if Region.wanted o (yielded ops a.tmps) = true then Oper.wp Tryz.prog o a w K Q else Z := by
  have hw : Region.wanted o (yielded ops a.tmps) = true := by simp [Region.wanted, hgd]
  rw [if_pos hw]
  exact wp_own_app E s x ho hrow hs hx hnews hr hy hsz hB hfresh h
/-- Where a row's cells stand. -/
theorem Own.source {w : World} {B : Nat} {ok : Nat → Prop} {v : Value} {xs : List α} (h : Own T e w B ok v xs) (hn : xs ≠ []) : ∃ g c news, v = .slice (some ⟨g, 0, none⟩) xs.length c ∧ (∀ j u, news[j]? = some u → w.cell? ((⟨g, 0, none⟩ : Addr).add j) = some u) ∧ Reps T w ok xs news := by
  obtain ⟨cells, ho, hk, hr⟩ := h
  rcases ho.2 with ⟨rfl, h0⟩ | ⟨g, cap, cur, rfl, hb, hg, _⟩
  · exact absurd (List.eq_nil_of_length_eq_zero h0) hn
  · exact ⟨g, cap, cells, rfl, ho.cells rfl, hr.mono fun k h _ => h.1⟩
end
/-- A new row of one. -/
theorem own_one {α : Type} {T : Ty α} {e : TypeId} {w : World} {ok : Nat → Prop} {x : α} {cs : List Value} (hr : T.rep w ok x cs) (hok : ok w.heap.size) (hlt : ∀ k, ok k → k < w.heap.size → ok k) {B : Nat} (hB : B ≤ w.heap.size) :
    Own T e (w.alloc (.cells cs.toArray e)) B ok (.slice (some ⟨w.heap.size, 0, none⟩) 1 1) [x] := by
  have hl := T.len hr
  refine ⟨cs, ⟨by simp [hl], .inr ⟨w.heap.size, 1, cs.toArray, rfl, hB, blast _ _ _ rfl, Nat.le_refl _, by decide, by simp [hl], by simp; exact List.take_of_length_le (by omega)⟩⟩, fun k hk => ?_, Reps.single ?_⟩
  · simp [Value.ownBlock] at hk; subst hk; exact hok
  · have h1 : T.rep w (fun k => ok k ∧ some k ≠ (Value.slice (some ⟨w.heap.size, 0, none⟩) 1 1).ownBlock) x cs := T.mono hr fun k hk hk2 => ⟨hk, by simp [Value.ownBlock]; omega⟩
    exact T.move h1 fun k _ hk2 => (balloc (brefl w) _).block k hk2
theorem allL_len (ks : List Nd) : ∀ (place : List Int) (k : Nat), (allL place k ks).length ≤ Nd.sizes ks := by
  induction ks with
  | nil => intro place k; simp [allL]
  | cons x r ih => intro place k; have h1 := allN_length x (place ++ [(k : Int)]); have h2 := ih place (k + 1); rw [allL, List.length_append, Nd.sizes]; omega
theorem allN_ne (place : List Int) (n : Nd) : allN place n ≠ [] := by rw [allN_eq]; simp
/-- Blocks that places may lead to. -/
def okAll (okP : Nat → Prop) (w : World) (k : Nat) : Prop := (okP k ∧ k < w.heap.size) ∨ w.heap.size ≤ k
set_option maxRecDepth 100000 in
set_option maxHeartbeats 4000000 in
theorem all153_walk (n : Nd) : n.size ≤ 1073741824 → ∀ (place : List Int) (w : World) (okN okP : Nat → Prop) (v pv : Value), NdV w okN v n → Sl tInt w okP pv place → place.length + n.size ≤ 1073741824 →
    Calls Tryz.prog 153 #[v, pv] w fun e w' => ∃ v', e = .returned v' ∧ Own (tSl tInt) 79 w' w.heap.size (okAll okP w) v' (allN place n) ∧ Below w.heap.size w w' := by
  induction n using Nd.ind with
  | h n ih =>
    intro hsz place w okN okP v pv hv hp hplen
    obtain ⟨A2, c2, A, c, rfl, hc2, hl2, ha2, hc, hl, ha⟩ := hv.form
    have hp0 := hp
    obtain ⟨Ap, cp, rfl, hcp, hlp, hap⟩ := hp
    have z1 := Nd.size_eq n
    have z3 := Nd.sizes_length n.kids
    have hone : Own (tSl tInt) 79 ((w.alloc (.cells #[.string n.name, .slice A2 n.props.length c2, .slice A n.kids.length c] 32)).alloc (.cells #[.slice Ap place.length cp] 79)) w.heap.size (okAll okP w) (.slice (some ⟨w.heap.size + 1, 0, none⟩) 1 1) [place] := by
      have h1 : (tSl tInt).rep (w.alloc (.cells #[.string n.name, .slice A2 n.props.length c2, .slice A n.kids.length c] 32)) (okAll okP w) place [.slice Ap place.length cp] := rep_sl ((hp0.mono (ok' := okAll okP w) fun k h h2 => .inl ⟨h, h2⟩).below (balloc (brefl w) _))
      have h2 := own_one (e := 79) h1 (.inr (by simp)) (fun k h _ => h) (B := w.heap.size) (by simp)
      simpa using h2
    have hfin : allN place n = place :: allL place 0 n.kids := allN_eq place n
    have HFIN := Lib.hid hfin
    clear hfin
    go_enter Tryz.func153, Tryz.ntmps153
    go_wp2_with fail
    go_loopw [5, 13] (fun a i wr => ∃ k : Nat, k ≤ n.kids.length ∧ i = .int .i64 k ∧ Own (tSl tInt) 79 wr w.heap.size (okAll okP w) a (place :: allL place 0 (n.kids.take k)) ∧ Below w.heap.size w wr) (fun _ i _ => n.kids.length - (intOf i).toNat)
    case atStart => exact ⟨0, by omega, rfl, by simpa [allL] using hone, (by repeat (first | assumption | exact Below.refl _ _ | with_reducible refine bset ?_ (by simp) _ | with_reducible refine balloc ?_ _ | with_reducible refine bdrew ?_ | with_reducible refine bdrewN ?_ _ | with_reducible refine bstep ?_ (by assumption)))⟩
    case round =>
      clear hone
      obtain ⟨k, hk, rfl, hrow, hb⟩ := hrel
      by_cases hkl : k < n.kids.length
      · have hx : n.kids[k]? = some n.kids[k] := List.getElem?_eq_getElem hkl
        have hmem := List.getElem_mem hkl
        obtain ⟨b2, off, A3, c3, A4, c4, rfl, hob, hlb, r0, r1, r2, hnv⟩ := (ha.below hb).node_at hx
        have hks := Nd.kid_size hmem
        obtain ⟨hst1, hst2⟩ := sizes_take hx
        have hal := allL_len (n.kids.take k) place 0
        have hnext : place :: allL place 0 (n.kids.take (k + 1)) = (place :: allL place 0 (n.kids.take k)) ++ allN (place ++ [(k : Int)]) n.kids[k] := by rw [allL_next hx, List.cons_append]
        obtain ⟨x, hxe⟩ : ∃ x, x = n.kids[k] := ⟨_, rfl⟩
        rw [← hxe] at hx r0 r1 r2 hnv hks hmem hst1 hnext
        have hxl := allN_length x (place ++ [(k : Int)])
        have hxp : 0 < (allN (place ++ [(k : Int)]) x).length := List.length_pos_iff.2 (allN_ne _ _)
        have hpk : Sl tInt wr okP (.slice Ap place.length cp) place := hp0.below hb
        have hws := hb.size
        obtain ⟨xs, hxs⟩ : ∃ xs, xs = place :: allL place 0 (n.kids.take k) := ⟨_, rfl⟩
        have hxsl : xs.length = 1 + (allL place 0 (n.kids.take k)).length := by rw [hxs]; simp; omega
        have hxsb : xs.length ≤ 1 + Nd.sizes (n.kids.take k) := by omega
        rw [← hxs] at hrow hnext
        have HNX := Lib.hid hnext
        clear hxe hnext hxs hxsl hal
        go_upto_block 1 with fail
        go_cut [5] (fun a' wx => Own (tSl tInt) 79 wx w.heap.size (okAll okP w) a' (place :: allL place 0 (n.kids.take (k + 1))) ∧ Below w.heap.size w wx)
        case first =>
          go_wp2_with fail
          obtain ⟨W, hW⟩ : ∃ W, W = wr.alloc (.cells #[.string x.name, .slice A3 x.props.length c3, .slice A4 x.kids.length c4] 32) := ⟨_, rfl⟩
          rw [← hW]
          have hWb : Below wr.heap.size wr W := by rw [hW]; exact balloc (brefl _) _
          have hP : W.heap[wr.heap.size]? = some (.cells #[.string x.name, .slice A3 x.props.length c3, .slice A4 x.kids.length c4] 32 (0, 0)) := by rw [hW]; exact blast _ _ _ rfl
          have hWs : W.heap.size = wr.heap.size + 1 := by rw [hW]; simp
          have f0 := bcellAt (v := .string x.name) hP 0 rfl
          have f1 := bcellAt (v := .slice A3 x.props.length c3) hP 1 rfl
          have f2 := bcellAt (v := .slice A4 x.kids.length c4) hP 2 rfl
          have fl := blockLt hP
          clear hW hP r0 r1 r2
          go_region_law (first
            | (go_simp; go_at_call 180; (refine (intsClone_walk place (by omega) _ okP _ (hpk.below (bstep hWb ?_))).mono ?_); exact (by repeat (first | assumption | exact Below.refl _ _ | with_reducible refine bset ?_ (by simp) _ | with_reducible refine balloc ?_ _ | with_reducible refine bdrew ?_ | with_reducible refine bdrewN ?_ _ | with_reducible refine bstep ?_ (by assumption))); rintro e w4 ⟨v3, rfl, hr4, hb4⟩; obtain ⟨A5, c5, rfl, hA5⟩ := hr4.form; clear hA5; have hB4 : Below W.heap.size W w4 := bstep (by repeat (first | assumption | exact Below.refl _ _ | with_reducible refine bset ?_ (by simp) _ | with_reducible refine balloc ?_ _ | with_reducible refine bdrew ?_ | with_reducible refine bdrewN ?_ _ | with_reducible refine bstep ?_ (by assumption))) hb4; have g0 := bkeep hB4 f0; have g1 := bkeep hB4 f1; have g2 := bkeep hB4 f2; have hs4 := hB4.size; have hl4 : wr.heap.size < w4.heap.size := (by omega); (try (have hkc : w4.heap[wr.heap.size + 1]? = some (.cells #[.int .i64 (k : Int)] 3 (0, 0)) := bblock (blast W.drew _ (wr.heap.size + 1) hWs.symm) hb4)))
            | (refine step_row1 (by rfl) elInt _ _ (by rfl) (hr4.below (by repeat (first | assumption | exact Below.refl _ _ | with_reducible refine bset ?_ (by simp) _ | with_reducible refine balloc ?_ _ | with_reducible refine bdrew ?_ | with_reducible refine bdrewN ?_ _ | with_reducible refine bstep ?_ (by assumption)))) (by rfl) (by rfl) (by first | exact blast _ _ _ (by simp) | exact hkc) (rep_num (x := (k : Int)) (by omega) (by omega)) (by simp; omega) (by have h9 := hb4.size; simp [hWs] at h9 ⊢ <;> omega) ?_; intro g cap w5 hrow5 hg5 hat5 hlt5; have hB5 : Below W.heap.size W w5 := bgrown (w := W) (by repeat (first | assumption | exact Below.refl _ _ | with_reducible refine bset ?_ (by simp) _ | with_reducible refine balloc ?_ _ | with_reducible refine bdrew ?_ | with_reducible refine bdrewN ?_ _ | with_reducible refine bstep ?_ (by assumption))) hg5 (hr4.base (by simp; try omega)); have j0 := bkeep hB5 f0; have j1 := bkeep hB5 f1; have j2 := bkeep hB5 f2)
            | (go_simp; go_at_call 153; (refine (ih x hmem (by omega) (place ++ [(k : Int)]) _ okN (W.heap.size ≤ ·) _ _ (hnv.below (bstep hWb hB5)) (hrow5.sl.mono (fun j h _ => by simp at h; omega)) (by simp; omega)).mono ?_); rintro e w6 ⟨v6, rfl, hown6, hb6⟩; obtain ⟨g6, c6, news6, rfl, hnews6, hreps6⟩ := hown6.source (allN_ne _ _))
            | (refine step_own_app (by rfl) elInts _ _ (by rfl) (hrow.below (bstep (bstep hWb hB5) hb6)) (by rfl) (by rfl) hnews6 (hreps6.mono fun j h _ => by have h7 := hB5.size; rcases h with ⟨h, _⟩ | h; exact ⟨.inr (by have h8 : W.heap.size ≤ j := h; omega), fun e => by have := (hrow.lt j e.symm).2; have h8 : W.heap.size ≤ j := h; omega⟩; exact ⟨.inr (by omega), fun e => by have := (hrow.lt j e.symm).2; omega⟩) hxp (by omega) (by have h7 := hB5.size; have h8 := hb6.size; omega) (fun j h => .inr (by have h7 := hB5.size; have h8 := hb6.size; omega)) ?_; intro g7 cap7 w7 hrow7 hg7 hat7 hlt7))
          all_goals go_wp2_with fail
          all_goals go_meet
          all_goals exact ⟨by rw [HNX.out]; exact hrow7, bgrown (bstep hb (bstep (bstep hWb hB5) hb6)) hg7 (hrow.base (Nat.le_refl _))⟩
        case rest =>
          obtain ⟨hrow', hb'⟩ := hcut
          go_wp2_with fail
          go_roundw
          case rel => exact ⟨k + 1, by omega, by go_num, hrow', hb'⟩
          case measure => simp [intOf]; omega
      · obtain rfl : k = n.kids.length := by omega
        rw [List.take_length, ← HFIN.out] at hrow
        go_wp2_with fail
        go_ret
        exact ⟨_, rfl, hrow, hb⟩
end Go.Proofs.YtdfknlhfdbbogaaGreatDoor
