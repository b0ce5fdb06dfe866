/-
  arboretlaw15.ValidForms, where what it reads is of the bulk that the given row says: All and Index of the reference, the cause, the argument opened, the law walked; the contract, the witness, the row's step. Conditions: as the given row says (the package-level variables that the row lists read as laid; the bulk).
-/
import Derived.Test.YtdfknlhfdbbogaaGreatDoorRefSide
import Derived.Test.YtdfknlhfdbbogaaGreatDoorAll
import Derived.Test.YtdfknlhfdbbogaaGreatDoorChecks
import Derived.Test.YtdfknlhfdbbogaaGreatDoorIndex
import Derived.Test.YtdfknlhfdbbogaaGreatDoorRegion2
import Derived.Test.YtdfknlhfdbbogaaGreatDoorErrsAs
import Derived.Test.YtdfknlhfdbbogaaGreatDoorTys
import Derived.Test.YtdfknlhfdbbogaaGreatDoorRows
import Derived.ChangeArms
import Derived.DataReads
import Derived.KernelRfl
import GoSem.ClaimSeven
import Derived.WalkKit
import Derived.ProofKit
import Derived.OpenShut
import Derived.Carry
import Derived.LaidHandle
import Derived.Deep.DeepHandedRow
import Derived.Lib.LaidTab
namespace Go.Proofs.YtdfknlhfdbbogaaGreatDoor
open Go.RowKit
set_option linter.unusedSimpArgs false
set_option linter.unusedVariables false
section
variable {α : Type} {T : Ty α} {t e : TypeId} {bytes : Nat}
/-- An empty row of the call's own. -/
theorem own_zero {w : World} {ok : Nat → Prop} (hok : ok w.heap.size) {B : Nat} (hB : B ≤ w.heap.size) : Own T e (w.alloc (.cells #[] e)) B ok (.slice (some ⟨w.heap.size, 0, none⟩) 0 0) ([] : List α) := by
  refine ⟨[], ⟨by simp, .inr ⟨w.heap.size, 0, #[], rfl, hB, blast _ _ _ rfl, Nat.le_refl _, by decide, by simp, by simp⟩⟩, fun k hk => ?_, ⟨by simp, by simp⟩⟩
  simp [Value.ownBlock] at hk; subst hk; exact hok
theorem own_zero_at {w : World} {ok : Nat → Prop} {g : Nat} (hg : w.heap[g]? = some (.cells #[] e (0, 0))) (hok : ok g) {B : Nat} (hB : B ≤ g) : Own T e w B ok (.slice (some ⟨g, 0, none⟩) 0 0) ([] : List α) := by
  refine ⟨[], ⟨by simp, .inr ⟨g, 0, #[], rfl, hB, hg, Nat.le_refl _, by decide, by simp, by simp⟩⟩, fun k hk => ?_, ⟨by simp, by simp⟩⟩
  simp [Value.ownBlock] at hk; subst hk; exact hok
theorem bdrewAt {w : World} {k : Nat} {o : Obj} (h : w.heap[k]? = some o) : w.drew.heap[k]? = some o := h
/-- At the operation: a row of flat elements appended, wherever it stands. -/
theorem wp_flat_app (hf : Flat T) {w : World} {o : Oper} {a : Act} {K : Act → World → Prop} {Q : Exit → Act → World → Prop} (E : El T t e bytes) (s x : Operand)
    (ho : o.op = .call { callee := .builtin .append, args := #[s, x], argTypes := #[t, t] }) {B : Nat} {v : Value} {xs : List α} (hrow : Row T e w B v xs) (hs : a.eval s = v)
    {A : Option Addr} {c : Nat} {ys : List α} {ok : Nat → Prop} (hx : a.eval x = .slice A ys.length c) (hy : SlA T w ok A ys)
    (hsz : (xs.length + ys.length) * (bytes + 1) ≤ 140737488351232) (hB : B ≤ w.heap.size)
    (h : ∀ A' c' w', Row T e w' B (.slice A' (xs ++ ys).length c') (xs ++ ys) → w.grownBy w' v.ownBlock → K (a.put o.dst (.slice A' (xs ++ ys).length c')) w') : o.wp Tryz.prog a w K Q := by
  by_cases hn : ys = []
  · subst hn
    obtain ⟨A0, c0, rfl, h1, h2, h3⟩ := hrow.form
    obtain ⟨cells, ho', hk, hr⟩ := id hrow
    obtain ⟨i, z, hi, hz, _⟩ := E.info
    have hrun := run_append_zero (P := Tryz.prog) (w := w) B t o.type e i T.sz E.under hi _ _ cells ho' A c
    have hx0 : a.eval x = .slice A 0 c := hx
    have hK2 : _ := (by have := h A0 c0 w (by simpa using hrow) ⟨rfl, rfl, rfl, Nat.le_refl _, fun _ _ _ => rfl⟩; simpa using this : K (a.put o.dst (.slice A0 xs.length c0)) w)
    unfold Oper.wp
    simp [execOp, ho, resolve, invoke, builtin, hs, hx0, hrun, Result.andThen]
    exact hK2
  · obtain ⟨cells, hr, hc⟩ := hy
    obtain ⟨b, off, rfl, hob, hlt, hcell⟩ := hc hn
    refine wp_own_app E s x ho hrow hs (ad := ⟨b, off, none⟩) hx (news := cells) (fun j u hu => by rw [Addr.add_lit]; exact hcell j u hu) ⟨hr.1, fun j x hx => hf _ _ _ _ _ _ (hr.2 j x hx)⟩ (List.length_pos_iff.2 hn) hsz hB (fun k hk => Nat.le_trans hB hk) fun g cap w' h2 h3 h4 h5 => ?_
    have h9 := h (some ⟨g, 0, none⟩) cap w' (by rw [List.length_append]; exact h2) h3
    simpa only [List.length_append] using h9
theorem wpList_flat_app (hf : Flat T) {w : World} {ops : Array Oper} {rest : List Oper} {o : Oper} {a : Act} {Q : Exit → Act → World → Prop} (hgd : o.guard = none) (E : El T t e bytes) (s x : Operand)
    (ho : o.op = .call { callee := .builtin .append, args := #[s, x], argTypes := #[t, t] }) {B : Nat} {v : Value} {xs : List α} (hrow : Row T e w B v xs) (hs : a.eval s = v)
    {A : Option Addr} {c : Nat} {ys : List α} {ok : Nat → Prop} (hx : a.eval x = .slice A ys.length c) (hy : SlA T w ok A ys)
    (hsz : (xs.length + ys.length) * (bytes + 1) ≤ 140737488351232) (hB : B ≤ w.heap.size)
    (h : ∀ A' c' w', Row T e w' B (.slice A' (xs ++ ys).length c') (xs ++ ys) → w.grownBy w' v.ownBlock → wpList Tryz.prog ops Q rest (a.put o.dst (.slice A' (xs ++ ys).length c')) w') : wpList Tryz.prog ops Q (o :: rest) a w :=
  wpList_plain hgd fun _ hK => wp_flat_app hf E s x ho hrow hs hx hy hsz hB fun A' c' w' h1 h2 => hK _ _ (h A' c' w' h1 h2)
theorem step_flat_app (hf : Flat T) {w : World} {ops : Array Oper} {o : Oper} {a : Act} {K : Act → World → Prop} {Q : Exit → Act → World → Prop} {Z : Prop} (hgd : o.guard = none) (E : El T t e bytes) (s x : Operand)
    (ho : o.op = .call { callee := .builtin .append, args := #[s, x], argTypes := #[t, t] }) {B : Nat} {v : Value} {xs : List α} (hrow : Row T e w B v xs) (hs : a.eval s = v)
    {A : Option Addr} {c : Nat} {ys : List α} {ok : Nat → Prop} (hx : a.eval x = .slice A ys.length c) (hy : SlA T w ok A ys)
    (hsz : (xs.length + ys.length) * (bytes + 1) ≤ 140737488351232) (hB : B ≤ w.heap.size)
    (h : ∀ A' c' w', Row T e w' B (.slice A' (xs ++ ys).length c') (xs ++ ys) → w.grownBy w' v.ownBlock → K (a.put o.dst (.slice A' (xs ++ ys).length c')) w') :
    if Region.wanted o (yielded ops a.tmps) = true then Oper.wp Tryz.prog o a w K Q else Z := by
  have hw : Region.wanted o (yielded ops a.tmps) = true := by simp [Region.wanted, hgd]
  rw [if_pos hw]
  exact wp_flat_app hf E s x ho hrow hs hx hy hsz hB h
theorem step_flat_zero (hf : Flat T) {w : World} {ops : Array Oper} {o : Oper} {a : Act} {K : Act → World → Prop} {Q : Exit → Act → World → Prop} {Z : Prop} (hgd : o.guard = none) (E : El T t e bytes) (s x : Operand)
    (ho : o.op = .call { callee := .builtin .append, args := #[s, x], argTypes := #[t, t] }) {B g : Nat} (hs : a.eval s = .slice (some ⟨g, 0, none⟩) 0 0) (hg : w.heap[g]? = some (.cells #[] e (0, 0))) (hBg : B ≤ g)
    {A : Option Addr} {c : Nat} {ys : List α} {ok : Nat → Prop} (hx : a.eval x = .slice A ys.length c) (hy : SlA T w ok A ys)
    (hsz : ys.length * (bytes + 1) ≤ 140737488351232)
    (h : ∀ A' c' w', Row T e w' B (.slice A' ys.length c') ys → w.grownBy w' (some g) → K (a.put o.dst (.slice A' ys.length c')) w') :
    if Region.wanted o (yielded ops a.tmps) = true then Oper.wp Tryz.prog o a w K Q else Z :=
  step_flat_app hf hgd E s x ho (own_zero_at (ok := (B ≤ ·)) hg hBg hBg) hs hx hy (by simpa using hsz) (Nat.le_trans hBg (Nat.le_of_lt (blockLt hg))) fun A' c' w' h1 h2 => h A' c' w' h1 h2
end
set_option maxRecDepth 100000 in
set_option maxHeartbeats 4000000 in
theorem refAll_walk (n : Nd) : n.size ≤ 1073741824 → ∀ (place : List Int) (w : World) (okN okP : Nat → Prop) (v pv : Value), NdV w okN v n → Sl tInt w okP pv place → place.length + n.size ≤ 1073741824 →
    Calls Tryz.prog 62 #[v, pv] w fun e w' => ∃ v', e = .returned v' ∧ Sl (tSl tInt) w' (w.heap.size ≤ ·) v' (allN place n) ∧ Below w.heap.size w w' := by
  induction n using Nd.ind with
  | h n ih =>
    intro hsz place w okN okP v pv hv hp hplen
    obtain ⟨A2, c2, A, c, rfl, hc2, hl2, ha2, hc, hl, ha⟩ := hv.form
    have hp0 := hp
    obtain ⟨Ap, cp, rfl, hcp, hlp, hap⟩ := hp
    have z1 := Nd.size_eq n
    have z3 := Nd.sizes_length n.kids
    have hfin : allN place n = place :: allL place 0 n.kids := allN_eq place n
    have HFIN := Lib.hid hfin
    clear hfin
    go_enter Tryz.func62, Tryz.ntmps62
    obtain ⟨w0, hw0⟩ : ∃ w0, w0 = w.alloc (.cells #[.string n.name, .slice A2 n.props.length c2, .slice A n.kids.length c] 32) := ⟨_, rfl⟩
    have hs0 : w0.heap.size = w.heap.size + 1 := by rw [hw0]; simp
    have hb0 : Below w.heap.size w w0 := by rw [hw0]; exact balloc (brefl w) _
    have hN0 : w0.heap[w.heap.size]? = some (.cells #[.string n.name, .slice A2 n.props.length c2, .slice A n.kids.length c] 32 (0, 0)) := by rw [hw0]; exact blast _ _ _ rfl
    have hr0 : Row tInt 3 (w0.alloc (.cells #[] 3)) (w.heap.size + 1) (.slice (some ⟨w.heap.size + 1, 0, none⟩) 0 0) [] := by have h := own_zero (α := Int) (T := tInt) (e := 3) (w := w0) (ok := (w.heap.size + 1 ≤ ·)) (B := w.heap.size + 1) (by show w.heap.size + 1 ≤ w0.heap.size; omega) (by omega); rw [hs0] at h; exact h
    go_wp2_with (first
      | (at_builtin; rw [← hw0]; refine wpList_flat_app flat_num rfl elInt _ _ rfl hr0 rfl rfl (hap.below (balloc hb0 _)) (by simp; omega) (by simp; omega) ?_; intro A1 c1 w1 hr1 hg1; replace hr1 : Row tInt 3 w1 (w.heap.size + 1) (.slice A1 place.length c1) place := hr1; rw [List.nil_append]; have hN1 : w1.heap[w.heap.size]? = some (.cells #[.string n.name, .slice A2 n.props.length c2, .slice A n.kids.length c] 32 (0, 0)) := gblock (bblock_alloc hN0 _) hg1 (by simp [Value.ownBlock]); have hs1 : w.heap.size + 1 ≤ w1.heap.size := blockLt hN1; have e2 := bcellAt (v := .slice A n.kids.length c) hN1 2 rfl; have el := blockLt hN1))
    have hb1 : Below w.heap.size w w1 := bgrown (balloc hb0 _) hg1 (fun k h => by simp [Value.ownBlock] at h; omega)
    have hone : Row (tSl tInt) 79 (w1.alloc (.cells #[.slice A1 place.length c1] 79)) (w.heap.size + 1) (.slice (some ⟨w1.heap.size, 0, none⟩) 1 1) [place] := own_one (rep_sl hr1.sl) hs1 (fun k h _ => h) hs1
    rw [← hw0] at *
    have hb2 : Below w.heap.size w (w1.alloc (.cells #[.slice A1 place.length c1] 79)) := balloc hb1 _
    have hN2 := bblock_alloc hN1 (.cells #[.slice A1 place.length c1] 79)
    obtain ⟨W, hW⟩ : ∃ W, W = w1.alloc (.cells #[.slice A1 place.length c1] 79) := ⟨_, rfl⟩
    rw [← hW] at hone
    rw [← hW] at hb2 hN2
    have hwl : W.heap.size = w1.heap.size + 1 := by rw [hW]; simp
    (try rw [← hW])
    clear hr0 hr1 hg1 hb1 hN1 hs1
    go_loopw [5, 14] (fun a i wr => ∃ k : Nat, k ≤ n.kids.length ∧ i = .int .i64 k ∧ Row (tSl tInt) 79 wr (w.heap.size + 1) a (place :: allL place 0 (n.kids.take k)) ∧ wr.heap[w.heap.size]? = some (.cells #[.string n.name, .slice A2 n.props.length c2, .slice A n.kids.length c] 32 (0, 0)) ∧ Below w.heap.size w wr) (fun _ i _ => n.kids.length - (intOf i).toNat)
    case atStart => exact ⟨0, by omega, rfl, by simpa [allL] using hone, hN2, hb2⟩
    case round =>
      clear hone
      obtain ⟨k, hk, rfl, hrow, hN, hb⟩ := hrel
      have f0 := bcellAt (v := .string n.name) hN 0 rfl
      have f1 := bcellAt (v := .slice A2 n.props.length c2) hN 1 rfl
      have f2 := bcellAt (v := .slice A n.kids.length c) hN 2 rfl
      have fl := blockLt hN
      by_cases hkl : k < n.kids.length
      · have hx : n.kids[k]? = some n.kids[k] := List.getElem?_eq_getElem hkl
        have hmem := List.getElem_mem hkl
        obtain ⟨b2, off, A3, c3, A4, c4, rfl, hob, hlb, r0, r1, r2, hnv⟩ := (ha.below hb).node_at hx
        have hks := Nd.kid_size hmem
        obtain ⟨hst1, hst2⟩ := sizes_take hx
        have hal := allL_len (n.kids.take k) place 0
        have hnext : place :: allL place 0 (n.kids.take (k + 1)) = (place :: allL place 0 (n.kids.take k)) ++ allN (place ++ [(k : Int)]) n.kids[k] := by rw [allL_next hx, List.cons_append]
        obtain ⟨x, hxe⟩ : ∃ x, x = n.kids[k] := ⟨_, rfl⟩
        rw [← hxe] at hx r0 r1 r2 hnv hks hmem hst1 hnext
        have hxl := allN_length x (place ++ [(k : Int)])
        have hxp : 0 < (allN (place ++ [(k : Int)]) x).length := List.length_pos_iff.2 (allN_ne _ _)
        have hpk := hap.below hb
        have hws := hb.size
        obtain ⟨xs, hxs⟩ : ∃ xs, xs = place :: allL place 0 (n.kids.take k) := ⟨_, rfl⟩
        have hxsl : xs.length = 1 + (allL place 0 (n.kids.take k)).length := by rw [hxs]; simp; omega
        have hxsb : xs.length ≤ 1 + Nd.sizes (n.kids.take k) := by omega
        rw [← hxs] at hrow hnext
        have HNX := Lib.hid hnext
        have rl0 := World.block_lt_of_cell? _ _ r0
        clear hxe hnext hxs hxsl hal
        have hNH := Lib.hid hN
        clear hN
        go_upto_block 1 with fail
        go_cut [5] (fun a' wx => Row (tSl tInt) 79 wx (w.heap.size + 1) a' (place :: allL place 0 (n.kids.take (k + 1))) ∧ wx.heap[w.heap.size]? = some (.cells #[.string n.name, .slice A2 n.props.length c2, .slice (some ⟨b2, off, none⟩) n.kids.length c] 32 (0, 0)) ∧ Below w.heap.size w wx)
        case first =>
          go_upto_region 5 with fail
          go_region_law (first
            | (refine step_flat_zero flat_num (by rfl) elInt _ _ (by rfl) (B := wr.heap.size) (by rfl) (by repeat (first | assumption | with_reducible refine bdrewAt ?_ | exact blast _ _ _ (by simp; done) | with_reducible refine bblock_alloc ?_ _)) (by first | exact Nat.le_refl _ | (simp; done)) (by rfl) (hpk.below (by repeat (first | assumption | exact Below.refl _ _ | with_reducible refine bset ?_ (by simp) _ | with_reducible refine balloc ?_ _ | with_reducible refine bdrew ?_ | with_reducible refine bdrewN ?_ _ | with_reducible refine bstep ?_ (by assumption)))) (by omega) ?_; intro A5 c5 w5 hr5 hg5; have hB5 : Below wr.heap.size wr w5 := bgrown (w := wr) (by repeat (first | assumption | exact Below.refl _ _ | with_reducible refine bset ?_ (by simp) _ | with_reducible refine balloc ?_ _ | with_reducible refine bdrew ?_ | with_reducible refine bdrewN ?_ _ | with_reducible refine bstep ?_ (by assumption))) hg5 (fun k9 h9 => by injection h9 with h9; rw [← h9]; first | exact Nat.le_refl _ | (simp; done)); have a5 := bkeep hB5 f2; have b5 := bkeep hB5 r0; have c5 := bkeep hB5 r1; have d5 := bkeep hB5 r2; have al5 := World.block_lt_of_cell? _ _ a5; have bl5 := World.block_lt_of_cell? _ _ b5)
            | (refine step_row1 (by rfl) elInt _ _ (by rfl) (hr5.below (by repeat (first | assumption | exact Below.refl _ _ | with_reducible refine bset ?_ (by simp) _ | with_reducible refine balloc ?_ _ | with_reducible refine bdrew ?_ | with_reducible refine bdrewN ?_ _ | with_reducible refine bstep ?_ (by assumption)))) (by rfl) (by rfl) (by first | exact blast _ _ _ (by simp; done) | exact gblock (by repeat (first | assumption | with_reducible refine bdrewAt ?_ | exact blast _ _ _ (by simp; done) | with_reducible refine bblock_alloc ?_ _)) hg5 (by simp; done)) (rep_num (x := (k : Int)) (by omega) (by omega)) (by omega) (by have h9 := hB5.size; simp; omega) ?_; intro g6 c6 w6 hr6 hg6 hat6 hlt6; have hB6 : Below wr.heap.size wr w6 := bgrown (w := wr) (by repeat (first | assumption | exact Below.refl _ _ | with_reducible refine bset ?_ (by simp) _ | with_reducible refine balloc ?_ _ | with_reducible refine bdrew ?_ | with_reducible refine bdrewN ?_ _ | with_reducible refine bstep ?_ (by assumption))) hg6 (hr5.base (by omega)); have a6 := bkeep hB6 f2; have b6 := bkeep hB6 r0; have c6 := bkeep hB6 r1; have d6 := bkeep hB6 r2; have al6 := World.block_lt_of_cell? _ _ a6; have bl6 := World.block_lt_of_cell? _ _ b6)
            | (go_simp; go_at_call 62; (refine (ih x hmem (by omega) (place ++ [(k : Int)]) _ okN (wr.heap.size ≤ ·) _ _ (hnv.below hB6) hr6.sl (by simp; omega)).mono ?_); rintro e w7 ⟨v7, rfl, hv7, hb7⟩; have hB7 : Below wr.heap.size wr w7 := bstep hB6 hb7; obtain ⟨A7, c7, rfl, hc7, hl7, cells7, hreps7, hcc7⟩ := hv7; obtain ⟨g7, o7, rfl, hob7, hlt7, hcell7⟩ := hcc7 (allN_ne _ _); have a7 := bkeep hB7 f2; have b7 := bkeep hB7 r0; have c7 := bkeep hB7 r1; have d7 := bkeep hB7 r2; have al7 := World.block_lt_of_cell? _ _ a7; have bl7 := World.block_lt_of_cell? _ _ b7)
            | (refine step_own_app (by rfl) elInts _ _ (by rfl) (hrow.below hB7) (ad := ⟨g7, o7, none⟩) (by rfl) (by rfl) (fun j u hu => by rw [Addr.add_lit]; exact hcell7 j u hu) (hreps7.mono fun j h _ => by have h7 := hB6.size; have h8 : w6.heap.size ≤ j := h; exact ⟨by omega, fun e => by have := (hrow.lt j e.symm).2; omega⟩) hxp (by omega) (by have h7 := hB7.size; omega) (fun j h => by have h7 := hB7.size; omega) ?_; intro g8 cap8 w8 hrow8 hg8 hat8 hlt8))
          all_goals go_wp2_with fail
          all_goals go_meet
          all_goals exact ⟨by rw [HNX.out]; exact hrow8, gblock (bblock hNH.out hB7) hg8 (hrow.ne (by omega)), bgrown (bstep hb hB7) hg8 (hrow.base (by omega))⟩
        case rest =>
          obtain ⟨hrow', hN', hb'⟩ := hcut
          go_wp2_with fail
          go_roundw
          case rel => exact ⟨k + 1, by omega, by go_num, hrow', hN', hb'⟩
          case measure => simp [intOf]; omega
      · obtain rfl : k = n.kids.length := by omega
        rw [List.take_length, ← HFIN.out] at hrow
        go_wp2_with fail
        go_ret
        exact ⟨_, rfl, hrow.sl.mono (fun j h _ => by have h9 : w.heap.size + 1 ≤ j := h; show w.heap.size ≤ j; omega), hb⟩
end Go.Proofs.YtdfknlhfdbbogaaGreatDoor

namespace Go.Proofs.YtdfknlhfdbbogaaGreatDoor
open Go.RowKit
set_option linter.unusedSimpArgs false
set_option linter.unusedVariables false
theorem elRef38 : El tRef 38 138 32 := El.mk' (z := .agg #[.int .u32 0, .slice none 0 0]) Tryz.underlying38 (by kernel_rfl) rfl
theorem fold_err {ND : List (List Int × Nd)} {k : Nat} {x : List Int × Nd} {l : List Ref} {e : Int} (hx : ND[k]? = some x) (h : foldOf [] (ND.take k) = .ok l) (he : ofOne x.2 x.1 l = .error e) : foldOf [] ND = .error e := by
  obtain ⟨hk, hx2⟩ := List.getElem?_eq_some_iff.1 hx
  have h1 : ND.take k ++ x :: ND.drop (k + 1) = ND := by rw [← hx2, ← List.drop_eq_getElem_cons hk, List.take_append_drop]
  rw [← h1, foldOf_append, h]
  simp [foldOf, he]
theorem fold_ok {ND : List (List Int × Nd)} {k : Nat} {x : List Int × Nd} {l l' : List Ref} (hx : ND[k]? = some x) (h : foldOf [] (ND.take k) = .ok l) (ho : ofOne x.2 x.1 l = .ok l') : foldOf [] (ND.take (k + 1)) = .ok l' := by
  rw [Nd.take_snoc hx, foldOf_append, h]
  simp [foldOf, ho]
/-- What the code's questions say of the node's own. -/
theorem ofOne_said {m : Nd} {p : List Int} {l : List Ref} {x : Nat} {f : Bool} {e0 : Int} (ho : oneN m phandle = (x, f, e0)) (hx : x < 4294967296) :
    (e0 ≠ 0 ∧ ofOne m p l = .error e0) ∨ (e0 = 0 ∧ f = false ∧ ofOne m p l = .ok l) ∨ (e0 = 0 ∧ f = true ∧ (x : Int) = 0 ∧ ofOne m p l = .error 11) ∨ (e0 = 0 ∧ f = true ∧ (x : Int) ≠ 0 ∧ (x : Int) = 4294967295 ∧ ofOne m p l = .error 11) ∨
      (e0 = 0 ∧ f = true ∧ (x : Int) ≠ 0 ∧ (x : Int) ≠ 4294967295 ∧ known l x = true ∧ ofOne m p l = .error 9) ∨ (e0 = 0 ∧ f = true ∧ (x : Int) ≠ 0 ∧ (x : Int) ≠ 4294967295 ∧ known l x = false ∧ ofOne m p l = .ok (l ++ [((x : Int), p)])) := by
  unfold ofOne
  rw [ho]
  simp only
  by_cases g0 : e0 = 0
  · subst g0
    rw [if_neg (by simp)]
    cases f
    · rw [if_pos rfl]; exact .inr (.inl ⟨rfl, rfl, rfl⟩)
    · rw [if_neg (by simp)]
      by_cases g1 : (x : Int) = 0
      · rw [if_pos (by omega)]; exact .inr (.inr (.inl ⟨rfl, rfl, g1, rfl⟩))
      · by_cases g2 : (x : Int) = 4294967295
        · rw [if_pos (by omega)]; exact .inr (.inr (.inr (.inl ⟨rfl, rfl, g1, g2, rfl⟩)))
        · rw [if_neg (by omega)]
          by_cases g3 : known l x = true
          · rw [if_pos g3]; exact .inr (.inr (.inr (.inr (.inl ⟨rfl, rfl, g1, g2, g3, rfl⟩))))
          · rw [if_neg g3]; exact .inr (.inr (.inr (.inr (.inr ⟨rfl, rfl, g1, g2, by simpa using g3, rfl⟩))))
  · rw [if_pos g0]; exact .inl ⟨g0, rfl⟩
theorem known_false {l : List Ref} {y : Int} (h : ∀ q ∈ l, q.1 ≠ y) : known l y = false := by
  unfold known
  rw [List.any_eq_false]
  intro q hq
  simpa using h q hq
theorem known_true {l : List Ref} {y z0 : Int} {z1 : List Int} {j : Nat} (hx : l[j]? = some (z0, z1)) (h : z0 = y) : known l y = true := by
  unfold known
  rw [List.any_eq_true]
  exact ⟨_, List.mem_of_getElem? hx, by simpa using h⟩
theorem wpList_own1 {α : Type} {T : Ty α} {t e : TypeId} {bytes : Nat} {w : World} {ops : Array Oper} {rest : List Oper} {o : Oper} {a : Act} {Q : Exit → Act → World → Prop} (hgd : o.guard = none) (E : El T t e bytes) (s x : Operand)
    (ho : o.op = .call { callee := .builtin .append, args := #[s, x], argTypes := #[t, t] }) {B : Nat} {ok : Nat → Prop} {v : Value} {xs : List α} (hrow : Own T e w B ok v xs) (hs : a.eval s = v)
    {b c : Nat} {y : α} {cs : List Value} {fr : Nat × Nat} {bt : TypeId} (hx : a.eval x = .slice (some ⟨b, 0, none⟩) 1 c) (hb : w.heap[b]? = some (.cells cs.toArray bt fr)) (hr : T.rep w (fun k => ok k ∧ some k ≠ v.ownBlock) y cs)
    (hsz : (xs.length + 1) * (bytes + 1) ≤ 140737488351232) (hB : B ≤ w.heap.size) (hfresh : ∀ k, w.heap.size ≤ k → ok k)
    (h : ∀ g cap w', Own T e w' B ok (.slice (some ⟨g, 0, none⟩) (xs.length + 1) cap) (xs ++ [y]) → w.grownBy w' v.ownBlock → (v.ownBlock = some g ∨ g = w.heap.size) → g < w'.heap.size → wpList Tryz.prog ops Q rest (a.put o.dst (.slice (some ⟨g, 0, none⟩) (xs.length + 1) cap)) w') : wpList Tryz.prog ops Q (o :: rest) a w :=
  wpList_plain hgd fun _ hK => wp_own_app E s x ho hrow hs (ys := [y]) hx (World.news_of_block hb) (Reps.single hr) (by simp) hsz hB hfresh fun g cap w' h2 h3 h4 h5 => hK _ _ (h g cap w' h2 h3 h4 h5)
set_option maxRecDepth 100000 in
set_option maxHeartbeats 4000000 in
theorem refIndex_walk (t : Tr) (hsz : t.root.size ≤ 536870912) (w : World) (ok : Nat → Prop) (v : Value) (hv : TrV w ok v t) :
    Calls Tryz.prog 17 #[v] w fun e w' => ∃ v2 e2, e = .returned (.tuple #[v2, .int .i64 e2]) ∧ ((e2 = 0 ∧ ∃ l, indexM t = .ok l) ∨ (e2 ≠ 0 ∧ indexM t = .error e2)) ∧ Below w.heap.size w w' := by
  have hv0 : TrV w (· < w.heap.size) v t := hv.mono fun k _ h => h
  clear hv
  have hv := hv0
  obtain ⟨vr, vp, vk, rfl, h0, h00, h1, h2, h3⟩ := hv0
  have hn := TrV.root (t := t) h2 h3
  obtain ⟨A1, c1, rfl, hc1, hl1, ha1⟩ := h1
  obtain ⟨A2, c2, rfl, hc2, hl2, ha2⟩ := h2
  obtain ⟨A3, c3, rfl, hc3, hl3, ha3⟩ := h3
  clear ha1 ha2 ha3 h0 h00
  obtain ⟨ND, hND⟩ : ∃ ND, ND = allNd [] t.root := ⟨_, rfl⟩
  have hfin : indexM t = foldOf [] ND := by rw [hND]; exact ofN_fold _ _ _
  have hfst : ND.map (·.1) = allN [] t.root := by rw [hND]; exact allNd_fst _ _
  have hdn : ∀ x ∈ ND, downN t.root x.1 = some x.2 := fun x hx => by
    rw [hND] at hx
    obtain ⟨q, hq, hd⟩ := allNd_down _ _ _ hx
    rw [hq]; exact hd
  have hND1 : ND.length ≤ t.root.size := by have h := allN_length t.root []; rw [← hfst, List.length_map] at h; exact h
  have hall := fun w1 (h : Below w.heap.size w w1) => refAll_walk t.root (by omega) [] w1 _ (fun _ => False) _ _ (hn.below h) (Sl.nil 0 none) (by simp; omega)
  rw [← hfst] at hall
  rw [hfin]
  clear hND hfin hfst
  have HDN := Lib.hid hdn
  clear hdn
  have hBX := blast w (.cells #[.int .u32 t.boot, .slice A1 t.res.length c1, .string t.root.name, .slice A2 t.root.props.length c2, .slice A3 t.root.kids.length c3] 34) _ rfl
  go_enter Tryz.func17, Tryz.ntmps17
  go_wp2_with (first
    | (go_at_call 62; refine (hall _ (by repeat (first | assumption | exact Below.refl _ _ | with_reducible refine bset ?_ (by simp) _ | with_reducible refine balloc ?_ _ | with_reducible refine bdrew ?_ | with_reducible refine bdrewN ?_ _ | with_reducible refine bstep ?_ (by assumption)))).mono ?_; clear hall; rintro e w1 ⟨v1, rfl, hs1, hb1⟩; obtain ⟨A5, c5, rfl, hc5, hl5, ha5⟩ := hs1; simp only [List.length_map] at hc5 hl5; rw [List.length_map]))
  have hbw1 := bstep (balloc (brefl w) _) hb1
  have hT1 := bblock hBX hb1
  have hlt1 := blockLt hT1
  have ha6 : SlA (tSl tInt) w1 (fun j => w.heap.size ≤ j ∧ j < w1.heap.size) A5 (ND.map (·.1)) := ha5.mono (ok' := fun j => w.heap.size ≤ j ∧ j < w1.heap.size) fun j h hlt => ⟨by have h9 : (w.alloc (.cells #[.int .u32 t.boot, .slice A1 t.res.length c1, .string t.root.name, .slice A2 t.root.props.length c2, .slice A3 t.root.kids.length c3] 34)).heap.size ≤ j := h; simp only [World.size_alloc] at h9; omega, hlt⟩
  have hT := hv.below hbw1
  clear hb1 hBX hv ha5 hn
  go_loopw [4, 18] (fun a i wr => ∃ (k : Nat) (l : List Ref), k ≤ ND.length ∧ i = .int .i64 k ∧ foldOf [] (ND.take k) = .ok l ∧ l.length ≤ k ∧ Own tRef 138 wr w1.heap.size (w.heap.size ≤ ·) a l ∧ Below w1.heap.size w1 wr) (fun _ i _ => ND.length - (intOf i).toNat)
  case atStart => exact ⟨0, [], by omega, rfl, rfl, by simp, Own.nil, brefl _⟩
  case round =>
    obtain ⟨k, l, hk, rfl, hfold, hll, hrow, hb⟩ := hrel
    have hbw := bstep hbw1 hb
    have hTr := bblock hT1 hb
    have t0 := bcellAt hTr 0 rfl
    have t1 := bcellAt hTr 1 rfl
    have t2 := bcellAt hTr 2 rfl
    have t3 := bcellAt hTr 3 rfl
    have t4 := bcellAt hTr 4 rfl
    have ltT := blockLt hTr
    by_cases hkl : k < ND.length
    · have hx : ND[k]? = some ND[k] := List.getElem?_eq_getElem hkl
      have hdn := HDN.out _ (List.getElem_mem hkl)
      have herr := fun e => fold_err (e := e) hx hfold
      have hok := fun l' => fold_ok (l' := l') hx hfold
      have hpx : (ND.map (·.1))[k]? = some ND[k].1 := by rw [List.getElem?_map, hx]; rfl
      obtain ⟨⟨p, m⟩, hpm⟩ : ∃ y, y = ND[k] := ⟨_, rfl⟩
      rw [← hpm] at hdn herr hok hpx
      simp only at hdn herr hok hpx
      have hms := downN_size hdn
      obtain ⟨bA, oA, Ap, cp, rfl, hobA, hlbA, hcell, hcp, hlp, hap⟩ := (ha6.below hb).sl_at hpx
      have hsp : Sl tInt wr (fun j => w.heap.size ≤ j ∧ j < w1.heap.size) (.slice Ap p.length cp) p := ⟨Ap, cp, rfl, hcp, hlp, hap⟩
      have hget := fun w6 (h : Below wr.heap.size wr w6) => refGet_walk t hsz p m hdn w6 _ _ _ _ ((hT.below hb).below h) (hsp.below h)
      have hk0 : (0 : Int) ≤ (k : Int) := by omega
      have hk1 : (k : Int) < (ND.length : Int) := by omega
      have hll2 : l.length ≤ 536870912 := by omega
      have HERR := Lib.hid herr
      have HOK := Lib.hid hok
      have HA6 := Lib.hid ha6
      clear hpx hpm herr hok hx ha6 hfold hobA hcp hlp
      go_upto_block 1 with fail
      go_upto_region 6 with fail
      go_cut [7] (fun c wx => ∃ (b : Nat) (Am : Option Addr) (cm : Nat) (Bm : Option Addr) (dm : Nat), c = .pointer (some ⟨b, 0, none⟩) ∧ wr.heap.size ≤ b ∧ wx.heap[b]? = some (.cells #[.string m.name, .slice Am m.props.length cm, .slice Bm m.kids.length dm] 32 (0, 0)) ∧
        NdV wx (· < w.heap.size) (.agg #[.string m.name, .slice Am m.props.length cm, .slice Bm m.kids.length dm]) m ∧ Below wr.heap.size wr wx)
      case first =>
        go_region_law (first
          | (go_simp; go_at_call 63; (refine (hget _ ?_).mono ?_); exact (by repeat (first | assumption | exact Below.refl _ _ | with_reducible refine bset ?_ (by simp) _ | with_reducible refine balloc ?_ _ | with_reducible refine bdrew ?_ | with_reducible refine bdrewN ?_ _ | with_reducible refine bstep ?_ (by assumption))); rintro e w5 ⟨v5, rfl, hv5, hb5⟩; obtain ⟨A7, c7, B7, d7, rfl, hA7⟩ := hv5.form; clear hA7; (try (have hz : w5.heap[wr.heap.size]? = some (.cells #[.string ⟨#[]⟩, .slice none 0 0, .slice none 0 0] 32 (0, 0)) := bblock (blast wr.drew _ wr.heap.size rfl) hb5; have z0 := bcellAt hz 0 rfl; have z1 := bcellAt hz 1 rfl; have z2 := bcellAt hz 2 rfl; have y0 := bfrozenAt hz 0; have y1 := bfrozenAt hz 1; have y2 := bfrozenAt hz 2; have zl := blockLt hz; have HZ := Lib.hid hz; clear hz))))
        all_goals go_wp2_with fail
        all_goals go_meet
        all_goals first
          | (refine ⟨w5.heap.size, A7, c7, B7, d7, ?_, ?_, ?_, ?_, ?_⟩; (with_reducible rfl); (have := hb5.size; simp at this; omega); exact blast _ _ _ rfl; exact (hv5.below (balloc (brefl _) _)).mono fun k h _ => h; exact balloc (bstep (bdrew (brefl wr)) hb5) _)
          | (refine ⟨wr.heap.size, A7, c7, B7, d7, ?_, ?_, ?_, ?_, ?_⟩; (with_reducible rfl); exact Nat.le_refl _; exact bset3At HZ.out _ _ _; exact ((hv5.set3 (fun k h _ => by have h9 : k < w.heap.size := h; omega) _ _ _).mono fun k h _ => h); exact bset3 (bstep (balloc (bdrew (brefl wr)) _) hb5) (Nat.le_refl _) _ _ _)
      case rest =>
        obtain ⟨b, Am, cm, Bm, dm, rfl, hgb, hbg, hmv, hbx⟩ := hcut
        have p0 := bcellAt (v := .string m.name) hbg 0 rfl
        have p1 := bcellAt (v := .slice Am m.props.length cm) hbg 1 rfl
        have p2 := bcellAt (v := .slice Bm m.kids.length dm) hbg 2 rfl
        have lb := blockLt hbg
        have hone := fun w6 (h : Below wc.heap.size wc w6) => refOne_walk m (by omega) phandle w6 _ _ (hmv.below h)
        have hxl := one_lt hmv phandle
        obtain ⟨x, f, e0, ho⟩ : ∃ x f e0, oneN m phandle = (x, f, e0) := ⟨_, _, _, rfl⟩
        have hsaid := ofOne_said (l := l) (p := p) ho (by rw [ho] at hxl; exact hxl)
        rw [ho] at hxl
        simp only [ho] at hone hxl
        unfold phandle at hone
        have hbwx := bstep hbw hbx
        have hrow := hrow.below hbx
        clear ho t0 t1 t2 t3 t4 ltT hget
        rcases hsaid with ⟨g0, hs⟩ | ⟨rfl, rfl, hs⟩ | ⟨rfl, rfl, g1, hs⟩ | ⟨rfl, rfl, g1, g2, hs⟩ | ⟨rfl, rfl, g1, g2, g3, hs⟩ | ⟨rfl, rfl, g1, g2, g3, hs⟩
        · have q0 : (e0 != 0) = true := by rw [bne_iff_ne]; exact g0
          have HF := Lib.hid (HERR.out _ hs)
          have G0 := Lib.hid g0
          clear g0 hs
          go_wp2_with (first
            | (go_at_call 64; refine (hone _ (by repeat (first | assumption | exact Below.refl _ _ | with_reducible refine bset ?_ (by simp) _ | with_reducible refine balloc ?_ _ | with_reducible refine bdrew ?_ | with_reducible refine bdrewN ?_ _ | with_reducible refine bstep ?_ (by assumption)))).mono ?_; clear hone; rintro e w6 ⟨rfl, hb6⟩))
          go_ret2
          exact ⟨_, _, rfl, .inr ⟨G0.out, HF.out⟩, bstep hbwx hb6⟩
        · have HF := Lib.hid (HOK.out _ hs)
          clear hs
          go_wp2_with (first
            | (go_at_call 64; refine (hone _ (by repeat (first | assumption | exact Below.refl _ _ | with_reducible refine bset ?_ (by simp) _ | with_reducible refine balloc ?_ _ | with_reducible refine bdrew ?_ | with_reducible refine bdrewN ?_ _ | with_reducible refine bstep ?_ (by assumption)))).mono ?_; clear hone; rintro e w6 ⟨rfl, hb6⟩))
          go_roundw
          case rel => exact ⟨k + 1, l, by omega, by go_num, HF.out, by omega, hrow.below hb6, bstep (bstep hb hbx) hb6⟩
          case measure => simp [intOf]; omega
        · have HF := Lib.hid (HERR.out _ hs)
          have q1 : ((x : Int) == 0) = true := by rw [beq_iff_eq]; exact g1
          clear g1 hs
          go_wp2_with (first
            | (go_at_call 64; refine (hone _ (by repeat (first | assumption | exact Below.refl _ _ | with_reducible refine bset ?_ (by simp) _ | with_reducible refine balloc ?_ _ | with_reducible refine bdrew ?_ | with_reducible refine bdrewN ?_ _ | with_reducible refine bstep ?_ (by assumption)))).mono ?_; clear hone; rintro e w6 ⟨rfl, hb6⟩))
          go_ret2
          exact ⟨_, _, rfl, .inr ⟨by decide, HF.out⟩, bstep hbwx hb6⟩
        · have HF := Lib.hid (HERR.out _ hs)
          have q1 : ((x : Int) == 0) = false := by rw [beq_eq_false_iff_ne]; exact g1
          have q2 : ((x : Int) == 4294967295) = true := by rw [beq_iff_eq]; exact g2
          clear g1 g2 hs
          go_wp2_with (first
            | (go_at_call 64; refine (hone _ (by repeat (first | assumption | exact Below.refl _ _ | with_reducible refine bset ?_ (by simp) _ | with_reducible refine balloc ?_ _ | with_reducible refine bdrew ?_ | with_reducible refine bdrewN ?_ _ | with_reducible refine bstep ?_ (by assumption)))).mono ?_; clear hone; rintro e w6 ⟨rfl, hb6⟩))
          go_ret2
          exact ⟨_, _, rfl, .inr ⟨by decide, HF.out⟩, bstep hbwx hb6⟩
        · have HF := Lib.hid (HERR.out _ hs)
          have q1 : ((x : Int) == 0) = false := by rw [beq_eq_false_iff_ne]; exact g1
          have q2 : ((x : Int) == 4294967295) = false := by rw [beq_eq_false_iff_ne]; exact g2
          have G3 := Lib.hid g3
          have hx0 : (0 : Int) ≤ (x : Int) := by omega
          have hx9 : (x : Int) < 4294967296 := by omega
          obtain ⟨y, hy⟩ : ∃ y : Int, (x : Int) = y := ⟨_, rfl⟩
          simp only [hy] at hone q1 q2 hx0 hx9 HF G3
          obtain ⟨Av, cv, rfl, hcv, hlv, hav⟩ := hrow.form
          clear g1 g2 g3 hs hy hxl
          go_wp2_with (first
            | (go_at_call 64; refine (hone _ (by repeat (first | assumption | exact Below.refl _ _ | with_reducible refine bset ?_ (by simp) _ | with_reducible refine balloc ?_ _ | with_reducible refine bdrew ?_ | with_reducible refine bdrewN ?_ _ | with_reducible refine bstep ?_ (by assumption)))).mono ?_; clear hone; rintro e w6 ⟨rfl, hb6⟩))
          have hb8 : Below wr.heap.size wr w6 := bstep hbx hb6
          have hcell8 := bkeep hb8 hcell
          have hws8 := hb8.size
          have hwsb := hb.size
          have hwsw := hbw.size
          have hb8w := bstep hb hb8
          have hbw8 := bstep hbw hb8
          have hsp8 := hsp.below hb8
          have hrow8 := hrow.below hb6
          have hav8 := hav.below hb6
          clear hav hcell hsp hrow
          go_loopw [49] (fun i wq => ∃ j : Nat, j ≤ l.length ∧ i = .int .i64 j ∧ (∀ q ∈ l.take j, q.1 ≠ y) ∧ Below w6.heap.size w6 wq) (fun i _ => l.length - (intOf i).toNat)
          case atStart => exact ⟨0, by omega, rfl, by simp, brefl _⟩
          case round =>
            obtain ⟨j, hj, rfl, hall, hbq⟩ := hrel
            have HA := Lib.hid hall
            clear hall
            have hcell9 := bkeep hbq hcell8
            have hzq := hbq.size
            by_cases hjl : j < l.length
            · have hx : l[j]? = some l[j] := List.getElem?_eq_getElem hjl
              obtain ⟨z, hze⟩ : ∃ z, z = l[j] := ⟨_, rfl⟩
              rw [← hze] at hx
              obtain ⟨b8, off8, A8, c8, rfl, hob, hlb8, r0, r1, u0, u1, hsl⟩ := (hav8.below hbq).ref_at hx
              obtain ⟨z0, z1⟩ := z
              simp only at r0 r1 u0 u1 hsl
              by_cases hq : z0 = y
              · have q9 : (z0 == y) = true := by rw [beq_iff_eq]; exact hq
                clear hx hze hq hav8
                go_wp2_with fail
                go_ret2
                exact ⟨_, _, rfl, .inr ⟨by decide, HF.out⟩, bstep hbw8 hbq⟩
              · have HN := Lib.hid (all_snoc (P := fun q : Ref => q.1 ≠ y) hx HA.out hq)
                have q9 : (z0 == y) = false := by rw [beq_eq_false_iff_ne]; exact hq
                clear hx hze hq hav8
                go_wp2_with fail
                go_roundw
                case rel => exact ⟨j + 1, by omega, by go_num, HN.out, (by repeat (first | assumption | exact Below.refl _ _ | with_reducible refine bset ?_ (by simp) _ | with_reducible refine balloc ?_ _ | with_reducible refine bdrew ?_ | with_reducible refine bdrewN ?_ _ | with_reducible refine bstep ?_ (by assumption)))⟩
                case measure => simp [intOf]; omega
            · obtain rfl : j = l.length := by omega
              have h5 := HA.out
              rw [List.take_length] at h5
              have h6 := G3.out
              rw [known_false h5] at h6
              cases h6
        · have HF := Lib.hid (HOK.out _ hs)
          have q1 : ((x : Int) == 0) = false := by rw [beq_eq_false_iff_ne]; exact g1
          have q2 : ((x : Int) == 4294967295) = false := by rw [beq_eq_false_iff_ne]; exact g2
          have G3 := Lib.hid g3
          have hx0 : (0 : Int) ≤ (x : Int) := by omega
          have hx9 : (x : Int) < 4294967296 := by omega
          obtain ⟨y, hy⟩ : ∃ y : Int, (x : Int) = y := ⟨_, rfl⟩
          simp only [hy] at hone q1 q2 hx0 hx9 HF G3
          obtain ⟨Av, cv, rfl, hcv, hlv, hav⟩ := hrow.form
          clear g1 g2 g3 hs hy hxl
          go_wp2_with (first
            | (go_at_call 64; refine (hone _ (by repeat (first | assumption | exact Below.refl _ _ | with_reducible refine bset ?_ (by simp) _ | with_reducible refine balloc ?_ _ | with_reducible refine bdrew ?_ | with_reducible refine bdrewN ?_ _ | with_reducible refine bstep ?_ (by assumption)))).mono ?_; clear hone; rintro e w6 ⟨rfl, hb6⟩))
          have hb8 : Below wr.heap.size wr w6 := bstep hbx hb6
          have hcell8 := bkeep hb8 hcell
          have hws8 := hb8.size
          have hwsb := hb.size
          have hwsw := hbw.size
          have hb8w := bstep hb hb8
          have hbw8 := bstep hbw hb8
          have hsp8 := hsp.below hb8
          have hrow8 := hrow.below hb6
          have hav8 := hav.below hb6
          clear hav hcell hsp hrow
          go_loopw [49] (fun i wq => ∃ j : Nat, j ≤ l.length ∧ i = .int .i64 j ∧ (∀ q ∈ l.take j, q.1 ≠ y) ∧ Below w6.heap.size w6 wq) (fun i _ => l.length - (intOf i).toNat)
          case atStart => exact ⟨0, by omega, rfl, by simp, brefl _⟩
          case round =>
            obtain ⟨j, hj, rfl, hall, hbq⟩ := hrel
            have HA := Lib.hid hall
            clear hall
            have hcell9 := bkeep hbq hcell8
            have hzq := hbq.size
            by_cases hjl : j < l.length
            · have hx : l[j]? = some l[j] := List.getElem?_eq_getElem hjl
              obtain ⟨z, hze⟩ : ∃ z, z = l[j] := ⟨_, rfl⟩
              rw [← hze] at hx
              obtain ⟨b8, off8, A8, c8, rfl, hob, hlb8, r0, r1, u0, u1, hsl⟩ := (hav8.below hbq).ref_at hx
              obtain ⟨z0, z1⟩ := z
              simp only at r0 r1 u0 u1 hsl
              by_cases hq : z0 = y
              · have h6 := G3.out
                rw [known_true hx hq] at h6
                cases h6
              · have HN := Lib.hid (all_snoc (P := fun q : Ref => q.1 ≠ y) hx HA.out hq)
                have q9 : (z0 == y) = false := by rw [beq_eq_false_iff_ne]; exact hq
                clear hx hze hq hav8
                go_wp2_with fail
                go_roundw
                case rel => exact ⟨j + 1, by omega, by go_num, HN.out, (by repeat (first | assumption | exact Below.refl _ _ | with_reducible refine bset ?_ (by simp) _ | with_reducible refine balloc ?_ _ | with_reducible refine bdrew ?_ | with_reducible refine bdrewN ?_ _ | with_reducible refine bstep ?_ (by assumption)))⟩
                case measure => simp [intOf]; omega
            · obtain rfl : j = l.length := by omega
              have h5 := HA.out
              rw [List.take_length] at h5
              clear h5 hav8
              go_wp2_with (first
                | (at_builtin; refine wpList_own1 rfl elRef38 _ _ rfl (hrow8.below (balloc hbq _)) rfl rfl (blast _ _ _ (by simp; done)) (y := (y, p)) (rep_ref hx0 hx9 ((hsp8.below (balloc hbq _)).mono fun k h hlt => ⟨h.1, fun e => by have := (hrow8.lt k e.symm).1; have := h.2; omega⟩)) (by omega) (by simp; omega) (fun k h => by simp at h; omega) ?_; intro g9 cap9 w9 hrow9 hg9 hat9 hlt9))
              go_roundw
              case rel => exact ⟨k + 1, _, by omega, by go_num, HF.out, by simp; omega, hrow9, bgrown (balloc (bstep hb8w hbq) _) hg9 (hrow8.base (Nat.le_refl _))⟩
              case measure => simp [intOf]; omega
    · obtain rfl : k = ND.length := by omega
      rw [List.take_length] at hfold
      have HF := Lib.hid hfold
      clear hfold
      obtain ⟨Av, cv, rfl, _, _, hvf⟩ := hrow.form
      go_wp2_with fail
      go_ret2
      exact ⟨_, _, rfl, .inl ⟨rfl, l, HF.out⟩, hbw⟩
end Go.Proofs.YtdfknlhfdbbogaaGreatDoor

namespace Go.Proofs.YtdfknlhfdbbogaaGreatDoor
open Go.RowKit
set_option linter.unusedSimpArgs false
set_option linter.unusedVariables false
theorem cause_none (w : World) : Calls Tryz.prog 18 #[.nilIface] w fun e w' => e = .returned (.tuple #[.int .i64 0, .slice none 0 0]) ∧ Below w.heap.size w w' := by
  go_enter Tryz.func18, Tryz.ntmps18
  go_wp2_with fail
  go_ret2
  exact ⟨rfl, brefl _⟩
set_option maxRecDepth 100000 in
theorem cause_num (en : Int) (hen : en ≠ 0) (w : World) (hg : Et w) : Calls Tryz.prog 18 #[.iface 36 (.int .i64 en)] w fun e w' => e = .returned (.tuple #[.int .i64 en, .slice none 0 0]) ∧ Below w.heap.size w w' := by
  go_enter Tryz.func18, Tryz.ntmps18
  go_wp2_with (first
    | (go_at_call 65; refine (as_num en ⟨w.heap.size, 0, none⟩ (.int .i64 0) (w.alloc (.cells #[.int .i64 0] 36)) (hg.below (balloc (brefl w) _)) (bcellAt (blast w (.cells #[.int .i64 0] 36) _ rfl) 0 rfl) (bfrozenAt (blast w (.cells #[.int .i64 0] 36) _ rfl) 0)).mono ?_; rintro e w1 ⟨rfl, W1, hbW1, rfl⟩; have E1 := bsetAt (bblock (blast w (.cells #[.int .i64 0] 36) _ rfl) hbW1) 0 (.int .i64 en); have hbw1 : Below w.heap.size w (W1.setCell ⟨w.heap.size, 0, none⟩ (.int .i64 en)) := bset (bstep (balloc (brefl w) _) hbW1) (Nat.le_refl _) _)
    | (go_at_call 66; refine (is_num en hen _).mono ?_; rintro e w2 ⟨rfl, hb2⟩; have hbw2 := bstep hbw1 hb2; have E2 := bblock E1 hb2; have e4 := bcellAt (v := .int .i64 en) E2 0 rfl; have le := blockLt E2; have hz2 := hbw2.size))
  refine wp_loop_rounds 1 ?_
  rw [rounds_succ]
  go_wp2_with (first
    | (go_at_call 65; refine (as_not en ⟨w2.heap.size, 0, none⟩ (.pointer none) (w2.alloc (.cells #[.pointer none] 142)) (hg.below (balloc hbw2 _)) (bcellAt (blast w2 (.cells #[.pointer none] 142) _ rfl) 0 rfl) (bfrozenAt (blast w2 (.cells #[.pointer none] 142) _ rfl) 0)).mono ?_; rintro e w3 ⟨rfl, hb3⟩; have E3 := bblock (bblock_alloc E2 (.cells #[.pointer none] 142)) hb3; clear e4 le; have e4 := bcellAt (v := .int .i64 en) E3 0 rfl; have le := blockLt E3; have hbw3 := bstep (balloc hbw2 _) hb3))
  go_ret2
  exact ⟨rfl, hbw3⟩
set_option maxRecDepth 100000 in
theorem cause_at (en : Int) (hen : en ≠ 0) (s : ByteArray) (b : Nat) (w : World) (hg : Et w) (hc0 : w.cell? ⟨b, 0, none⟩ = some (.string s)) (hc1 : w.cell? ⟨b, 1, none⟩ = some (.iface 36 (.int .i64 en))) :
    Calls Tryz.prog 18 #[.iface 142 (.pointer (some ⟨b, 0, none⟩))] w fun e w' => ∃ v', e = .returned (.tuple #[.int .i64 en, v']) ∧ Sl tStr w' (w.heap.size ≤ ·) v' [s] ∧ Below w.heap.size w w' := by
  go_enter Tryz.func18, Tryz.ntmps18
  go_wp2_with (first
    | (go_at_call 65; refine (as_wrap en s b ⟨w.heap.size, 0, none⟩ (.int .i64 0) (w.alloc (.cells #[.int .i64 0] 36)) (hg.below (balloc (brefl w) _)) (bcellAt (blast w (.cells #[.int .i64 0] 36) _ rfl) 0 rfl) (bfrozenAt (blast w (.cells #[.int .i64 0] 36) _ rfl) 0) (bkeep (balloc (brefl w) _) hc0) (bkeep (balloc (brefl w) _) hc1)).mono ?_; rintro e w1 ⟨rfl, W1, hbW1, rfl⟩; have E1 := bsetAt (bblock (blast w (.cells #[.int .i64 0] 36) _ rfl) hbW1) 0 (.int .i64 en); have hbw1 : Below w.heap.size w (W1.setCell ⟨w.heap.size, 0, none⟩ (.int .i64 en)) := bset (bstep (balloc (brefl w) _) hbW1) (Nat.le_refl _) _)
    | (go_at_call 66; refine (is_wrap en hen s b _ (bkeep hbw1 hc0) (bkeep hbw1 hc1)).mono ?_; rintro e w2 ⟨rfl, hb2⟩; have hbw2 := bstep hbw1 hb2; have E2 := bblock E1 hb2; have e4 := bcellAt (v := .int .i64 en) E2 0 rfl; have le := blockLt E2; have hz2 := hbw2.size))
  refine wp_loop_rounds 2 ?_
  rw [rounds_succ]
  go_wp2_with (first
    | (go_at_call 65; refine (as_path b ⟨w2.heap.size, 0, none⟩ (.pointer none) (w2.alloc (.cells #[.pointer none] 142)) (hg.below (balloc hbw2 _)) (bcellAt (blast w2 (.cells #[.pointer none] 142) _ rfl) 0 rfl) (bfrozenAt (blast w2 (.cells #[.pointer none] 142) _ rfl) 0)).mono ?_; rintro e w3 ⟨rfl, W3, hb3, rfl⟩; have hbW3 := bstep (balloc hbw2 _) hb3; have E3 := bsetFar (p := ⟨w2.heap.size, 0, none⟩) (bblock (bblock_alloc E2 (.cells #[.pointer none] 142)) hb3) (by show w.heap.size ≠ w2.heap.size; omega) (.pointer (some ⟨b, 0, none⟩)); have F3 := bsetAt (bblock (blast w2 (.cells #[.pointer none] 142) _ rfl) hb3) 0 (.pointer (some ⟨b, 0, none⟩)); have hbw3 : Below w.heap.size w (W3.setCell ⟨w2.heap.size, 0, none⟩ (.pointer (some ⟨b, 0, none⟩))) := bset hbW3 (by show w.heap.size ≤ w2.heap.size; omega) _; clear e4 le; have e4 := bcellAt (v := .int .i64 en) E3 0 rfl; have le := blockLt E3; have f6 := bcellAt (v := .pointer (some ⟨b, 0, none⟩)) F3 0 rfl; have lf := blockLt F3; have d0 := bkeep hbw3 hc0; have d1 := bkeep hbw3 hc1; have ld := World.block_lt_of_cell? _ _ d0)
    | (at_builtin; refine wpList_row1 rfl elStr _ _ rfl (Own.nil (base := w.heap.size)) rfl rfl (blast _ _ _ (by simp)) (y := s) rep_str (by decide) (by simp only [World.size_alloc]; have := hbw3.size; omega) ?_; intro g4 cap4 w4 hr4 hg4 hat4 hlt4; have hB4 := bgrown (balloc hbw3 _) hg4 (fun j hj => by simp [Value.ownBlock] at hj); have hb4 := (balloc (brefl (W3.setCell ⟨w2.heap.size, 0, none⟩ (.pointer (some ⟨b, 0, none⟩)))) (.cells #[.string s] 9)).trans ((ofGrown hg4 rfl).mono (by simp)); have E4 := bblock E3 hb4; have F4 := bblock F3 hb4; clear e4 le f6 lf; have e4 := bcellAt (v := .int .i64 en) E4 0 rfl; have le := blockLt E4; have f6 := bcellAt (v := .pointer (some ⟨b, 0, none⟩)) F4 0 rfl; have lf := blockLt F4; have y6 := bfrozenAt F4 0; have d0 := bkeep hB4 hc0; have d1 := bkeep hB4 hc1; have hsl4 := hr4.sl))
  rw [rounds_succ]
  go_wp2_with (first
    | (go_at_call 65; refine (as_not en ⟨w2.heap.size, 0, none⟩ (.pointer (some ⟨b, 0, none⟩)) _ (hg.below hB4) f6 y6).mono ?_; rintro e w5 ⟨rfl, hb5⟩; have E5 := bblock E4 hb5; clear e4 le; have e4 := bcellAt (v := .int .i64 en) E5 0 rfl; have le := blockLt E5; have hbw5 := bstep hB4 hb5))
  go_ret2
  exact ⟨_, rfl, hsl4.below hb5, hbw5⟩
/-- Cause, at what is wrong. -/
theorem cause_walk (x : Wrong) (w : World) (hg : Et w) (base : Nat) (v : Value) (hv : ErrV w base v x) :
    Calls Tryz.prog 18 #[v] w fun e w' => ∃ v', e = .returned (.tuple #[.int .i64 x.cause.1, v']) ∧ Sl tStr w' (w.heap.size ≤ ·) v' x.cause.2 ∧ Below w.heap.size w w' := by
  cases x with
  | none =>
    obtain rfl : v = _ := hv
    exact (cause_none w).mono fun e w' ⟨h1, h2⟩ => ⟨_, h1, Sl.nil _ _, h2⟩
  | num en =>
    obtain ⟨rfl, hen⟩ := hv
    exact (cause_num en hen w hg).mono fun e w' ⟨h1, h2⟩ => ⟨_, h1, Sl.nil _ _, h2⟩
  | «at» p en =>
    obtain ⟨b, rfl, _, h0, h1, hen⟩ := hv
    exact cause_at en hen p b w hg h0 h1
end Go.Proofs.YtdfknlhfdbbogaaGreatDoor

namespace Go.Proofs.YtdfknlhfdbbogaaGreatDoor
open Go.RowKit
set_option linter.unusedSimpArgs false
set_option linter.unusedVariables false
section
variable {H : Type} {enc : TypeId × Value → H} {W : World} {sp : Nat → Bool} {hd : Bool}
abbrev okT : Nat → Prop := fun _ => True
theorem bulk_append (l r : List (DataW H)) : Rows.uptoBulkAll (l ++ r) = Rows.uptoBulkAll l + Rows.uptoBulkAll r := by
  induction l with
  | nil => simp [Rows.uptoBulkAll]
  | cons x l ih => simp only [List.cons_append, Rows.uptoBulkAll, ih]; omega
/-- A slice's elements, one behind the other. -/
theorem open_elems {α : Type} {T : Ty α} (sz : α → Nat) {b off : Nat} {R : List Value → DataW H × List MemPlace → Prop} (hE : ∀ cs x, R cs x → ∃ y, T.rep W okT y cs ∧ sz y ≤ Rows.uptoBulk x.1)
    (elems : List (DataW H × List MemPlace)) (hel : ∀ i x, elems[i]? = some x → ∃ cs, W.cells? 0 ⟨b, off + i * T.sz, none⟩ T.sz = some cs ∧ R cs x) :
    ∃ ys cells, ys.length = elems.length ∧ Reps T W okT ys cells ∧ (∀ j u, cells[j]? = some u → W.cell? ⟨b, off + j, none⟩ = some u) ∧ (ys.map sz).sum ≤ Rows.uptoBulkAll (elems.map (·.1)) := by
  have K : ∀ k, k ≤ elems.length → ∃ ys cells, ys.length = k ∧ Reps T W okT ys cells ∧ (∀ j u, cells[j]? = some u → W.cell? ⟨b, off + j, none⟩ = some u) ∧ (ys.map sz).sum ≤ Rows.uptoBulkAll ((elems.take k).map (·.1)) := by
    intro k
    induction k with
    | zero => intro _; exact ⟨[], [], rfl, Reps.nil, fun j u h => by simp at h, by simp [Rows.uptoBulkAll]⟩
    | succ k ih =>
      intro hk
      obtain ⟨ys, cells, h1, h2, h3, h4⟩ := ih (by omega)
      have hx : elems[k]? = some elems[k] := List.getElem?_eq_getElem (by omega)
      obtain ⟨cs, hc, hR⟩ := hel k _ hx
      obtain ⟨y, hy, hs⟩ := hE _ _ hR
      obtain ⟨_, hl, hcell⟩ := World.cells?_some hc
      refine ⟨ys ++ [y], cells ++ cs, by simp [h1], h2.snoc hy, fun j u hu => ?_, ?_⟩
      · rw [List.getElem?_append] at hu
        split at hu
        · exact h3 j u hu
        · rename_i hj
          have hj2 : j - cells.length < cs.length := (List.getElem?_eq_some_iff.1 hu).1
          have := hcell (j - cells.length) (by omega)
          rw [hu, Addr.add_lit] at this
          rw [← this, h2.1, h1]
          congr 2
          have h9 := h2.1
          rw [h1] at h9
          omega
      · rw [show elems.take (k + 1) = elems.take k ++ [elems[k]] from by rw [List.take_add_one, hx]; rfl]
        simp only [List.map_append, bulk_append, List.sum_append, Rows.uptoBulkAll, List.map_cons, List.map_nil, List.sum_cons, List.sum_nil]
        omega
  obtain ⟨ys, cells, h1, h2, h3, h4⟩ := K elems.length (Nat.le_refl _)
  rw [List.take_length] at h4
  exact ⟨ys, cells, h1, h2, h3, h4⟩
/-- A slice. -/
theorem open_sl {α : Type} {T : Ty α} {t e : TypeId} (ht : Tryz.prog.underlying t = some (.slice e)) (hce : Tryz.prog.cellsOf e = T.sz) (sz : α → Nat) {fuel : Nat}
    (hE : ∀ n, n < fuel → ∀ cs (x : DataW H × List MemPlace), DataW.trod enc Tryz.prog W 0 sp hd n e cs = some x → ∃ y, T.rep W okT y cs ∧ sz y ≤ Rows.uptoBulk x.1)
    {cs : List Value} {x : DataW H × List MemPlace} (h : DataW.trod enc Tryz.prog W 0 sp hd fuel t cs = some x) :
    ∃ v ys, cs = [v] ∧ Sl T W okT v ys ∧ (ys.map sz).sum + 1 ≤ Rows.uptoBulk x.1 := by
  rcases DataW.trod_slice ht h with ⟨rfl, rfl⟩ | ⟨a, len, cap, elems, rest, n, hn, rfl, rfl, _, hlc, hcap, hlen, hel, _, _⟩
  · exact ⟨_, [], rfl, Sl.nil 0 none, by simp [Rows.uptoBulk]⟩
  · rw [hce] at hel
    by_cases h0 : len = 0
    · subst h0
      have he : elems = [] := List.eq_nil_of_length_eq_zero hlen
      subst he
      exact ⟨_, [], rfl, Sl.nil cap (some a), by simp [Rows.uptoBulk, Rows.uptoBulkAll]⟩
    · have hsp : a.spot = none ∧ a.block < W.heap.size := by
        have h1 := hel 0 (by omega)
        rw [List.getElem?_eq_getElem (by omega)] at h1
        obtain ⟨cs, hc, _⟩ := Option.bind_eq_some_iff.1 h1
        obtain ⟨_, hl, hcell⟩ := World.cells?_some hc
        have h2 := hcell 0 T.pos
        have hp := T.pos
        rw [List.getElem?_eq_getElem (by omega)] at h2
        obtain ⟨u, h3⟩ : ∃ u, W.cell? a = some u := ⟨_, by simpa [Addr.add] using h2⟩
        exact ⟨World.cell?_spot h3, World.block_lt_of_cell? _ _ h3⟩
      obtain ⟨b, off, spot⟩ := a
      obtain ⟨rfl, hb⟩ := hsp
      simp only [Addr.add_lit] at hel
      obtain ⟨ys, cells, h1, h2, h3, h4⟩ := open_elems (W := W) (T := T) (b := b) (off := off) sz (R := fun cs x => DataW.trod enc Tryz.prog W 0 sp hd n e cs = some x) (fun cs x hx => hE n (by omega) cs x hx) elems (fun i x hx => by
        have hi := (List.getElem?_eq_some_iff.1 hx).1
        have h1 := hel i (by omega)
        rw [hx] at h1
        obtain ⟨cs, hc, ht⟩ := Option.bind_eq_some_iff.1 h1
        exact ⟨cs, hc, ht⟩)
      have hm : maxLen ≤ 9223372036854775807 := by unfold maxLen; omega
      have hyl : ys.length = len := by omega
      subst hyl
      refine ⟨_, ys, rfl, ⟨_, _, rfl, hlc, by omega, cells, h2, fun _ => ⟨b, off, rfl, trivial, hb, h3⟩⟩, ?_⟩
      simp only [Rows.uptoBulk]
      omega
theorem open_byte {n : Nat} {cs : List Value} {x : DataW H × List MemPlace} (h : DataW.trod enc Tryz.prog W 0 sp hd n 5 cs = some x) : ∃ y, tByte.rep W okT y cs ∧ 1 ≤ Rows.uptoBulk x.1 := by
  obtain ⟨m, rfl, rfl, hw⟩ := DataW.trod_int Tryz.underlying5 h
  simp only [Lit.wf, Bool.and_eq_true, decide_eq_true_eq] at hw
  have e0 : IntKind.u8.min = 0 := rfl
  have e1 : IntKind.u8.max = 255 := rfl
  rw [e0, e1] at hw
  exact ⟨m, rep_num hw.1 (by omega), by simp [Rows.uptoBulk]⟩
theorem ones_sum {α : Type} (l : List α) : (l.map fun _ => 1).sum = l.length := by
  induction l with
  | nil => rfl
  | cons a r ih => simp only [List.map_cons, List.sum_cons, ih, List.length_cons]; omega
theorem open_bytes {n : Nat} {cs : List Value} {x : DataW H × List MemPlace} (h : DataW.trod enc Tryz.prog W 0 sp hd n 57 cs = some x) : ∃ v ys, cs = [v] ∧ Sl tByte W okT v ys ∧ ys.length + 1 ≤ Rows.uptoBulk x.1 := by
  obtain ⟨v, ys, h1, h2, h3⟩ := open_sl Tryz.underlying57 (T := tByte) (by kernel_rfl) (fun _ => 1) (fun n _ cs x h => open_byte h) h
  rw [ones_sum] at h3
  exact ⟨v, ys, h1, h2, h3⟩
theorem cells2 {cs : List Value} (h : cs.length = 2) : ∃ a b, cs = [a, b] := by
  match cs, h with
  | [a, b], _ => exact ⟨a, b, rfl⟩
theorem cells3 {cs : List Value} (h : cs.length = 3) : ∃ a b c, cs = [a, b, c] := by
  match cs, h with
  | [a, b, c], _ => exact ⟨a, b, c, rfl⟩
theorem cells5 {cs : List Value} (h : cs.length = 5) : ∃ a b c d e, cs = [a, b, c, d, e] := by
  match cs, h with
  | [a, b, c, d, e], _ => exact ⟨a, b, c, d, e, rfl⟩
theorem two {α : Type} {xs : List α} (h : xs.length = 2) : ∃ a b, xs = [a, b] := by
  match xs, h with
  | [a, b], _ => exact ⟨a, b, rfl⟩
theorem three {α : Type} {xs : List α} (h : xs.length = 3) : ∃ a b c, xs = [a, b, c] := by
  match xs, h with
  | [a, b, c], _ => exact ⟨a, b, c, rfl⟩
theorem str_bulk (s : ByteArray) : Rows.uptoBulk (DataW.lit (H := H) (.string s.data.toList)) = s.size + 1 := by
  simp [Rows.uptoBulk]
def szPr (p : Pr) : Nat := 1 + p.1.size + p.2.length
theorem props_sum (l : List Pr) : (l.map szPr).sum = Nd.propsSize l := by
  induction l with
  | nil => rfl
  | cons a r ih => simp only [List.map_cons, List.sum_cons, ih, Nd.propsSize, szPr]
theorem kids_sum (l : List Nd) : (l.map Nd.size).sum = Nd.sizes l := by
  induction l with
  | nil => simp [Nd.sizes]
  | cons a r ih => simp only [List.map_cons, List.sum_cons, ih, Nd.sizes]
theorem open_prop {n : Nat} {cs : List Value} {x : DataW H × List MemPlace} (h : DataW.trod enc Tryz.prog W 0 sp hd n 260 cs = some x) : ∃ y, tPr.rep W okT y cs ∧ szPr y ≤ Rows.uptoBulk x.1 := by
  obtain ⟨xs, m, rfl, rfl, hl, hxl, hf⟩ := DataW.trod_struct Tryz.underlying260 h
  have hc : Tryz.prog.cellsOf 260 = 2 := by kernel_rfl
  have c9 : Tryz.prog.cellsOf 9 = 1 := by kernel_rfl
  have c57 : Tryz.prog.cellsOf 57 = 1 := by kernel_rfl
  obtain ⟨a, b, rfl⟩ := cells2 (hl.trans hc)
  obtain ⟨x0, x1, rfl⟩ := two hxl
  have h0 : DataW.trod enc Tryz.prog W 0 sp hd m 9 (([a, b].drop 0).take (Tryz.prog.cellsOf 9)) = some x0 := hf 0 _ rfl
  rw [c9] at h0
  have h1 : DataW.trod enc Tryz.prog W 0 sp hd m 57 (([a, b].drop 1).take (Tryz.prog.cellsOf 57)) = some x1 := hf 1 _ rfl
  rw [c57] at h1
  obtain ⟨s, e0, rfl, _⟩ := DataW.trod_string Tryz.underlying9 h0
  obtain ⟨v, ys, e1, hs, hb⟩ := open_bytes h1
  obtain rfl : a = .string s := by simpa using e0
  obtain rfl : b = v := by simpa using e1
  refine ⟨(s, ys), rep_pr hs, ?_⟩
  simp only [Rows.uptoBulk, Rows.uptoBulkAll, List.map_cons, List.map_nil, str_bulk, szPr]
  have := str_bulk (H := H) s
  simp only [Rows.uptoBulk] at this
  omega
theorem open_node : ∀ (n : Nat) {cs : List Value} {x : DataW H × List MemPlace}, DataW.trod enc Tryz.prog W 0 sp hd n 32 cs = some x → ∃ y, tNd.rep W okT y cs ∧ Nd.size y ≤ Rows.uptoBulk x.1 := by
  intro n
  induction n using Nat.strongRecOn with
  | ind n ih =>
    intro cs x h
    obtain ⟨xs, m, rfl, rfl, hl, hxl, hf⟩ := DataW.trod_struct Tryz.underlying32 h
    have hc : Tryz.prog.cellsOf 32 = 3 := by kernel_rfl
    have c9 : Tryz.prog.cellsOf 9 = 1 := by kernel_rfl
    have c29 : Tryz.prog.cellsOf 29 = 1 := by kernel_rfl
    have c30 : Tryz.prog.cellsOf 30 = 1 := by kernel_rfl
    obtain ⟨a, b, c, rfl⟩ := cells3 (hl.trans hc)
    obtain ⟨x0, x1, x2, rfl⟩ := three hxl
    have h0 : DataW.trod enc Tryz.prog W 0 sp hd m 9 (([a, b, c].drop 0).take (Tryz.prog.cellsOf 9)) = some x0 := hf 0 _ rfl
    rw [c9] at h0
    have h1 : DataW.trod enc Tryz.prog W 0 sp hd m 29 (([a, b, c].drop 1).take (Tryz.prog.cellsOf 29)) = some x1 := hf 1 _ rfl
    rw [c29] at h1
    have h2 : DataW.trod enc Tryz.prog W 0 sp hd m 30 (([a, b, c].drop 2).take (Tryz.prog.cellsOf 30)) = some x2 := hf 2 _ rfl
    rw [c30] at h2
    obtain ⟨s, e0, rfl, _⟩ := DataW.trod_string Tryz.underlying9 h0
    obtain ⟨v, ps, e1, hs, hb⟩ := open_sl Tryz.underlying29 (T := tPr) (by kernel_rfl) szPr (fun n _ cs x h => open_prop h) h1
    obtain ⟨v2, ks, e2, hs2, hb2⟩ := open_sl Tryz.underlying30 (T := tNd) (by kernel_rfl) Nd.size (fun n hn cs x h => ih n (by omega) h) h2
    obtain rfl : a = .string s := by simpa using e0
    obtain rfl : b = v := by simpa using e1
    obtain rfl : c = v2 := by simpa using e2
    rw [props_sum] at hb
    rw [kids_sum] at hb2
    refine ⟨.mk s ps ks, RepN.shut (n := .mk s ps ks) hs hs2, ?_⟩
    have := str_bulk (H := H) s
    simp only [Rows.uptoBulk, Rows.uptoBulkAll, List.map_cons, List.map_nil, Nd.size] at this ⊢
    omega
theorem open_res {n : Nat} {cs : List Value} {x : DataW H × List MemPlace} (h : DataW.trod enc Tryz.prog W 0 sp hd n 130 cs = some x) : ∃ y, tRes.rep W okT y cs ∧ 0 ≤ Rows.uptoBulk x.1 := by
  obtain ⟨xs, m, rfl, rfl, hl, hxl, hf⟩ := DataW.trod_struct Tryz.underlying130 h
  have hc : Tryz.prog.cellsOf 130 = 2 := by kernel_rfl
  have c23 : Tryz.prog.cellsOf 23 = 1 := by kernel_rfl
  obtain ⟨a, b, rfl⟩ := cells2 (hl.trans hc)
  obtain ⟨x0, x1, rfl⟩ := two hxl
  have h0 : DataW.trod enc Tryz.prog W 0 sp hd m 23 (([a, b].drop 0).take (Tryz.prog.cellsOf 23)) = some x0 := hf 0 _ rfl
  rw [c23] at h0
  have h1 : DataW.trod enc Tryz.prog W 0 sp hd m 23 (([a, b].drop 1).take (Tryz.prog.cellsOf 23)) = some x1 := hf 1 _ rfl
  rw [c23] at h1
  obtain ⟨u, e0, rfl, w0⟩ := DataW.trod_int Tryz.underlying23 h0
  obtain ⟨v, e1, rfl, w1⟩ := DataW.trod_int Tryz.underlying23 h1
  obtain rfl : a = .int .u64 u := by simpa using e0
  obtain rfl : b = .int .u64 v := by simpa using e1
  simp only [Lit.wf, Bool.and_eq_true, decide_eq_true_eq] at w0 w1
  have k0 : IntKind.u64.min = 0 := rfl
  have k1 : IntKind.u64.max = 18446744073709551615 := rfl
  rw [k0, k1] at w0 w1
  exact ⟨(u, v), ⟨[_], [_], rfl, rep_num w0.1 (by omega), rep_num w1.1 (by omega)⟩, Nat.zero_le _⟩
/-- THE TREE. -/
theorem open_tree {n : Nat} {cs : List Value} {x : DataW H × List MemPlace} (h : DataW.trod enc Tryz.prog W 0 sp hd n 34 cs = some x) : ∃ t : Tr, TrV W okT (.agg cs.toArray) t ∧ t.root.size ≤ Rows.uptoBulk x.1 := by
  obtain ⟨xs, m, rfl, rfl, hl, hxl, hf⟩ := DataW.trod_struct Tryz.underlying34 h
  have hc : Tryz.prog.cellsOf 34 = 5 := by kernel_rfl
  have c27 : Tryz.prog.cellsOf 27 = 1 := by kernel_rfl
  have c28 : Tryz.prog.cellsOf 28 = 1 := by kernel_rfl
  have c32 : Tryz.prog.cellsOf 32 = 3 := by kernel_rfl
  obtain ⟨a, b, c, d, e, rfl⟩ := cells5 (hl.trans hc)
  obtain ⟨x0, x1, x2, rfl⟩ := three hxl
  have h0 : DataW.trod enc Tryz.prog W 0 sp hd m 27 (([a, b, c, d, e].drop 0).take (Tryz.prog.cellsOf 27)) = some x0 := hf 0 _ rfl
  rw [c27] at h0
  have h1 : DataW.trod enc Tryz.prog W 0 sp hd m 28 (([a, b, c, d, e].drop 1).take (Tryz.prog.cellsOf 28)) = some x1 := hf 1 _ rfl
  rw [c28] at h1
  have h2 : DataW.trod enc Tryz.prog W 0 sp hd m 32 (([a, b, c, d, e].drop 2).take (Tryz.prog.cellsOf 32)) = some x2 := hf 2 _ rfl
  rw [c32] at h2
  obtain ⟨u, e0, rfl, w0⟩ := DataW.trod_int Tryz.underlying27 h0
  obtain ⟨v, rs, e1, hs, hb⟩ := open_sl Tryz.underlying28 (T := tRes) (by kernel_rfl) (fun _ => 0) (fun n _ cs x h => open_res h) h1
  obtain ⟨y, hy, hb2⟩ := open_node _ h2
  obtain rfl : a = .int .u32 u := by simpa using e0
  obtain rfl : b = v := by simpa using e1
  obtain ⟨vp, vk, e2, h3, h4⟩ := RepN.open hy
  have e3 : c = .string y.name ∧ d = vp ∧ e = vk := by simpa using e2
  obtain ⟨rfl, rfl, rfl⟩ := e3
  simp only [Lit.wf, Bool.and_eq_true, decide_eq_true_eq] at w0
  have k0 : IntKind.u32.min = 0 := rfl
  have k1 : IntKind.u32.max = 4294967295 := rfl
  rw [k0, k1] at w0
  refine ⟨⟨u, rs, y⟩, ⟨_, _, _, rfl, w0.1, by show u < _; omega, hs, h3, h4⟩, ?_⟩
  simp only [Rows.uptoBulk, Rows.uptoBulkAll, List.map_cons, List.map_nil]
  omega
end
end Go.Proofs.YtdfknlhfdbbogaaGreatDoor

namespace Go.Proofs.YtdfknlhfdbbogaaGreatDoor
open Go.RowKit
set_option linter.unusedSimpArgs false
set_option linter.unusedVariables false
theorem awake_tree : validM ⟨0, [], .mk ⟨#[97]⟩ [] []⟩ = .num 5 := by
  have h0 : (⟨#[97]⟩ : ByteArray).toList.isEmpty = false := by rw [ByteArray.toList, ByteArray.toList.loop.eq_def, ByteArray.toList.loop.eq_def]; decide
  have h1 : headE 1 (.mk ⟨#[97]⟩ [] []) = 5 := by
    unfold headE
    rw [if_neg (by decide), if_pos (.inl ⟨rfl, h0⟩)]
  have h2 : checkN 1 (.mk ⟨#[97]⟩ [] []) = 5 := by rw [checkN_eq, h1]; rfl
  have h3 : checkT ⟨0, [], .mk ⟨#[97]⟩ [] []⟩ = 5 := by rw [checkT_a (by rw [h2]; rfl)]; exact h2
  rw [validM_a (by rw [h3]; decide), h3]
theorem awake_kind : kindOfS ⟨#[97, 114, 98, 111, 114, 44, 99, 116, 114, 108]⟩ = 7 := by decide
theorem awake_walk (w : World) (hw : Wd w) : Calls Tryz.prog 13 #[] w fun e w' => e = .returned (.bool true) ∧ Below w.heap.size w w' := by
  have hval := fun w1 (h : Below w.heap.size w w1) => valid_walk ⟨0, [], .mk ⟨#[97]⟩ [] []⟩ (by decide) w1 (hw.below h) (fun _ => True) (.agg #[.int .u32 0, .slice none 0 0, .string ⟨#[97]⟩, .slice none 0 0, .slice none 0 0]) ⟨_, _, _, rfl, by decide, by decide, Sl.nil 0 none, Sl.nil 0 none, Sl.nil 0 none⟩
  rw [awake_tree] at hval
  have hkn := fun w1 => known_walk ⟨#[97, 114, 98, 111, 114, 44, 99, 116, 114, 108]⟩ w1
  rw [awake_kind] at hkn
  go_enter Tryz.func13, Tryz.ntmps13
  go_wp2_with (first
    | (go_at_call 19; refine (hval _ (brefl _)).mono ?_; clear hval; rintro e w1 ⟨v1, rfl, ⟨rfl, h5⟩, hb1⟩)
    | (go_at_call 58; refine (hkn _).mono ?_; clear hkn; rintro e w2 ⟨rfl, hb2⟩))
  go_ret
  exact ⟨rfl, bstep hb1 hb2⟩
set_option maxRecDepth 100000 in
theorem law4_walk (t : Tr) (hsz : t.root.size ≤ 536870912) (w : World) (hw : Wd w) (hg : Et w) (ok : Nat → Prop) (v : Value) (hv : TrV w ok v t) :
    Calls Tryz.prog 4 #[v] w fun e w' => e = .returned (.bool true) ∧ Below w.heap.size w w' := by
  have haw := fun w1 (h : Below w.heap.size w w1) => awake_walk w1 (hw.below h)
  have haw2 := haw
  have hfew := fun w1 (h : Below w.heap.size w w1) => lawFew_walk t (by omega) w1 _ _ (hv.below h)
  have hck := fun w1 (h : Below w.heap.size w w1) => refCheck_walk t (by omega) w1 _ _ (hv.below h)
  have hix := fun w1 (h : Below w.heap.size w w1) => refIndex_walk t hsz w1 _ _ (hv.below h)
  have hvm := fun w1 (h : Below w.heap.size w w1) => valid_walk t hsz w1 (hw.below h) _ _ (hv.below h)
  have hcs := fun w1 (h : Below w.heap.size w w1) base v2 h2 => cause_walk (validM t) w1 (hg.below h) base v2 h2
  have ha := validM_a (t := t)
  have hb' := fun e => validM_b (t := t) (e := e)
  obtain ⟨c, hc⟩ : ∃ c, c = checkT t := ⟨_, rfl⟩
  simp only [← hc] at hck ha hb'
  obtain ⟨A1, c1, A2, c2, A3, c3, rfl, hrl⟩ := hv.form
  clear hrl hc
  have hBX := blast w (.cells #[.int .u32 t.boot, .slice A1 t.res.length c1, .string t.root.name, .slice A2 t.root.props.length c2, .slice A3 t.root.kids.length c3] 34) _ rfl
  have hB0 := balloc (brefl w) (.cells #[.int .u32 t.boot, .slice A1 t.res.length c1, .string t.root.name, .slice A2 t.root.props.length c2, .slice A3 t.root.kids.length c3] 34)
  go_enter Tryz.func4, Tryz.ntmps4
  go_upto_region 3 with (first
    | (go_at_call 13; refine (haw _ (by repeat (first | assumption | exact Below.refl _ _ | with_reducible refine bset ?_ (by simp) _ | with_reducible refine balloc ?_ _ | with_reducible refine bdrew ?_ | with_reducible refine bdrewN ?_ _ | with_reducible refine bstep ?_ (by assumption)))).mono ?_; clear haw; rintro e w1 ⟨rfl, hb1⟩; have hbw1 := bstep (balloc (brefl w) _) hb1; have T1 := bblock hBX hb1; have t0 := bcellAt T1 0 rfl; have t1 := bcellAt T1 1 rfl; have t2 := bcellAt T1 2 rfl; have t3 := bcellAt T1 3 rfl; have t4 := bcellAt T1 4 rfl; have lt := blockLt T1)
    | (go_at_call 15; refine (hfew _ hbw1).mono ?_; clear hfew; rintro e w2 ⟨z, rfl, hb2⟩; have hbw2 := bstep hbw1 hb2; have T2 := bblock T1 hb2; clear t0 t1 t2 t3 t4 lt; have t0 := bcellAt T2 0 rfl; have t1 := bcellAt T2 1 rfl; have t2 := bcellAt T2 2 rfl; have t3 := bcellAt T2 3 rfl; have t4 := bcellAt T2 4 rfl; have lt := blockLt T2)
    | (go_at_call 13; refine (haw2 _ hbw2).mono ?_; rintro e w3 ⟨rfl, hb3⟩; have hbw3 := bstep hbw2 hb3))
  · go_ret
    exact ⟨rfl, hbw3⟩
  clear haw2
  by_cases g0 : c = 0
  · subst g0
    clear ha
    go_upto_region 6 with (first
      | (go_at_call 16; refine (hck _ hbw2).mono ?_; clear hck; rintro e w3 ⟨rfl, hb3⟩; have hbw3 := bstep hbw2 hb3; have T3 := bblock T2 hb3; clear t0 t1 t2 t3 t4 lt; have t0 := bcellAt T3 0 rfl; have t1 := bcellAt T3 1 rfl; have t2 := bcellAt T3 2 rfl; have t3 := bcellAt T3 3 rfl; have t4 := bcellAt T3 4 rfl; have lt := blockLt T3)
      | (go_at_call 17; refine (hix _ hbw3).mono ?_; clear hix; rintro e w4 ⟨v4, e2, rfl, hres, hb4⟩; have hbw4 := bstep hbw3 hb4; have T4 := bblock T3 hb4; clear t0 t1 t2 t3 t4 lt; have t0 := bcellAt T4 0 rfl; have t1 := bcellAt T4 1 rfl; have t2 := bcellAt T4 2 rfl; have t3 := bcellAt T4 3 rfl; have t4 := bcellAt T4 4 rfl; have lt := blockLt T4))
    rcases hres with ⟨rfl, hres⟩ | ⟨hne, hres⟩
    · obtain ⟨X, hX⟩ : ∃ X, X = validM t := ⟨_, rfl⟩
      simp only [← hX] at hvm hcs
      obtain ⟨y, hy⟩ : ∃ y, y = X.cause.1 := ⟨_, rfl⟩
      simp only [← hy] at hcs
      clear hb' hX hres hy
      go_wp2_with (first
        | (go_at_call 19; refine (hvm _ hbw4).mono ?_; clear hvm; rintro e w5 ⟨v5, rfl, hE5, hb5⟩; have hbw5 := bstep hbw4 hb5)
        | (go_at_call 18; refine (hcs _ hbw5 _ _ hE5).mono ?_; clear hcs; rintro e w6 ⟨v6, rfl, hs6, hb6⟩; obtain ⟨A6, c6, rfl, hA6⟩ := hs6; clear hA6))
      go_ret
      exact ⟨rfl, bstep hbw5 hb6⟩
    · have hval := hb' e2 trivial hres
      simp only [hval] at hvm hcs
      simp only [Wrong.cause] at hcs
      have q0 : (e2 == 0) = false := by rw [beq_eq_false_iff_ne]; exact hne
      clear hb' hval hres hne
      go_wp2_with (first
        | (go_at_call 19; refine (hvm _ hbw4).mono ?_; clear hvm; rintro e w5 ⟨v5, rfl, hE5, hb5⟩; have hbw5 := bstep hbw4 hb5)
        | (go_at_call 18; refine (hcs _ hbw5 _ _ hE5).mono ?_; clear hcs; rintro e w6 ⟨v6, rfl, hs6, hb6⟩; obtain ⟨A6, c6, rfl, hA6⟩ := hs6; clear hA6))
      go_ret
      exact ⟨rfl, bstep hbw5 hb6⟩
  · have hval := ha g0
    simp only [hval] at hvm hcs
    simp only [Wrong.cause] at hcs
    have q0 : (c == 0) = false := by rw [beq_eq_false_iff_ne]; exact g0
    clear hb' hval ha g0
    go_upto_region 6 with (first
      | (go_at_call 16; refine (hck _ hbw2).mono ?_; clear hck; rintro e w3 ⟨rfl, hb3⟩; have hbw3 := bstep hbw2 hb3; have T3 := bblock T2 hb3; clear t0 t1 t2 t3 t4 lt; have t0 := bcellAt T3 0 rfl; have t1 := bcellAt T3 1 rfl; have t2 := bcellAt T3 2 rfl; have t3 := bcellAt T3 3 rfl; have t4 := bcellAt T3 4 rfl; have lt := blockLt T3))
    go_wp2_with (first
      | (go_at_call 19; refine (hvm _ hbw3).mono ?_; clear hvm; rintro e w5 ⟨v5, rfl, hE5, hb5⟩; have hbw5 := bstep hbw3 hb5)
      | (go_at_call 18; refine (hcs _ hbw5 _ _ hE5).mono ?_; clear hcs; rintro e w6 ⟨v6, rfl, hs6, hb6⟩; obtain ⟨A6, c6, rfl, hA6⟩ := hs6; clear hA6))
    go_ret
    exact ⟨rfl, bstep hbw5 hb6⟩
end Go.Proofs.YtdfknlhfdbbogaaGreatDoor

namespace Go.Proofs.YtdfknlhfdbbogaaGreatDoor.ValidForms
open Go.ChangeShapes Go.WideShapes Go.ChangeAt Go.RowKit
theorem own : ownKnob Tryz.prog.godebug = none := by kernel_rfl
theorem et_name : Tryz.prog.globalNamed "errors.errorType" = some 0 := by kernel_rfl
theorem et_rt : (Tryz.prog.cutTypes.find? (·.1 == "internal/reflectlite.rtype")).map (·.2) = some 381 := by kernel_rfl
theorem et_row : ((List.range Tryz.prog.types.size).filter fun t => Tryz.prog.rowNamed t [101, 114, 114, 111, 114]) = [45] := by kernel_rfl
theorem et_handle : typeHandle Tryz.prog 45 = .pointer (some ⟨5, 45, none⟩) := by kernel_rfl
/-- WHAT THE ROW's LIST GIVES THE WALK: the cell of errors.errorType. -/
theorem et_of_laid {W : World} (h : laidMetH Tryz.prog Rows.validFormsUptoRow.laid W) : Et W := by
  have h' : laidMet Tryz.prog _ W ∧ handlesMet Tryz.prog [("errors.errorType", Rows.laid_errors_errorType)] W := h
  obtain ⟨name, u, ty, e1, e2, e3, e4, e5⟩ := h'.2 _ (List.mem_singleton.2 rfl)
  have en : name = [101, 114, 114, 111, 114] := (Option.some.inj e1).symm
  subst en
  obtain rfl := Option.some.inj (et_rt.symm.trans e2)
  have hm : ty ∈ (List.range Tryz.prog.types.size).filter fun t => Tryz.prog.rowNamed t [101, 114, 114, 111, 114] := List.mem_filter.2 ⟨List.mem_range.2 e3, e4⟩
  rw [et_row] at hm
  obtain rfl := List.mem_singleton.1 hm
  rw [et_handle] at e5
  show W.cell? ⟨0, 0, none⟩ = _
  simpa using World.var?_cell et_name e5 0
theorem wd_of_shaped {W : World} (h : W.ShapedOpen Tryz.prog) : Wd W :=
  cell_of_shapedOpen_int (P := Tryz.prog) (g := 2) (t := 3) (zero := #[.int .i64 0]) h (of_decide_eq_true (by kernel_rfl)) (by kernel_rfl) rfl (by kernel_rfl) (by kernel_rfl) Tryz.underlying3
set_option maxRecDepth 100000 in
/-- WHAT THE WALK GIVES, FOR EVERY ARGUMENT OF THAT BULK AND EVERY WORLD. -/
theorem contract (hl : laidOutB Tryz.prog = true) (H : Type) (enc : TypeId × Value → H) (W : World) (base : Nat) (args : Array Value) (ds gs : List (DataW H)) (before : List MemPlace)
    (hval : ∀ (j : Nat) t v, Tryz.f4.params[j]? = some t → args[j]? = some v → Value.okWide Tryz.prog W .any base t v)
    (hW : DataW.Whole enc Tryz.prog Tryz.f4.params.toList Rows.validFormsSpec.vars false W args.toList ds gs before)
    (hk : Rows.uptoSmall H (ds ++ gs) = true) (hL : laidMetH Tryz.prog Rows.validFormsUptoRow.laid W) (hS : W.ShapedOpen Tryz.prog) :
    Calls Tryz.prog 4 args W fun e W' => ∃ v, e = .returned v ∧ Rows.validFormsSpec.post enc Tryz.prog Tryz.f4 false true false false W args v W' := by
  have hW' := hW
  obtain ⟨p, q, hA0, hV, rfl, hfz, hnd⟩ := hW
  have hA : DataW.TrodAll enc Tryz.prog W 0 (fun _ => true) true Tryz.f4.params.toList args.toList ds p := hA0
  rw [Tryz.params4] at hA hval
  obtain ⟨v0, d0, rfl, rfl, h0⟩ := trodAll_one hA
  obtain ⟨rfl, rfl⟩ := trodVars_none hV
  have h0k := h0
  obtain ⟨fuel, hf⟩ := h0
  obtain ⟨cs, rfl, hcs, _⟩ : ∃ cs, v0 = .agg cs ∧ cs.size = Tryz.prog.cellsOf 34 ∧ Row.okWide Tryz.prog W .any base 34 cs := by
    have h := hval 0 34 v0 rfl rfl
    unfold Value.okWide at h
    rw [Tryz.underlying34] at h
    exact h
  obtain ⟨t, ht, hsz⟩ := open_tree hf
  clear hA0 hval
  simp only [List.append_nil] at hW' hk
  have hlt : ∀ x ∈ p, x.block < W.heap.size := fun x hx => by simpa using hW'.lt x hx
  have hb : Rows.uptoBulkAll [d0] ≤ 1048576 := of_decide_eq_true hk
  simp only [Rows.uptoBulkAll] at hb
  have hsz2 : t.root.size ≤ 536870912 := by
    have h9 : t.root.size ≤ Rows.uptoBulk d0 := hsz
    omega
  have ht2 : TrV W okT (.agg cs) t := by simpa [Value.cells] using ht
  refine (law4_walk t hsz2 W (wd_of_shaped hS) (et_of_laid hL) _ _ ht2).mono fun e W' ⟨he, hbl⟩ => ?_
  subst he
  have hargs : DataW.TrodAll enc Tryz.prog W' 0 (fun b => decide (b < W.heap.size)) true [34] [.agg cs] [d0] p := trodAll_mk1 (Below.trod hl (by kernel_rfl) (of_decide_eq_true (by kernel_rfl)) h0k hbl hlt)
  have e1 : Rows.validFormsSpec.fn H ([d0] ++ []) = { results := [.lit (.bool true)], args := [d0] } := rfl
  refine ⟨_, rfl, _, _, _, [], p, [], hW', ?_, ?_, ?_, hbl.frame _, fun h => by cases h⟩
  · rw [e1]; exact trodAll_cons_mk (shut_bool Tryz.underlying4 true) trodAll_mk0
  · rw [e1]; exact hargs
  · rw [e1]; rfl

/-- A WORLD FOR THE WITNESS: the settled one, the listed tables holding what their text lays. -/
def relay (c : Array Value) : Obj → Obj
  | .cells _ t frozen => .cells c t frozen
  | o => o
def bytesV (l : List Nat) : Array Value := (l.map fun (n : Nat) => Value.int .u8 (n : Int)).toArray
noncomputable def laidHeap (h : Array Obj) : Array Obj :=
  let a := h.modify 3 (relay (bytesV Pinned.utf8FirstZ))
  let b := a.modify 4 (relay (bytesV [128, 191, 160, 191, 128, 159, 144, 191, 128, 143, 0, 0, 0, 0, 0, 0, 0, 0, 0, 0, 0, 0, 0, 0, 0, 0, 0, 0, 0, 0, 0, 0]))
  b.modify 0 (relay #[.iface 381 (.agg #[.pointer (some ⟨5, 45, none⟩)])])
noncomputable def laidWorld (os : Os) : World :=
  { World.holding Tryz.prog os ⟨#[], #[], []⟩ with heap := laidHeap (World.holding Tryz.prog os ⟨#[], #[], []⟩).heap }
def arg : Value := .agg #[.int .u32 0, .slice none 0 0, .string ⟨#[]⟩, .slice none 0 0, .slice none 0 0]
set_option maxRecDepth 100000 in
theorem laid_met (os : Os) : laidMetH Tryz.prog Rows.validFormsUptoRow.laid ((laidWorld os).forCall (fun _ _ => 0) ⟨#[], #[arg], []⟩).memory :=
  laidMetH_of_parts (laidMet_of_run' 8 (by kernel_rfl) (by kernel_rfl)) (by kernel_rfl)
set_option maxRecDepth 100000 in
theorem reads (os : Os) {H : Type} (enc : TypeId × Value → H) : ∃ places, DataW.whole enc Tryz.prog ((laidWorld os).forCall (fun _ _ => 0) ⟨#[], #[arg], []⟩).memory Tryz.f4.params.toList Rows.validFormsSpec.vars false #[arg].toList 8 = some ([.agg [.lit (.int .u32 0), .nil, .agg [.lit (.string []), .nil, .nil]]], [], places) :=
  ⟨[], by kernel_rfl⟩
set_option maxRecDepth 100000 in
/-- THE ROW's STEP, THE SECOND FORM. -/
theorem lifted (hl : laidOutB Tryz.prog = true) (os : Os) (started : os.Started) (H : Type) (enc : TypeId × Value → H) (F : Stop.Interp) :
    ReturnsInHanded {} Tryz.checked os 4 .any ((Rows.OpenSpec.upto Rows.validFormsSpec).preRow enc Tryz.prog Tryz.f4 Rows.validFormsUptoRow.domain false Rows.validFormsUptoRow.laid) (((Rows.OpenSpec.upto Rows.validFormsSpec).at F).post enc Tryz.prog Tryz.f4 false true false false) := by
  obtain ⟨places, hx⟩ := reads os enc
  refine returnsInHanded_of_row (C := Tryz.checked) (s := Rows.OpenSpec.upto Rows.validFormsSpec) own started (by kernel_rfl) Tryz.func4
    (witness_row_at (enc := enc) (C := Tryz.checked) false (laidWorld os) #[arg] rfl (by kernel_rfl) (by kernel_rfl) (by kernel_rfl)
      (OpenSpec.preRow_of_cond 8 hx (by kernel_rfl) (fun k hk => by cases hk; kernel_rfl) (by kernel_rfl) (laid_met os))) ?_
  intro W base args ds gs before hval hW _ hk _ hL hS _
  exact contract hl H enc W base args ds gs before hval hW (hk _ rfl) hL hS
theorem noStandIn : ∀ (j : Nat) t, Tryz.f4.params[j]? = some t → Tryz.pinned.checked.prog.wantsStandIn t = false := fun j t ht => by
  rw [Tryz.params4] at ht
  obtain rfl : t = 34 := by simpa using Array.mem_of_getElem? ht
  exact (show Tryz.prog.wantsStandIn 34 = false by kernel_rfl)
end Go.Proofs.YtdfknlhfdbbogaaGreatDoor.ValidForms
