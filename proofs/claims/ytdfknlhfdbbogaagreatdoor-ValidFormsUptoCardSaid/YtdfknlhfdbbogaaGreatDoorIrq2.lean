/-
  irq: extended. No condition.
-/
import Derived.Test.YtdfknlhfdbbogaaGreatDoorIrq1
namespace Go.Proofs.YtdfknlhfdbbogaaGreatDoor
open Go.RowKit
set_option linter.unusedSimpArgs false
set_option linter.unusedVariables false
abbrev tLn : Ty Ln := tPair (tSl tInt) tU32
theorem elLn : El tLn 328 331 32 := El.mk' (z := .agg #[.slice none 0 0, .int .u32 0]) Tryz.underlying328 (by kernel_rfl) rfl
theorem rep_ln {w : World} {ok : Nat → Prop} {x : Int} {pl : List Int} {v : Value} (h1 : 0 ≤ x) (h2 : x < 4294967296) (h : Sl tInt w ok v pl) : tLn.rep w ok (pl, x) [v, .int .u32 x] := ⟨[_], [_], rfl, rep_sl h, rep_num h1 h2⟩
def pairsTo (t : Tr) (acc : List Ln) (rs : List Int) : List Ln × Int := if (pairsL t rs).2 ≠ 0 then ([], (pairsL t rs).2) else (acc ++ (pairsL t rs).1, 0)
theorem pairsTo_nil (t : Tr) (acc : List Ln) : pairsTo t acc [] = (acc, 0) := by simp [pairsTo, pairsL]
theorem pairsTo_err {t : Tr} {acc : List Ln} {a b : Int} {r : List Int} (h : (findH t a).2 ≠ 0) : pairsTo t acc (a :: b :: r) = ([], (findH t a).2) := by unfold pairsTo; rw [pairsL, if_pos h, if_pos h]
theorem pairsL_go {t : Tr} {a b : Int} {r : List Int} (h : (findH t a).2 = 0) : pairsL t (a :: b :: r) = if (pairsL t r).2 ≠ 0 then ([], (pairsL t r).2) else (((findH t a).1, b) :: (pairsL t r).1, 0) := by rw [pairsL, if_neg (show ¬ (findH t a).2 ≠ 0 by simp [h])]
theorem pairsTo_go {t : Tr} {acc : List Ln} {a b : Int} {r : List Int} (h : (findH t a).2 = 0) : pairsTo t acc (a :: b :: r) = pairsTo t (acc ++ [((findH t a).1, b)]) r := by
  unfold pairsTo
  rw [pairsL_go h]
  by_cases h2 : (pairsL t r).2 = 0
  · simp [h2]
  · simp [h2]
theorem pairsTo_all (t : Tr) (l : List Int) : pairsTo t [] l = pairsL t l := by
  have H : ∀ (k : Nat) (l : List Int), l.length ≤ k → (pairsL t l).2 ≠ 0 → (pairsL t l).1 = [] := by
    intro k
    induction k with
    | zero => intro l hl h; have : l = [] := List.eq_nil_of_length_eq_zero (by omega); subst this; simp [pairsL] at h
    | succ k ih =>
      intro l hl h
      match l with
      | [] => simp [pairsL] at h
      | [a] => simp [pairsL] at h
      | a :: b :: r =>
        rw [pairsL] at h ⊢
        split
        · rfl
        · split
          · rfl
          · rename_i h1 h2; rw [if_neg h1, if_neg h2] at h; exact absurd rfl h
  unfold pairsTo
  split
  · rename_i h; rw [← H l.length l (Nat.le_refl _) h]
  · rename_i h; simp only [List.nil_append]; rw [← (by simpa using h : (pairsL t l).2 = 0)]
theorem even_cons {rs : List Int} (h : rs.length % 2 = 0) (hn : rs ≠ []) : ∃ a b r, rs = a :: b :: r := by
  rcases rs with _ | ⟨a, _ | ⟨b, r⟩⟩
  · exact absurd rfl hn
  · simp at h
  · exact ⟨a, b, r, rfl⟩
set_option maxRecDepth 100000 in
set_option maxHeartbeats 2000000 in
theorem extended_walk (t : Tr) (hsz : t.root.size ≤ 536870912) (bs : List Int) (hb0 : bs.length ≤ 536870912) (w : World) (ok okb : Nat → Prop) (v bv : Value) (hv : TrV w ok v t) (hbv : Sl tByte w okb bv bs) :
    Calls Tryz.prog 280 #[v, bv] w fun e w' => ∃ v', e = .returned (.tuple #[v', .int .i64 (extendedM t bs).2]) ∧ Row tLn 331 w' w.heap.size v' (extendedM t bs).1 ∧ Below w.heap.size w w' := by
  have hfind := fun w1 (h : Below w.heap.size w w1) x => findH_walk t hsz x w1 ok _ (hv.below h)
  have hcells := fun w1 (h : Below w.heap.size w w1) => cells_walk bs (by omega) w1 okb _ (hbv.below h)
  have hbd : ∀ x ∈ bs, 0 ≤ x ∧ x < 256 := by obtain ⟨_, _, _, _, _, h⟩ := hbv; exact h.bounds
  have hc4 := cells4_bounds hbd
  obtain ⟨A1, c1, A2, c2, A3, c3, rfl, hrl⟩ := hv.form
  obtain ⟨A4, c4, rfl, hbc, hbl, hba⟩ := hbv
  have hd : extendedM t bs = if (cellsM bs).2 ≠ 0 ∨ (cellsM bs).1.length % 2 ≠ 0 then ([], 4) else pairsTo t [] (cellsM bs).1 := by unfold extendedM; rw [pairsTo_all]
  rw [hd]
  clear hd
  have hcm : (cellsM bs).1 = [] ∨ (cellsM bs).1 = cells4 bs := by unfold cellsM; split; exact .inl rfl; exact .inr rfl
  have hcl : (cellsM bs).1.length ≤ 268435456 := by rcases hcm with h | h <;> rw [h]; simp; rw [cells4_length]; omega
  have hcb : ∀ x ∈ (cellsM bs).1, 0 ≤ x ∧ x < 4294967296 := by rcases hcm with h | h <;> rw [h]; intro x hx; cases hx; exact hc4
  obtain ⟨cs, e0, hce⟩ : ∃ cs e0, cellsM bs = (cs, e0) := ⟨_, _, rfl⟩
  simp only [hce] at hcells hcl hcb
  rw [hce]
  simp only
  clear hcm hce hc4 hba hbd
  by_cases g1 : e0 ≠ 0 ∨ cs.length % 2 ≠ 0
  · rw [if_pos g1]
    by_cases g2 : e0 = 0
    · subst g2
      have q2 : (((cs.length : Int) % 2) != 0) = true := by rw [bne_iff_ne]; omega
      clear g1
      go_enter Tryz.func280, Tryz.ntmps280
      go_wp2_with (first
        | (go_at_call 278; refine (hcells _ (by repeat (first | assumption | exact Below.refl _ _ | with_reducible refine bset ?_ (by simp) _ | with_reducible refine balloc ?_ _ | with_reducible refine bdrew ?_ | with_reducible refine bdrewN ?_ _ | with_reducible refine bstep ?_ (by assumption)))).mono ?_; clear hcells; rintro e w1 ⟨v1, rfl, hr1, hb1⟩; obtain ⟨A5, c5, rfl, hA5⟩ := hr1.form; clear hA5))
      go_ret2
      exact ⟨_, rfl, Own.nil, (by repeat (first | assumption | exact Below.refl _ _ | with_reducible refine bset ?_ (by simp) _ | with_reducible refine balloc ?_ _ | with_reducible refine bdrew ?_ | with_reducible refine bdrewN ?_ _ | with_reducible refine bstep ?_ (by assumption)))⟩
    · have q2 : (e0 != 0) = true := by rw [bne_iff_ne]; exact g2
      clear g1
      go_enter Tryz.func280, Tryz.ntmps280
      go_wp2_with (first
        | (go_at_call 278; refine (hcells _ (by repeat (first | assumption | exact Below.refl _ _ | with_reducible refine bset ?_ (by simp) _ | with_reducible refine balloc ?_ _ | with_reducible refine bdrew ?_ | with_reducible refine bdrewN ?_ _ | with_reducible refine bstep ?_ (by assumption)))).mono ?_; clear hcells; rintro e w1 ⟨v1, rfl, hr1, hb1⟩; obtain ⟨A5, c5, rfl, hA5⟩ := hr1.form; clear hA5))
      go_ret2
      exact ⟨_, rfl, Own.nil, (by repeat (first | assumption | exact Below.refl _ _ | with_reducible refine bset ?_ (by simp) _ | with_reducible refine balloc ?_ _ | with_reducible refine bdrew ?_ | with_reducible refine bdrewN ?_ _ | with_reducible refine bstep ?_ (by assumption)))⟩
  · rw [if_neg g1]
    have g2 : e0 = 0 := Classical.byContradiction fun h => g1 (.inl h)
    subst g2
    have g3 : cs.length % 2 = 0 := by omega
    have q2 : (((cs.length : Int) % 2) != 0) = false := by rw [bne_eq_false_iff_eq]; omega
    obtain ⟨R, hR⟩ : ∃ R, R = pairsTo t [] cs := ⟨_, rfl⟩
    rw [← hR]
    have HR := Lib.hid hR
    have G3 := Lib.hid g3
    clear hR g1 g3
    go_enter Tryz.func280, Tryz.ntmps280
    go_wp2_with (first
      | (go_at_call 278; refine (hcells _ (by repeat (first | assumption | exact Below.refl _ _ | with_reducible refine bset ?_ (by simp) _ | with_reducible refine balloc ?_ _ | with_reducible refine bdrew ?_ | with_reducible refine bdrewN ?_ _ | with_reducible refine bstep ?_ (by assumption)))).mono ?_; clear hcells; rintro e w1 ⟨v1, rfl, hr1, hb1⟩; obtain ⟨A5, c5, rfl, hc5, hl5, ha5⟩ := hr1.form; have hbw := bstep (balloc (brefl w) _) hb1; have hbox := bblock (blast w _ _ rfl) hb1; clear hr1))
    have ha7 : SlA tU32 w1 (· < w1.heap.size) A5 cs := ha5.mono fun k h h2 => h2
    have hws := hbw.size
    have hww := blockLt hbox
    clear ha5 q2
    go_loopw [6, 8] (fun cc l wr => ∃ (n : Nat) (A' : Option Addr) (c' : Nat) (rs : List Int) (acc : List Ln), n = rs.length ∧ rs.length % 2 = 0 ∧ cc = .slice A' n c' ∧ n ≤ c' ∧ (∀ x ∈ rs, 0 ≤ x ∧ x < 4294967296) ∧ acc.length + rs.length ≤ 268435456 ∧ R = pairsTo t acc rs ∧
      SlA tU32 wr (· < w1.heap.size) A' rs ∧ Row tLn 331 wr w1.heap.size l acc ∧ w1.heap.size ≤ wr.heap.size ∧
      wr.heap[w.heap.size]? = some (.cells #[.int .u32 t.boot, .slice A1 t.res.length c1, .string t.root.name, .slice A2 t.root.props.length c2, .slice A3 t.root.kids.length c3] 34 (0, 0)) ∧ Below w.heap.size w wr) (fun c _ _ => slLen c)
    case atStart => exact ⟨cs.length, A5, c5, cs, [], rfl, G3.out, rfl, hc5, hcb, by simp; omega, HR.out, ha7, Own.nil, Nat.le_refl _, hbox, hbw⟩
    case round =>
      clear ha7 hbox hbw hb1 hcb
      obtain ⟨n, A7, c7, rs, acc, hn, hev, rfl, hc7, hrb, hlen, hRe, ha7, hrow, hsz3, hbt, hb⟩ := hrel
      by_cases hnil : rs = []
      · subst hnil
        obtain rfl : n = 0 := hn
        have hfin : R = (acc, 0) := by rw [hRe, pairsTo_nil]
        clear hRe
        subst hfin
        go_wp2_with fail
        go_ret2
        exact ⟨_, rfl, hrow.mono (by omega) (fun k h _ => by have h9 : w1.heap.size ≤ k := h; show w.heap.size ≤ k; omega), hb⟩
      · obtain ⟨a, b, r, rfl⟩ := even_cons hev hnil
        have hn2 : n = r.length + 2 := by rw [hn]; rfl
        obtain ⟨ab, aoff, rfl, _, _⟩ := ha7.some_of hnil
        obtain ⟨_, _, he0, _, _, r0, _, _⟩ := ha7.num_at (j := 0) (x := a) rfl
        cases he0
        obtain ⟨_, _, he1, _, _, r1, _, _⟩ := ha7.num_at (j := 1) (x := b) rfl
        cases he1
        have hra := hrb a (by simp)
        have hrbb := hrb b (by simp)
        have hrr : ∀ x ∈ r, 0 ≤ x ∧ x < 4294967296 := fun x h => hrb x (by simp [h])
        have herr := pairsTo_err (t := t) (acc := acc) (a := a) (b := b) (r := r)
        have hgo := pairsTo_go (t := t) (acc := acc) (a := a) (b := b) (r := r)
        rw [← hRe] at herr hgo
        have hfd := fun w2 h => hfind w2 h a
        obtain ⟨pl, e2, hfe⟩ : ∃ pl e2, findH t a = (pl, e2) := ⟨_, _, rfl⟩
        simp only [hfe] at hfd herr hgo
        have hC3 := fun (w2 : World) (h : ∀ k, k < w1.heap.size → w2.heap[k]? = wr.heap[k]?) => Sl.cutIf (T := tU32) rfl (ha7.move fun k hk _ => h k hk) (c := c7) (by rw [← hn]; exact hc7) (by simp at hlen ⊢; omega) 2 (n - 2) (by rw [← hn]; omega)
        have HC3 := Lib.hid hC3
        have HN := Lib.hid hn
        have hn0 : 2 ≤ n := by omega
        have hev2 : r.length % 2 = 0 := by simp at hev; omega
        have hlen2 : acc.length + 1 + r.length ≤ 268435456 := by simp at hlen; omega
        have HEV := Lib.hid hev2
        have t0 := bcellAt hbt 0 rfl
        have t1 := bcellAt hbt 1 rfl
        have t2 := bcellAt hbt 2 rfl
        have t3 := bcellAt hbt 3 rfl
        have t4 := bcellAt hbt 4 rfl
        have lt1 := blockLt hbt
        simp only [Nat.add_zero] at r0
        have hi0 : (0 : Int) < (n : Int) := by omega
        have hi1 : (1 : Int) < (n : Int) := by omega
        clear hfind hRe hfe hn hev hev2 hrb hC3 hnil hlen hn2
        go_upto_region 7 with fail
        go_cut [9, 10] (fun va ve wx => ∃ (Aa : Option Addr) (ca : Nat), va = .slice Aa pl.length ca ∧ ve = .int .i64 e2 ∧ Sl tInt wx (wr.heap.size ≤ ·) (.slice Aa pl.length ca) pl ∧ Below wr.heap.size wr wx)
        case first =>
          go_region_law (first
            | (go_simp; go_at_call 318; (refine (hfd _ ?_).mono ?_); exact (by repeat (first | assumption | exact Below.refl _ _ | with_reducible refine bset ?_ (by simp) _ | with_reducible refine balloc ?_ _ | with_reducible refine bdrew ?_ | with_reducible refine bdrewN ?_ _ | with_reducible refine bstep ?_ (by assumption))); rintro e w5 ⟨v5, rfl, hs5, hb5⟩; obtain ⟨Aa, ca, rfl, hA6⟩ := id hs5; clear hA6))
          all_goals go_wp2_with fail
          all_goals go_meet
          all_goals exact ⟨Aa, ca, rfl, rfl, hs5.mono (fun k h _ => h), bstep (bdrew (brefl wr)) hb5⟩
        case rest =>
          obtain ⟨Aa, ca, rfl, rfl, hsp, hbx⟩ := hcut
          have hbt2 := bblock hbt hbx
          have HBT := Lib.hid hbt2
          have r1' := bkeep hbx r1
          clear hfd t0 t1 t2 t3 t4 hbt hbt2
          by_cases q1 : e2 = 0
          · subst q1
            have HG := Lib.hid (hgo rfl)
            clear herr hgo
            have hrow2 := hrow.below hbx
            have hsx := hbx.size
            go_wp2_with (first
              | (at_builtin; refine wpList_row1 rfl elLn _ _ rfl (hrow2.below (by repeat (first | assumption | exact Below.refl _ _ | with_reducible refine bset ?_ (by simp) _ | with_reducible refine balloc ?_ _ | with_reducible refine bdrew ?_ | with_reducible refine bdrewN ?_ _ | with_reducible refine bstep ?_ (by assumption)))) rfl rfl (by first | exact blast _ _ _ (by simp) | simp) (y := (pl, b)) (rep_ln (by omega) (by omega) ((hsp.below (balloc (brefl _) _)).mono (fun k h5 _ => ⟨by have h6 : wr.heap.size ≤ k := h5; omega, fun e5 => by have h7 := (hrow.lt k e5.symm).2; have h6 : wr.heap.size ≤ k := h5; omega⟩))) (by omega) (by simp; omega) ?_; intro g cap w6 hrow1 hg1 hat1 hlt1))
            obtain ⟨A8, c8, he8, h81, h82, h83⟩ := HC3.out w6 (fun k hk => ((hg1.block k (by simp; omega) (fun e => by have := (hrow.lt k e.symm).1; omega)).trans ((balloc (brefl wc) _).block k (by omega))).trans (hbx.block k (by omega)))
            injection he8 with i1 i2 i3
            subst i1 i3
            have htk : ((a :: b :: r).drop 2).take (n - 2) = r := by rw [HN.out]; simp
            rw [htk] at h83 h81
            go_roundw
            case rel => exact ⟨n - 2, _, _, r, acc ++ [(pl, b)], by rw [HN.out]; simp, HEV.out, rfl, by rw [HN.out]; simpa using h81, hrr, by simp; omega, HG.out, h83, hrow1, by have := hg1.size; simp at this; omega, gblock (bblock HBT.out (by repeat (first | assumption | exact Below.refl _ _ | with_reducible refine bset ?_ (by simp) _ | with_reducible refine balloc ?_ _ | with_reducible refine bdrew ?_ | with_reducible refine bdrewN ?_ _ | with_reducible refine bstep ?_ (by assumption)))) hg1 (fun e => by have := (hrow.lt _ e.symm).1; omega), bgrown (bstep (bstep hb hbx) (balloc (brefl _) _)) hg1 (fun k hk => by have := (hrow.lt k hk).1; omega)⟩
            case measure => simp only [slLen]; omega
          · have hfin := herr q1
            have q2 : (e2 != 0) = true := by rw [bne_iff_ne]; exact q1
            subst hfin
            clear hgo herr q1
            go_wp2_with fail
            go_ret2
            exact ⟨_, rfl, Own.nil, bstep hb hbx⟩
end Go.Proofs.YtdfknlhfdbbogaaGreatDoor
