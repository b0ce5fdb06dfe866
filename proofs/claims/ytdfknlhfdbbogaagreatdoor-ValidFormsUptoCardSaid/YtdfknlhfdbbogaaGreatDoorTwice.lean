/-
  valid: at, overlap, twice. No condition.
-/
import Derived.Test.YtdfknlhfdbbogaaGreatDoorNode
namespace Go.Proofs.YtdfknlhfdbbogaaGreatDoor
open Go.RowKit
set_option linter.unusedSimpArgs false
set_option linter.unusedVariables false
/-- How what is wrong reads as an error. -/
def ErrV (w : World) (base : Nat) (v : Value) : Wrong → Prop
  | .none => v = .nilIface
  | .num e => v = .iface 36 (.int .i64 e) ∧ e ≠ 0
  | .at p e => ∃ b, v = .iface 142 (.pointer (some ⟨b, 0, none⟩)) ∧ base ≤ b ∧ w.cell? ⟨b, 0, none⟩ = some (.string p) ∧ w.cell? ⟨b, 1, none⟩ = some (.iface 36 (.int .i64 e)) ∧ e ≠ 0
theorem ErrV.below {w w1 : World} {base : Nat} {v : Value} {x : Wrong} (h : ErrV w base v x) (hb : Below w.heap.size w w1) : ErrV w1 base v x := by
  cases x with
  | none => exact h
  | num e => exact h
  | «at» p e =>
    obtain ⟨b, h1, h2, h3, h4, h5⟩ := h
    exact ⟨b, h1, h2, bkeep hb h3, bkeep hb h4, h5⟩
theorem ErrV.base {w : World} {base base' : Nat} {v : Value} {x : Wrong} (h : ErrV w base v x) (hb : base' ≤ base) : ErrV w base' v x := by
  cases x with
  | none => exact h
  | num e => exact h
  | «at» p e =>
    obtain ⟨b, h1, h2, h3⟩ := h
    exact ⟨b, h1, by omega, h3⟩
theorem at_walk (t : Tr) (hsz : t.root.size ≤ 536870912) (place : List Int) (en : Int) (w : World) (ok okp : Nat → Prop) (v pv : Value) (hv : TrV w ok v t) (hp : Sl tInt w okp pv place) :
    Calls Tryz.prog 70 #[v, pv, .int .i64 en] w fun e w' => ∃ v', e = .returned v' ∧ ErrV w' w.heap.size v' (atM t place en) ∧ Below w.heap.size w w' := by
  have hpa := fun w1 (h : Below w.heap.size w w1) => path_walk t hsz place w1 ok okp _ _ (hv.below h) (hp.below h)
  obtain ⟨A1, c1, A2, c2, A3, c3, rfl, hrl⟩ := hv.form
  obtain ⟨A4, c4, rfl, hc4, hl4, ha4⟩ := hp
  clear ha4 hrl
  unfold atM
  obtain ⟨p, pe, hpe⟩ : ∃ p pe, pathM t place = (p, pe) := ⟨_, _, rfl⟩
  simp only [hpe] at hpa ⊢
  clear hpe
  by_cases g1 : en = 0
  · subst g1
    rw [if_pos rfl]
    go_enter Tryz.func70, Tryz.ntmps70
    go_wp2_with fail
    go_ret
    exact ⟨_, rfl, rfl, (by repeat (first | assumption | exact Below.refl _ _ | with_reducible refine bset ?_ (by simp) _ | with_reducible refine balloc ?_ _ | with_reducible refine bdrew ?_ | with_reducible refine bdrewN ?_ _ | with_reducible refine bstep ?_ (by assumption)))⟩
  · rw [if_neg g1]
    have q1 : (en == 0) = false := by rw [beq_eq_false_iff_ne]; exact g1
    have G1 := Lib.hid g1
    clear g1
    go_enter Tryz.func70, Tryz.ntmps70
    go_wp2_with (first
      | (go_at_call 154; refine (hpa _ (by repeat (first | assumption | exact Below.refl _ _ | with_reducible refine bset ?_ (by simp) _ | with_reducible refine balloc ?_ _ | with_reducible refine bdrew ?_ | with_reducible refine bdrewN ?_ _ | with_reducible refine bstep ?_ (by assumption)))).mono ?_; clear hpa; rintro e w1 ⟨rfl, hb1⟩; have hbw1 := bstep (balloc (brefl w) _) hb1; have hz1 := hbw1.size))
    go_ret
    exact ⟨_, rfl, ⟨w1.heap.size, rfl, by omega, bcellAt (blast w1 (.cells #[.string p, .iface 36 (.int .i64 en)] 145) _ rfl) 0 rfl, bcellAt (blast w1 (.cells #[.string p, .iface 36 (.int .i64 en)] 145) _ rfl) 1 rfl, G1.out⟩, balloc hbw1 _⟩
theorem SlA.take {α : Type} {T : Ty α} {w : World} {ok : Nat → Prop} {A : Option Addr} {xs : List α} (h : SlA T w ok A xs) (k : Nat) : SlA T w ok A (xs.take k) := by
  obtain ⟨cells, ⟨hl, hr⟩, hc⟩ := h
  refine ⟨cells.take (k * T.sz), ⟨?_, fun j x hx => ?_⟩, fun hn => ?_⟩
  · rw [List.length_take, List.length_take, hl]
    rcases Nat.le_total k xs.length with h | h
    · rw [Nat.min_eq_left h, Nat.min_eq_left (Nat.mul_le_mul_right _ h)]
    · rw [Nat.min_eq_right h, Nat.min_eq_right (Nat.mul_le_mul_right _ h)]
  · rw [List.getElem?_take] at hx
    split at hx
    · rename_i hjk
      have h1 := hr j x hx
      have h2 : chunk T.sz j (cells.take (k * T.sz)) = chunk T.sz j cells := by
        unfold chunk
        rw [List.drop_take, List.take_take, Nat.min_eq_left]
        have : (j + 1) * T.sz ≤ k * T.sz := Nat.mul_le_mul_right _ hjk
        rw [Nat.add_mul, Nat.one_mul] at this
        omega
      rw [h2]
      exact h1
    · cases hx
  · obtain ⟨b, off, h1, h2, h3, h4⟩ := hc (by rintro rfl; simp at hn)
    refine ⟨b, off, h1, h2, h3, fun j u hu => h4 j u ?_⟩
    rw [List.getElem?_take] at hu
    split at hu
    · exact hu
    · cases hu
theorem Sl.takeN {α : Type} {T : Ty α} {w : World} {ok : Nat → Prop} {A : Option Addr} {c : Nat} {xs : List α} (h : SlA T w ok A xs) (hc : xs.length ≤ c) (hl : xs.length ≤ 9223372036854775807) (k : Nat) (hk : k ≤ xs.length) : Sl T w ok (.slice A k c) (xs.take k) :=
  ⟨A, c, by rw [List.length_take, Nat.min_eq_left hk], by rw [List.length_take]; omega, by rw [List.length_take]; omega, h.take k⟩
theorem overlapL_go {l : List Win} {k : Nat} {x : Win} (hx : l[k]? = some x) (h : (l.take k).any (meetB x) = false) : overlapL (l.take k) (l.drop k) = overlapL (l.take (k + 1)) (l.drop (k + 1)) := by
  have hk := (List.getElem?_eq_some_iff.1 hx).1
  have h1 : l.drop k = x :: l.drop (k + 1) := by rw [List.drop_eq_getElem_cons hk]; congr 1; exact (List.getElem?_eq_some_iff.1 hx).2
  rw [h1, overlapL, h, Bool.false_or, Nd.take_snoc hx]
theorem overlapL_hit {l : List Win} {k : Nat} {x : Win} (hx : l[k]? = some x) (h : (l.take k).any (meetB x) = true) : overlapL (l.take k) (l.drop k) = true := by
  have hk := (List.getElem?_eq_some_iff.1 hx).1
  have h1 : l.drop k = x :: l.drop (k + 1) := by rw [List.drop_eq_getElem_cons hk]; congr 1; exact (List.getElem?_eq_some_iff.1 hx).2
  rw [h1, overlapL, h, Bool.true_or]
set_option maxRecDepth 100000 in
theorem overlap_walk (l : List Win) (w : World) (ok : Nat → Prop) (v : Value) (hv : Sl tWin w ok v l) :
    Calls Tryz.prog 165 #[v] w fun e w' => e = .returned (.bool (overlapM l)) ∧ Below w.heap.size w w' := by
  have hmf : ∀ (fn : Fn) (first cap : Array Value) (w : World), (Instr.makeFunc fn first cap).run Tryz.prog w = .ok (.func fn first cap) w := fun _ _ _ _ => rfl
  obtain ⟨A4, c4, rfl, hc4, hl4, ha4⟩ := id hv
  obtain ⟨R, hR⟩ : ∃ R, R = overlapM l := ⟨_, rfl⟩
  rw [← hR]
  have HR := Lib.hid hR
  clear hR
  go_enter Tryz.func165, Tryz.ntmps165
  go_wp2_with fail
  go_loopw [7] (fun i wr => ∃ k : Nat, k ≤ l.length ∧ i = .int .i64 k ∧ R = overlapL (l.take k) (l.drop k) ∧ Below w.heap.size w wr) (fun i _ => l.length - (intOf i).toNat)
  case atStart => exact ⟨0, by omega, rfl, HR.out, (by repeat (first | assumption | exact Below.refl _ _ | with_reducible refine bset ?_ (by simp) _ | with_reducible refine balloc ?_ _ | with_reducible refine bdrew ?_ | with_reducible refine bdrewN ?_ _ | with_reducible refine bstep ?_ (by assumption)))⟩
  case round =>
    obtain ⟨k, hk, rfl, hRk, hb⟩ := hrel
    have HRk := Lib.hid hRk
    clear hRk
    by_cases hkl : k < l.length
    · have hx : l[k]? = some l[k] := List.getElem?_eq_getElem hkl
      obtain ⟨x, hxe⟩ : ∃ x, x = l[k] := ⟨_, rfl⟩
      rw [← hxe] at hx
      have HX := Lib.hid hx
      obtain ⟨b, off, rfl, hob, hlb, r0, r1, u0, u1, u2, u3⟩ := (ha4.below hb).res_at hx
      have hpl := Sl.takeN (ha4.below hb) hc4 hl4 k hk
      obtain ⟨q, hq⟩ : ∃ q, q = (l.take k).any (meetB x) := ⟨_, rfl⟩
      have hcon := fun w1 (h : Below wr.heap.size wr w1) (hB : w1.heap[wr.heap.size]? = some (.cells #[.int .u64 x.1, .int .u64 x.2] 322 (0, 0))) => win_contains (l.take k) w1 ok _ (hpl.below h) (meetB x) wr.heap.size (fun W2 y h2 _ k0 k1 => meets_walk x y (U64.of_lt u0 u1) (U64.of_lt u2 u3) k0 k1 wr.heap.size W2 (bblock hB h2))
      simp only [← hq] at hcon
      obtain ⟨x1, x2⟩ := x
      simp only at r0 r1 hcon
      have HQ := Lib.hid hq
      have e3 : (0 : Int) ≤ (k : Int) := by omega
      have e4 : (k : Int) ≤ (c4 : Int) := by omega
      clear hx hxe hq u0 u1 u2 u3
      cases q
      · go_wp2_with (first
          | (go_at_call 264; refine (hcon _ ?_ ?_).mono ?_; exact (by repeat (first | assumption | exact Below.refl _ _ | with_reducible refine bset ?_ (by simp) _ | with_reducible refine balloc ?_ _ | with_reducible refine bdrew ?_ | with_reducible refine bdrewN ?_ _ | with_reducible refine bstep ?_ (by assumption))); exact blast _ _ _ rfl; clear hcon; rintro e w1 ⟨rfl, hb1⟩))
        go_roundw
        case rel => exact ⟨k + 1, by omega, by go_num, by rw [HRk.out]; exact overlapL_go HX.out HQ.out.symm, bstep (balloc hb _) hb1⟩
        case measure => simp [intOf]; omega
      · have hfin : R = true := by rw [HRk.out]; exact overlapL_hit HX.out HQ.out.symm
        subst hfin
        go_wp2_with (first
          | (go_at_call 264; refine (hcon _ ?_ ?_).mono ?_; exact (by repeat (first | assumption | exact Below.refl _ _ | with_reducible refine bset ?_ (by simp) _ | with_reducible refine balloc ?_ _ | with_reducible refine bdrew ?_ | with_reducible refine bdrewN ?_ _ | with_reducible refine bstep ?_ (by assumption))); exact blast _ _ _ rfl; clear hcon; rintro e w1 ⟨rfl, hb1⟩))
        go_ret
        exact ⟨rfl, bstep (balloc hb _) hb1⟩
    · obtain rfl : k = l.length := by omega
      have hfin : R = false := by rw [HRk.out, List.drop_length]; rfl
      subst hfin
      go_wp2_with fail
      go_ret
      exact ⟨rfl, hb⟩
theorem intsEqual_walk (xs ys : List Int) (w : World) (okx oky : Nat → Prop) (vx vy : Value) (hx : Sl tInt w okx vx xs) (hy : Sl tInt w oky vy ys) :
    Calls Tryz.prog 269 #[vx, vy] w fun e w' => e = .returned (.bool (decide (xs = ys))) ∧ Below w.heap.size w w' := by
  obtain ⟨A1, c1, rfl, hc1, hl1, ha1⟩ := hx
  obtain ⟨A2, c2, rfl, hc2, hl2, ha2⟩ := hy
  by_cases hl : xs.length = ys.length
  · rcases xs with _ | ⟨x, xt⟩
    · have : ys = [] := List.length_eq_zero_iff.1 hl.symm
      subst this
      refine (Tryz.slices_Equal_int_empty A1 A2 c1 0 c2 w (by omega)).mono ?_
      rintro e w1 ⟨rfl, rfl⟩
      exact ⟨rfl, brefl _⟩
    · rcases ys with _ | ⟨y, yt⟩
      · simp at hl
      · obtain ⟨b1, o1, rfl, _, _⟩ := ha1.some_of (by simp)
        obtain ⟨b2, o2, rfl, _, _⟩ := ha2.some_of (by simp)
        refine (Tryz.slices_Equal_int b1 o1 _ c1 b2 o2 _ c2 (x :: xt) (y :: yt) w (Nat.le_refl _) (Nat.le_refl _) hl1 hl2 ha1.byte_cells ha2.byte_cells).mono ?_
        rintro e w1 ⟨rfl, n, rfl⟩
        refine ⟨?_, bdrewN (brefl _) n⟩
        rw [List.take_length, List.take_length]
        congr 2
        rw [Bool.eq_iff_iff, beq_iff_eq, decide_eq_true_iff]
  · refine (Tryz.slices_Equal_int_lens A1 A2 xs.length c1 ys.length c2 w hl).mono ?_
    rintro e w1 ⟨rfl, rfl⟩
    refine ⟨?_, brefl _⟩
    have : decide (xs = ys) = false := decide_eq_false fun h => hl (by rw [h])
    rw [this]
end Go.Proofs.YtdfknlhfdbbogaaGreatDoor
