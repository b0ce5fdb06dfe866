/-
  valid: twice. No condition.
-/
import Derived.Test.YtdfknlhfdbbogaaGreatDoorTwice
namespace Go.Proofs.YtdfknlhfdbbogaaGreatDoor
open Go.RowKit
set_option linter.unusedSimpArgs false
set_option linter.unusedVariables false
def sameTo (a b : Wl) : Bool := decide (a.2.2 = b.2.2 ∧ a.2.1 = b.2.1)
theorem twiceL_go {l : List Wl} {k : Nat} {x : Wl} (hx : l[k]? = some x) (h : (l.take k).any (sameTo x) = false) : twiceL (l.take k) (l.drop k) = twiceL (l.take (k + 1)) (l.drop (k + 1)) := by
  have hk := (List.getElem?_eq_some_iff.1 hx).1
  have h1 : l.drop k = x :: l.drop (k + 1) := by rw [List.drop_eq_getElem_cons hk]; congr 1; exact (List.getElem?_eq_some_iff.1 hx).2
  rw [h1, twiceL, if_neg (by show ¬ (l.take k).any (sameTo x) = true; simp [h]), Nd.take_snoc hx]
theorem twiceL_hit {l : List Wl} {k : Nat} {x : Wl} (hx : l[k]? = some x) (h : (l.take k).any (sameTo x) = true) : twiceL (l.take k) (l.drop k) = some x.2.1 := by
  have hk := (List.getElem?_eq_some_iff.1 hx).1
  have h1 : l.drop k = x :: l.drop (k + 1) := by rw [List.drop_eq_getElem_cons hk]; congr 1; exact (List.getElem?_eq_some_iff.1 hx).2
  rw [h1, twiceL, if_pos (by show (l.take k).any (sameTo x) = true; exact h)]
set_option maxRecDepth 100000 in
theorem same_walk (a x : Wl) (A1 : Option Addr) (c1 : Nat) (A2 : Option Addr) (c2 : Nat) (D1 : Option Addr) (d1 : Nat) (D2 : Option Addr) (d2 : Nat) (ok okx : Nat → Prop) (B : Nat) (w : World)
    (hB : w.heap[B]? = some (.cells #[.slice D1 a.1.length d1, .slice D2 a.2.1.length d2, .int .u32 a.2.2] 403 (0, 0))) (ha : Sl tInt w ok (.slice D2 a.2.1.length d2) a.2.1) (hx : Sl tInt w okx (.slice A2 x.2.1.length c2) x.2.1) :
    Calls Tryz.prog 268 #[.agg #[.slice A1 x.1.length c1, .slice A2 x.2.1.length c2, .int .u32 x.2.2], .pointer (some ⟨B, 0, none⟩)] w fun e w' => e = .returned (.bool (sameTo a x)) ∧ Below w.heap.size w w' := by
  have heq := fun w1 (h : Below w.heap.size w w1) => intsEqual_walk a.2.1 x.2.1 w1 ok okx _ _ (ha.below h) (hx.below h)
  have hs : sameTo a x = (decide (a.2.2 = x.2.2) && decide (a.2.1 = x.2.1)) := by unfold sameTo; rw [Bool.decide_and]
  rw [hs]
  clear hs
  obtain ⟨q, hq⟩ : ∃ q, q = decide (a.2.1 = x.2.1) := ⟨_, rfl⟩
  simp only [← hq] at heq ⊢
  have a0 := bcellAt (v := .slice D1 a.1.length d1) hB 0 rfl
  have a1 := bcellAt (v := .slice D2 a.2.1.length d2) hB 1 rfl
  have a2 := bcellAt (v := .int .u32 a.2.2) hB 2 rfl
  have lb := blockLt hB
  obtain ⟨y, hy⟩ : ∃ y, y = a.2.2 := ⟨_, rfl⟩
  obtain ⟨z, hz⟩ : ∃ z, z = x.2.2 := ⟨_, rfl⟩
  rw [← hy] at a2 ⊢
  rw [← hz]
  clear hq hy hz hB
  by_cases g : y = z
  · have q1 : (y == z) = true := by rw [beq_iff_eq]; exact g
    have q2 : decide (y = z) = true := decide_eq_true g
    rw [q2]
    clear g q2
    go_enter Tryz.func268, Tryz.ntmps268
    go_wp2_with (first | (go_at_call 269; refine (heq _ (by repeat (first | assumption | exact Below.refl _ _ | with_reducible refine bset ?_ (by simp) _ | with_reducible refine balloc ?_ _ | with_reducible refine bdrew ?_ | with_reducible refine bdrewN ?_ _ | with_reducible refine bstep ?_ (by assumption)))).mono ?_; clear heq; rintro e w1 ⟨rfl, hb1⟩))
    go_ret
    exact ⟨by rw [Bool.true_and]; rfl, bstep (balloc (brefl w) _) hb1⟩
  · have q1 : (y == z) = false := by rw [beq_eq_false_iff_ne]; exact g
    have q2 : decide (y = z) = false := decide_eq_false g
    rw [q2]
    clear g q2 heq
    go_enter Tryz.func268, Tryz.ntmps268
    go_wp2_with fail
    go_ret
    exact ⟨rfl, (by repeat (first | assumption | exact Below.refl _ _ | with_reducible refine bset ?_ (by simp) _ | with_reducible refine balloc ?_ _ | with_reducible refine bdrew ?_ | with_reducible refine bdrewN ?_ _ | with_reducible refine bstep ?_ (by assumption)))⟩
set_option maxRecDepth 100000 in
set_option maxHeartbeats 1000000 in
theorem twice_walk2 (t : Tr) (s : Lk) (w : World) (g B : Nat) (vl : Value) (hlk : LkB w g t s.1 vl) (hrow : Row tWl 403 w B vl s.2) (hgB : g < B) :
    Calls Tryz.prog 166 #[.pointer (some ⟨g, 0, none⟩)] w fun e w' => ∃ A c, e = .returned (.slice A ((twiceL [] s.2).getD []).length c) ∧ (twiceL [] s.2 = none → A = none ∧ c = 0) ∧ Sl tInt w' (B ≤ ·) (.slice A ((twiceL [] s.2).getD []).length c) ((twiceL [] s.2).getD []) ∧ Below w.heap.size w w' := by
  have hmf : ∀ (fn : Fn) (first cap : Array Value) (w : World), (Instr.makeFunc fn first cap).run Tryz.prog w = .ok (.func fn first cap) w := fun _ _ _ _ => rfl
  obtain ⟨A1, c1, A2, c2, A3, c3, hL, hT⟩ := id hlk
  obtain ⟨A4, c4, rfl, hc4, hl4, ha4⟩ := hrow.form
  obtain ⟨l, hl⟩ : ∃ l, l = s.2 := ⟨_, rfl⟩
  rw [← hl] at ha4 hc4 hl4 hL ⊢
  obtain ⟨R, hR⟩ : ∃ R, R = twiceL [] l := ⟨_, rfl⟩
  rw [← hR]
  have HR := Lib.hid hR
  have t6 := bcellAt (v := .slice A4 l.length c4) hL 6 rfl
  have ltg := blockLt hL
  clear hR hl hrow hlk hT
  go_enter Tryz.func166, Tryz.ntmps166
  go_wp2_with fail
  go_loopw [10] (fun i wr => ∃ k : Nat, k ≤ l.length ∧ i = .int .i64 k ∧ R = twiceL (l.take k) (l.drop k) ∧ Below w.heap.size w wr) (fun i _ => l.length - (intOf i).toNat)
  case atStart => exact ⟨0, by omega, rfl, HR.out, (by repeat (first | assumption | exact Below.refl _ _ | with_reducible refine bset ?_ (by simp) _ | with_reducible refine balloc ?_ _ | with_reducible refine bdrew ?_ | with_reducible refine bdrewN ?_ _ | with_reducible refine bstep ?_ (by assumption)))⟩
  case round =>
    obtain ⟨k, hk, rfl, hRk, hb⟩ := hrel
    have HRk := Lib.hid hRk
    clear hRk
    have t6 := bkeep hb t6
    have ltg := Nat.lt_of_lt_of_le ltg hb.size
    by_cases hkl : k < l.length
    · have hx : l[k]? = some l[k] := List.getElem?_eq_getElem hkl
      obtain ⟨x, hxe⟩ : ∃ x, x = l[k] := ⟨_, rfl⟩
      rw [← hxe] at hx
      have HX := Lib.hid hx
      obtain ⟨b, off, D1, d1, D2, d2, rfl, hob, hlb, r0, r1, r2, hx0, hx1, hsx, hsy⟩ := (ha4.below hb).wl_at hx
      have hpl := Sl.takeN (ha4.below hb) hc4 hl4 k hk
      obtain ⟨q, hq⟩ : ∃ q, q = (l.take k).any (sameTo x) := ⟨_, rfl⟩
      have hcon := fun w1 (h : Below wr.heap.size wr w1) (hB : w1.heap[wr.heap.size]? = some (.cells #[.slice D1 x.1.length d1, .slice D2 x.2.1.length d2, .int .u32 x.2.2] 403 (0, 0))) => wl_contains (l.take k) w1 _ _ (hpl.below h) (sameTo x) wr.heap.size (fun W2 y E1 e1 E2 e2 h2 _ k0 k1 hy1 hy2 => same_walk x y E1 e1 E2 e2 D1 d1 D2 d2 _ _ wr.heap.size W2 (bblock hB h2) (hsy.below (bstep h h2)) hy2)
      simp only [← hq] at hcon
      have HQ := Lib.hid hq
      have e3 : (0 : Int) ≤ (k : Int) := by omega
      have e4 : (k : Int) ≤ (c4 : Int) := by omega
      clear hx hxe hq hx0 hx1
      cases q
      · go_wp2_with (first
          | (go_at_call 267; refine (hcon _ ?_ ?_).mono ?_; exact (by repeat (first | assumption | exact Below.refl _ _ | with_reducible refine bset ?_ (by simp) _ | with_reducible refine balloc ?_ _ | with_reducible refine bdrew ?_ | with_reducible refine bdrewN ?_ _ | with_reducible refine bstep ?_ (by assumption))); exact blast _ _ _ rfl; clear hcon; rintro e w1 ⟨rfl, hb1⟩))
        go_roundw
        case rel => exact ⟨k + 1, by omega, by go_num, by rw [HRk.out]; exact twiceL_go HX.out HQ.out.symm, bstep (balloc hb _) hb1⟩
        case measure => simp [intOf]; omega
      · have hfin : R = some x.2.1 := by rw [HRk.out]; exact twiceL_hit HX.out HQ.out.symm
        subst hfin
        have hbx := fun w1 (hb1 : Below (wr.alloc (.cells #[.slice D1 x.1.length d1, .slice D2 x.2.1.length d2, .int .u32 x.2.2] 403)).heap.size (wr.alloc (.cells #[.slice D1 x.1.length d1, .slice D2 x.2.1.length d2, .int .u32 x.2.2] 403)) w1) => bblock (blast wr (.cells #[.slice D1 x.1.length d1, .slice D2 x.2.1.length d2, .int .u32 x.2.2] 403) _ rfl) hb1
        go_wp2_with (first
          | (go_at_call 267; refine (hcon _ ?_ ?_).mono ?_; exact (by repeat (first | assumption | exact Below.refl _ _ | with_reducible refine bset ?_ (by simp) _ | with_reducible refine balloc ?_ _ | with_reducible refine bdrew ?_ | with_reducible refine bdrewN ?_ _ | with_reducible refine bstep ?_ (by assumption))); exact blast _ _ _ rfl; clear hcon; rintro e w1 ⟨rfl, hb1⟩; have x1 := bcellAt (v := .slice D2 x.2.1.length d2) (hbx _ hb1) 1 rfl))
        go_ret
        exact ⟨D2, d2, rfl, (fun h => by cases h), ((hsy.below (balloc (brefl _) _)).below hb1).mono (fun j h _ => h), bstep (balloc hb _) hb1⟩
    · obtain rfl : k = l.length := by omega
      have hfin : R = none := by rw [HRk.out, List.drop_length]; rfl
      subst hfin
      go_wp2_with fail
      go_ret
      first | exact ⟨none, 0, rfl, ⟨rfl, rfl⟩, Sl.nil 0 none, hb⟩ | exact ⟨none, 0, rfl, (fun _ => ⟨rfl, rfl⟩), Sl.nil 0 none, hb⟩
end Go.Proofs.YtdfknlhfdbbogaaGreatDoor
