/-
  handle: Index, Find. No condition.
-/
import Derived.Test.YtdfknlhfdbbogaaGreatDoorHandle
namespace Go.Proofs.YtdfknlhfdbbogaaGreatDoor
open Go.RowKit
set_option linter.unusedSimpArgs false
set_option linter.unusedVariables false
theorem index_walk (t : Tr) (hsz : t.root.size ≤ 536870912) (w : World) (ok : Nat → Prop) (v : Value) (hv : TrV w ok v t) :
    Calls Tryz.prog 68 #[v] w fun e w' => ∃ v2 e2, e = .returned (.tuple #[v2, .int .i64 e2]) ∧ ((e2 = 0 ∧ ∃ l, indexM t = .ok l ∧ Row tRef 398 w' w.heap.size v2 l ∧ l.length ≤ t.root.size) ∨ (e2 ≠ 0 ∧ indexM t = .error e2)) ∧ Below w.heap.size w w' := by
  obtain ⟨vr, vp, vk, rfl, h0, h00, h1, h2, h3⟩ := hv
  have hn := TrV.root (t := t) h2 h3
  obtain ⟨A1, c1, rfl, hc1, hl1, ha1⟩ := h1
  obtain ⟨A2, c2, rfl, hc2, hl2, ha2⟩ := h2
  obtain ⟨A3, c3, rfl, hc3, hl3, ha3⟩ := h3
  have hn2 : NdV w (fun k => ok k ∧ k < w.heap.size) (.agg #[.string t.root.name, .slice A2 t.root.props.length c2, .slice A3 t.root.kids.length c3]) t.root := hn.mono fun k h h2 => ⟨h, h2⟩
  have hof := fun (w2 : World) (b : Nat) (hb : Below w.heap.size w w2) (hs : SetU w2 b 0 (known [])) (hbl : w.heap.size ≤ b) (hbl2 : b + 1 = w2.heap.size) =>
    of_walk t.root (by omega) [] [] w2 (fun k => ok k ∧ k < w.heap.size) (fun _ => False) _ (.slice none 0 0) (.slice none 0 0) (b + 1) b 0 (hn2.below hb) (Sl.nil 0 none) Own.nil hs (by omega) (by omega) (by omega) (by simp; omega) (by simp; omega)
      (fun k hk _ => ⟨by omega, by simp [Value.ownBlock]⟩) (fun k hk _ => hk.elim)
  have hmk := fun w : World => run_makeMap (P := Tryz.prog) 282 w
  go_enter Tryz.func68, Tryz.ntmps68
  go_wp2_with (first
    | (go_at_call 152; (refine (hof _ (w.heap.size + 1) (by repeat (first | assumption | exact Below.refl _ _ | with_reducible refine bset ?_ (by simp) _ | with_reducible refine balloc ?_ _ | with_reducible refine bdrew ?_ | with_reducible refine bdrewN ?_ _ | with_reducible refine bstep ?_ (by assumption))) ?_ (by omega) (by simp)).mono ?_); (have h9 := SetU.made (w.alloc (.cells #[.int .u32 t.boot, .slice A1 t.res.length c1, .string t.root.name, .slice A2 t.root.props.length c2, .slice A3 t.root.kids.length c3] 34)); rw [World.size_alloc] at h9; exact h9); rintro e w1 ⟨v2, e2, rfl, hres⟩))
  go_ret2
  obtain ⟨hk, hres⟩ := hres
  have hb : Below w.heap.size w w1 := by
    have h9 := (Kept.below (X := fun _ => False) (w := w) (by repeat (first | assumption | exact Below.refl _ _ | with_reducible refine bset ?_ (by simp) _ | with_reducible refine balloc ?_ _ | with_reducible refine bdrew ?_ | with_reducible refine bdrewN ?_ _ | with_reducible refine bstep ?_ (by assumption)))).trans hk (fun i hi h => by rcases h with h | h; omega; simp [Value.ownBlock] at h)
    exact h9.toBelow fun _ _ h => h
  rcases hres with ⟨rfl, l', m', h3, h4, h5, h6, h7, h8⟩ | ⟨hne, herr⟩
  · exact ⟨_, _, rfl, .inl ⟨rfl, l', h3, h4.mono (by omega) (fun k h _ => by have h9 : w.heap.size + 1 + 1 ≤ k := h; show w.heap.size ≤ k; omega), by simpa using h7⟩, hb⟩
  · exact ⟨_, _, rfl, .inr ⟨hne, herr⟩, hb⟩
theorem SlA.ref_at {w : World} {ok : Nat → Prop} {A : Option Addr} {xs : List Ref} {j : Nat} {x : Ref} (h : SlA tRef w ok A xs) (hx : xs[j]? = some x) : ∃ b off A1 c1, A = some ⟨b, off, none⟩ ∧ ok b ∧ b < w.heap.size ∧
    w.cell? ⟨b, off + j * 2, none⟩ = some (.int .u32 x.1) ∧ w.cell? ⟨b, off + j * 2 + 1, none⟩ = some (.slice A1 x.2.length c1) ∧ 0 ≤ x.1 ∧ x.1 < 4294967296 ∧ Sl tInt w ok (.slice A1 x.2.length c1) x.2 := by
  obtain ⟨b, off, cs, rfl, hb, hlt, ⟨ds, es, rfl, ⟨rfl, h1, h2⟩, v, rfl, A1, c1, rfl, h3, h4, h5⟩, hc⟩ := h.at hx
  exact ⟨b, off, A1, c1, rfl, hb, hlt, hc 0 _ rfl, hc 1 _ rfl, h1, h2, A1, c1, rfl, h3, h4, h5⟩
theorem hfind_hit {h : Int} {l : List Ref} {k : Nat} {r : Ref} (hx : l[k]? = some r) (ha : ∀ q ∈ l.take k, q.1 ≠ h) (hr : r.1 = h) : hfind h l = (r.2, 0) := by
  induction l generalizing k with
  | nil => simp at hx
  | cons a l ih =>
    rw [hfind]
    rcases k with _ | k
    · simp at hx; subst hx; rw [if_pos hr]
    · rw [if_neg (ha a (by simp))]; exact ih (by simpa using hx) fun q hq => ha q (by simp [hq])
theorem hfind_none {h : Int} {l : List Ref} (ha : ∀ q ∈ l, q.1 ≠ h) : hfind h l = ([], 11) := by
  induction l with
  | nil => rfl
  | cons a l ih => rw [hfind, if_neg (ha a (by simp))]; exact ih fun q hq => ha q (by simp [hq])
theorem hfind_mem {h : Int} {l : List Ref} : (hfind h l).1 = [] ∨ ∃ r ∈ l, (hfind h l).1 = r.2 := by
  induction l with
  | nil => left; rfl
  | cons a l ih =>
    rw [hfind]
    split
    · right; exact ⟨a, by simp, rfl⟩
    · rcases ih with h | ⟨r, hr, h⟩
      · exact .inl h
      · exact .inr ⟨r, by simp [hr], h⟩
set_option maxRecDepth 100000 in
theorem findH_walk (t : Tr) (hsz : t.root.size ≤ 536870912) (h : Int) (w : World) (ok : Nat → Prop) (v : Value) (hv : TrV w ok v t) :
    Calls Tryz.prog 318 #[v, .int .u32 h] w fun e w' => ∃ v2, e = .returned (.tuple #[v2, .int .i64 (findH t h).2]) ∧ Sl tInt w' (w.heap.size ≤ ·) v2 (findH t h).1 ∧ Below w.heap.size w w' := by
  have hidx := fun w1 (h : Below w.heap.size w w1) => index_walk t hsz w1 ok _ (hv.below h)
  obtain ⟨A1, c1, A2, c2, A3, c3, rfl, hrl⟩ := hv.form
  obtain ⟨R, hR⟩ : ∃ R, R = findH t h := ⟨_, rfl⟩
  rw [← hR]
  have HR := Lib.hid hR
  clear hR
  cases hix : indexM t with
  | error e0 =>
    have hfin : R = ([], e0) := by rw [HR.out]; unfold findH; rw [hix]
    simp only [hix] at hidx
    subst hfin
    have hidx2 : ∀ w1, Below w.heap.size w w1 → Calls Tryz.prog 68 #[.agg #[.int .u32 t.boot, .slice A1 t.res.length c1, .string t.root.name, .slice A2 t.root.props.length c2, .slice A3 t.root.kids.length c3]] w1 fun e w' => ∃ v2, e = .returned (.tuple #[v2, .int .i64 e0]) ∧ (e0 != 0) = true ∧ Below w1.heap.size w1 w' := fun w1 hb => (hidx w1 hb).mono fun e w' ⟨v2, e2, h1, h2, h3⟩ => by
      rcases h2 with ⟨_, l, h4, _⟩ | ⟨h4, h5⟩
      · cases h4
      · injection h5 with h5; subst h5; exact ⟨v2, h1, by rw [bne_iff_ne]; exact h4, h3⟩
    clear hidx
    go_enter Tryz.func318, Tryz.ntmps318
    go_wp2_with (first
      | (go_at_call 68; refine (hidx2 _ (by repeat (first | assumption | exact Below.refl _ _ | with_reducible refine bset ?_ (by simp) _ | with_reducible refine balloc ?_ _ | with_reducible refine bdrew ?_ | with_reducible refine bdrewN ?_ _ | with_reducible refine bstep ?_ (by assumption)))).mono ?_; clear hidx2; rintro e w1 ⟨v2, rfl, q3, hb1⟩))
    go_ret2
    exact ⟨_, rfl, Sl.nil 0 none, (by repeat (first | assumption | exact Below.refl _ _ | with_reducible refine bset ?_ (by simp) _ | with_reducible refine balloc ?_ _ | with_reducible refine bdrew ?_ | with_reducible refine bdrewN ?_ _ | with_reducible refine bstep ?_ (by assumption)))⟩
  | ok l =>
    have hfin : R = hfind h l := by rw [HR.out]; unfold findH; rw [hix]
    simp only [hix] at hidx
    have hidx2 : ∀ w1, Below w.heap.size w w1 → Calls Tryz.prog 68 #[.agg #[.int .u32 t.boot, .slice A1 t.res.length c1, .string t.root.name, .slice A2 t.root.props.length c2, .slice A3 t.root.kids.length c3]] w1 fun e w' => ∃ v2, e = .returned (.tuple #[v2, .int .i64 0]) ∧ Row tRef 398 w' w1.heap.size v2 l ∧ l.length ≤ t.root.size ∧ Below w1.heap.size w1 w' := fun w1 hb => (hidx w1 hb).mono fun e w' ⟨v2, e2, h1, h2, h3⟩ => by
      rcases h2 with ⟨h6, l', h4, h7, h8⟩ | ⟨h4, h5⟩
      · injection h4 with h4; subst h4 h6; exact ⟨v2, h1, h7, h8, h3⟩
      · cases h5
    have HF := Lib.hid hfin
    clear hidx hfin HR hix
    go_enter Tryz.func318, Tryz.ntmps318
    go_wp2_with (first
      | (go_at_call 68; refine (hidx2 _ (by repeat (first | assumption | exact Below.refl _ _ | with_reducible refine bset ?_ (by simp) _ | with_reducible refine balloc ?_ _ | with_reducible refine bdrew ?_ | with_reducible refine bdrewN ?_ _ | with_reducible refine bstep ?_ (by assumption)))).mono ?_; clear hidx2; rintro e w1 ⟨v2, rfl, hr1, hll, hb1⟩; obtain ⟨A5, c5, rfl, hc5, hl5, ha5⟩ := hr1.form; have hbw := bstep (balloc (brefl w) _) hb1; clear hr1))
    go_loopw [20] (fun i wr => ∃ k : Nat, k ≤ l.length ∧ i = .int .i64 k ∧ (∀ q ∈ l.take k, q.1 ≠ h) ∧ Below w1.heap.size w1 wr) (fun i _ => l.length - (intOf i).toNat)
    case atStart => exact ⟨0, by omega, rfl, by simp, brefl _⟩
    case round =>
      obtain ⟨k, hk, rfl, hall, hb⟩ := hrel
      have HA := Lib.hid hall
      clear hall
      by_cases hkl : k < l.length
      · have hx : l[k]? = some l[k] := List.getElem?_eq_getElem hkl
        obtain ⟨x, hxe⟩ : ∃ x, x = l[k] := ⟨_, rfl⟩
        rw [← hxe] at hx
        obtain ⟨b, off, A6, c6, rfl, hob, hlb, r0, r1, u0, u1, hsl⟩ := (ha5.below hb).ref_at hx
        obtain ⟨x0, x1⟩ := x
        simp only at r0 r1 u0 u1 hsl
        by_cases hq : x0 = h
        · have hfin := HF.out.trans (hfind_hit hx HA.out hq)
          subst hfin hq
          have hbw2 := bstep hbw hb
          clear hx hxe ha5
          go_wp2_with fail
          go_ret2
          exact ⟨_, rfl, (hsl.below (balloc (brefl _) _)).mono (fun k h _ => by simp at h; omega), (by repeat (first | assumption | exact Below.refl _ _ | with_reducible refine bset ?_ (by simp) _ | with_reducible refine balloc ?_ _ | with_reducible refine bdrew ?_ | with_reducible refine bdrewN ?_ _ | with_reducible refine bstep ?_ (by assumption)))⟩
        · have HN := Lib.hid (all_snoc (P := fun q : Ref => q.1 ≠ h) hx HA.out hq)
          have q9 : (x0 == h) = false := by rw [beq_eq_false_iff_ne]; exact hq
          clear hx hxe ha5 hq
          go_wp2_with fail
          go_roundw
          case rel => exact ⟨k + 1, by omega, by go_num, HN.out, (by repeat (first | assumption | exact Below.refl _ _ | with_reducible refine bset ?_ (by simp) _ | with_reducible refine balloc ?_ _ | with_reducible refine bdrew ?_ | with_reducible refine bdrewN ?_ _ | with_reducible refine bstep ?_ (by assumption)))⟩
          case measure => simp [intOf]; omega
      · obtain rfl : k = l.length := by omega
        have h5 := HA.out
        rw [List.take_length] at h5
        have hfin := HF.out.trans (hfind_none h5)
        subst hfin
        have hbw2 := bstep hbw hb
        clear h5
        go_wp2_with fail
        go_ret2
        exact ⟨_, rfl, Sl.nil 0 none, hbw2⟩
end Go.Proofs.YtdfknlhfdbbogaaGreatDoor
