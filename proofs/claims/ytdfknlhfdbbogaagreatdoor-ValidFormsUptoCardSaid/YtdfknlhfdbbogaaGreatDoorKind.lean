/-
  valid: Known, Size. No condition.
-/
import Derived.Test.YtdfknlhfdbbogaaGreatDoorIrq6
namespace Go.Proofs.YtdfknlhfdbbogaaGreatDoor
open Go.RowKit
set_option linter.unusedSimpArgs false
set_option linter.unusedVariables false
theorem lit_false {s t : ByteArray} {l : List UInt8} (ht : t.toList = l) (h : s ≠ t) : (s.toList == l) = false := Bool.eq_false_iff.2 fun e => h (seq_true (by rw [ht]; exact e))
theorem known_walk (s : ByteArray) (w : World) : Calls Tryz.prog 58 #[.string s] w fun e w' => e = .returned (.int .i64 (kindOfS s)) ∧ Below w.heap.size w w' := by
  obtain ⟨K, hK⟩ : ∃ K, K = kindOfS s := ⟨_, rfl⟩
  rw [← hK]
  unfold kindOfS at hK
  by_cases h0 : s = (⟨#[115, 105, 109, 112, 108, 101, 45, 98, 117, 115]⟩ : ByteArray)
  · have q0 : (s.toList == [115, 105, 109, 112, 108, 101, 45, 98, 117, 115]) = true := by rw [h0]; kernel_rfl
    have hf : K = 1 := by rw [hK]; rw [if_pos h0]
    clear h0 hK
    subst hf
    go_enter Tryz.func58, Tryz.ntmps58
    go_wp2_with fail
    go_ret
    exact ⟨rfl, (by repeat (first | assumption | exact Below.refl _ _ | with_reducible refine bset ?_ (by simp) _ | with_reducible refine balloc ?_ _ | with_reducible refine bdrew ?_ | with_reducible refine bdrewN ?_ _ | with_reducible refine bstep ?_ (by assumption)))⟩
  have q0 : (s.toList == [115, 105, 109, 112, 108, 101, 45, 98, 117, 115]) = false := lit_false (by kernel_rfl) h0
  by_cases h1 : s = (⟨#[97, 114, 98, 111, 114, 44, 114, 97, 109]⟩ : ByteArray)
  · have q1 : (s.toList == [97, 114, 98, 111, 114, 44, 114, 97, 109]) = true := by rw [h1]; kernel_rfl
    have hf : K = 2 := by rw [hK]; rw [if_neg h0]; rw [if_pos h1]
    clear h0 h1 hK
    subst hf
    go_enter Tryz.func58, Tryz.ntmps58
    go_wp2_with fail
    go_ret
    exact ⟨rfl, (by repeat (first | assumption | exact Below.refl _ _ | with_reducible refine bset ?_ (by simp) _ | with_reducible refine balloc ?_ _ | with_reducible refine bdrew ?_ | with_reducible refine bdrewN ?_ _ | with_reducible refine bstep ?_ (by assumption)))⟩
  have q1 : (s.toList == [97, 114, 98, 111, 114, 44, 114, 97, 109]) = false := lit_false (by kernel_rfl) h1
  by_cases h2 : s = (⟨#[97, 114, 98, 111, 114, 44, 117, 97, 114, 116]⟩ : ByteArray)
  · have q2 : (s.toList == [97, 114, 98, 111, 114, 44, 117, 97, 114, 116]) = true := by rw [h2]; kernel_rfl
    have hf : K = 3 := by rw [hK]; rw [if_neg h0]; rw [if_neg h1]; rw [if_pos h2]
    clear h0 h1 h2 hK
    subst hf
    go_enter Tryz.func58, Tryz.ntmps58
    go_wp2_with fail
    go_ret
    exact ⟨rfl, (by repeat (first | assumption | exact Below.refl _ _ | with_reducible refine bset ?_ (by simp) _ | with_reducible refine balloc ?_ _ | with_reducible refine bdrew ?_ | with_reducible refine bdrewN ?_ _ | with_reducible refine bstep ?_ (by assumption)))⟩
  have q2 : (s.toList == [97, 114, 98, 111, 114, 44, 117, 97, 114, 116]) = false := lit_false (by kernel_rfl) h2
  by_cases h3 : s = (⟨#[97, 114, 98, 111, 114, 44, 99, 108, 111, 99, 107]⟩ : ByteArray)
  · have q3 : (s.toList == [97, 114, 98, 111, 114, 44, 99, 108, 111, 99, 107]) = true := by rw [h3]; kernel_rfl
    have hf : K = 4 := by rw [hK]; rw [if_neg h0]; rw [if_neg h1]; rw [if_neg h2]; rw [if_pos h3]
    clear h0 h1 h2 h3 hK
    subst hf
    go_enter Tryz.func58, Tryz.ntmps58
    go_wp2_with fail
    go_ret
    exact ⟨rfl, (by repeat (first | assumption | exact Below.refl _ _ | with_reducible refine bset ?_ (by simp) _ | with_reducible refine balloc ?_ _ | with_reducible refine bdrew ?_ | with_reducible refine bdrewN ?_ _ | with_reducible refine bstep ?_ (by assumption)))⟩
  have q3 : (s.toList == [97, 114, 98, 111, 114, 44, 99, 108, 111, 99, 107]) = false := lit_false (by kernel_rfl) h3
  by_cases h4 : s = (⟨#[97, 114, 98, 111, 114, 44, 103, 112, 105, 111]⟩ : ByteArray)
  · have q4 : (s.toList == [97, 114, 98, 111, 114, 44, 103, 112, 105, 111]) = true := by rw [h4]; kernel_rfl
    have hf : K = 5 := by rw [hK]; rw [if_neg h0]; rw [if_neg h1]; rw [if_neg h2]; rw [if_neg h3]; rw [if_pos h4]
    clear h0 h1 h2 h3 h4 hK
    subst hf
    go_enter Tryz.func58, Tryz.ntmps58
    go_wp2_with fail
    go_ret
    exact ⟨rfl, (by repeat (first | assumption | exact Below.refl _ _ | with_reducible refine bset ?_ (by simp) _ | with_reducible refine balloc ?_ _ | with_reducible refine bdrew ?_ | with_reducible refine bdrewN ?_ _ | with_reducible refine bstep ?_ (by assumption)))⟩
  have q4 : (s.toList == [97, 114, 98, 111, 114, 44, 103, 112, 105, 111]) = false := lit_false (by kernel_rfl) h4
  by_cases h5 : s = (⟨#[97, 114, 98, 111, 114, 44, 114, 116, 99]⟩ : ByteArray)
  · have q5 : (s.toList == [97, 114, 98, 111, 114, 44, 114, 116, 99]) = true := by rw [h5]; kernel_rfl
    have hf : K = 6 := by rw [hK]; rw [if_neg h0]; rw [if_neg h1]; rw [if_neg h2]; rw [if_neg h3]; rw [if_neg h4]; rw [if_pos h5]
    clear h0 h1 h2 h3 h4 h5 hK
    subst hf
    go_enter Tryz.func58, Tryz.ntmps58
    go_wp2_with fail
    go_ret
    exact ⟨rfl, (by repeat (first | assumption | exact Below.refl _ _ | with_reducible refine bset ?_ (by simp) _ | with_reducible refine balloc ?_ _ | with_reducible refine bdrew ?_ | with_reducible refine bdrewN ?_ _ | with_reducible refine bstep ?_ (by assumption)))⟩
  have q5 : (s.toList == [97, 114, 98, 111, 114, 44, 114, 116, 99]) = false := lit_false (by kernel_rfl) h5
  by_cases h6 : s = (⟨#[97, 114, 98, 111, 114, 44, 99, 116, 114, 108]⟩ : ByteArray)
  · have q6 : (s.toList == [97, 114, 98, 111, 114, 44, 99, 116, 114, 108]) = true := by rw [h6]; kernel_rfl
    have hf : K = 7 := by rw [hK]; rw [if_neg h0]; rw [if_neg h1]; rw [if_neg h2]; rw [if_neg h3]; rw [if_neg h4]; rw [if_neg h5]; rw [if_pos h6]
    clear h0 h1 h2 h3 h4 h5 h6 hK
    subst hf
    go_enter Tryz.func58, Tryz.ntmps58
    go_wp2_with fail
    go_ret
    exact ⟨rfl, (by repeat (first | assumption | exact Below.refl _ _ | with_reducible refine bset ?_ (by simp) _ | with_reducible refine balloc ?_ _ | with_reducible refine bdrew ?_ | with_reducible refine bdrewN ?_ _ | with_reducible refine bstep ?_ (by assumption)))⟩
  have q6 : (s.toList == [97, 114, 98, 111, 114, 44, 99, 116, 114, 108]) = false := lit_false (by kernel_rfl) h6
  have hf : K = 0 := by rw [hK]; rw [if_neg h0]; rw [if_neg h1]; rw [if_neg h2]; rw [if_neg h3]; rw [if_neg h4]; rw [if_neg h5]; rw [if_neg h6]
  clear h0 h1 h2 h3 h4 h5 h6 hK
  subst hf
  go_enter Tryz.func58, Tryz.ntmps58
  go_wp2_with fail
  go_ret
  exact ⟨rfl, (by repeat (first | assumption | exact Below.refl _ _ | with_reducible refine bset ?_ (by simp) _ | with_reducible refine balloc ?_ _ | with_reducible refine bdrew ?_ | with_reducible refine bdrewN ?_ _ | with_reducible refine bstep ?_ (by assumption)))⟩
theorem sizeK_walk (k : Int) (w : World) : Calls Tryz.prog 14 #[.int .i64 k] w fun e w' => e = .returned (.int .u64 (sizeOfK k)) ∧ Below w.heap.size w w' := by
  obtain ⟨K, hK⟩ : ∃ K, K = sizeOfK k := ⟨_, rfl⟩
  rw [← hK]
  unfold sizeOfK at hK
  by_cases h3 : k = 3
  · subst h3
    have hf : K = 16 := by rw [hK]; rfl
    clear hK
    subst hf
    go_enter Tryz.func14, Tryz.ntmps14
    go_wp2_with fail
    go_ret
    exact ⟨rfl, (by repeat (first | assumption | exact Below.refl _ _ | with_reducible refine bset ?_ (by simp) _ | with_reducible refine balloc ?_ _ | with_reducible refine bdrew ?_ | with_reducible refine bdrewN ?_ _ | with_reducible refine bstep ?_ (by assumption)))⟩
  have q3 : (k == 3) = false := by rw [beq_eq_false_iff_ne]; exact h3
  by_cases h4 : k = 4
  · subst h4
    have hf : K = 16 := by rw [hK]; rfl
    clear hK
    subst hf
    go_enter Tryz.func14, Tryz.ntmps14
    go_wp2_with fail
    go_ret
    exact ⟨rfl, (by repeat (first | assumption | exact Below.refl _ _ | with_reducible refine bset ?_ (by simp) _ | with_reducible refine balloc ?_ _ | with_reducible refine bdrew ?_ | with_reducible refine bdrewN ?_ _ | with_reducible refine bstep ?_ (by assumption)))⟩
  have q4 : (k == 4) = false := by rw [beq_eq_false_iff_ne]; exact h4
  by_cases h6 : k = 6
  · subst h6
    have hf : K = 16 := by rw [hK]; rfl
    clear hK
    subst hf
    go_enter Tryz.func14, Tryz.ntmps14
    go_wp2_with fail
    go_ret
    exact ⟨rfl, (by repeat (first | assumption | exact Below.refl _ _ | with_reducible refine bset ?_ (by simp) _ | with_reducible refine balloc ?_ _ | with_reducible refine bdrew ?_ | with_reducible refine bdrewN ?_ _ | with_reducible refine bstep ?_ (by assumption)))⟩
  have q6 : (k == 6) = false := by rw [beq_eq_false_iff_ne]; exact h6
  by_cases h7 : k = 7
  · subst h7
    have hf : K = 16 := by rw [hK]; rfl
    clear hK
    subst hf
    go_enter Tryz.func14, Tryz.ntmps14
    go_wp2_with fail
    go_ret
    exact ⟨rfl, (by repeat (first | assumption | exact Below.refl _ _ | with_reducible refine bset ?_ (by simp) _ | with_reducible refine balloc ?_ _ | with_reducible refine bdrew ?_ | with_reducible refine bdrewN ?_ _ | with_reducible refine bstep ?_ (by assumption)))⟩
  have q7 : (k == 7) = false := by rw [beq_eq_false_iff_ne]; exact h7
  by_cases h5 : k = 5
  · subst h5
    have hf : K = 32 := by rw [hK]; rfl
    clear hK
    subst hf
    go_enter Tryz.func14, Tryz.ntmps14
    go_wp2_with fail
    go_ret
    exact ⟨rfl, (by repeat (first | assumption | exact Below.refl _ _ | with_reducible refine bset ?_ (by simp) _ | with_reducible refine balloc ?_ _ | with_reducible refine bdrew ?_ | with_reducible refine bdrewN ?_ _ | with_reducible refine bstep ?_ (by assumption)))⟩
  have q5 : (k == 5) = false := by rw [beq_eq_false_iff_ne]; exact h5
  have hf : K = 0 := by rw [hK]; simp [h3, h4, h5, h6, h7]
  clear h3 h4 h5 h6 h7 hK
  subst hf
  go_enter Tryz.func14, Tryz.ntmps14
  go_wp2_with fail
  go_ret
  exact ⟨rfl, (by repeat (first | assumption | exact Below.refl _ _ | with_reducible refine bset ?_ (by simp) _ | with_reducible refine balloc ?_ _ | with_reducible refine bdrew ?_ | with_reducible refine bdrewN ?_ _ | with_reducible refine bstep ?_ (by assumption)))⟩
theorem kindL_hit {l : List ByteArray} {k : Nat} {s : ByteArray} (hx : l[k]? = some s) (ha : ∀ q ∈ l.take k, kindOfS q = 0) (hs : kindOfS s ≠ 0) : kindL l = (kindOfS s, false) := by
  induction l generalizing k with
  | nil => simp at hx
  | cons a l ih =>
    rw [kindL]
    rcases k with _ | k
    · simp at hx; subst hx; rw [if_pos hs]
    · rw [if_neg (by simp [ha a (by simp)])]; exact ih (by simpa using hx) fun q hq => ha q (by simp [hq])
theorem kindL_none {l : List ByteArray} (ha : ∀ q ∈ l, kindOfS q = 0) : kindL l = (0, true) := by
  induction l with
  | nil => rfl
  | cons a l ih => rw [kindL, if_neg (by simp [ha a (by simp)])]; exact ih fun q hq => ha q (by simp [hq])
set_option maxRecDepth 100000 in
theorem kind_walk (n : Nd) (hn : n.size ≤ 1073741824) (w : World) (hw : Wd w) (ok : Nat → Prop) (v : Value) (hv : NdV w ok v n) :
    Calls Tryz.prog 158 #[v] w fun e w' => e = .returned (.tuple #[.int .i64 (kindM n).1, .bool (kindM n).2.1, .int .i64 (kindM n).2.2]) ∧ Below w.heap.size w w' := by
  have hf1 := fun w1 (h : Below w.heap.size w w1) => find_walk n hn compS w1 ok _ (hv.below h)
  have e1 : compS = (⟨#[99, 111, 109, 112, 97, 116, 105, 98, 108, 101]⟩ : ByteArray) := rfl
  have hfs : ∀ b, n.find compS = some b → b.length ≤ 1073741824 := fun b h => by have := findP_size h; have := Nd.size_eq n; omega
  obtain ⟨R, hR⟩ : ∃ R, R = kindM n := ⟨_, rfl⟩
  rw [← hR]
  unfold kindM at hR
  obtain ⟨A5, c5, A6, c6, rfl, hnn⟩ := hv.form
  clear hnn
  cases hf : n.find compS with
  | none =>
    rw [hf] at hR
    simp only at hR
    simp only [hf, Option.isSome_none, Option.getD_none] at hf1
    rw [e1] at hf1
    clear hf hfs e1
    subst hR
    go_enter Tryz.func158, Tryz.ntmps158
    go_wp2_with (first
      | (go_at_call 198; (refine (hf1 _ (by repeat (first | assumption | exact Below.refl _ _ | with_reducible refine bset ?_ (by simp) _ | with_reducible refine balloc ?_ _ | with_reducible refine bdrew ?_ | with_reducible refine bdrewN ?_ _ | with_reducible refine bstep ?_ (by assumption)))).mono ?_); clear hf1; rintro e w1 ⟨v1, rfl, hr1, hb1⟩; obtain ⟨A7, c7, rfl, hA7⟩ := hr1.form; clear hA7))
    go_ret3
    exact ⟨rfl, (by repeat (first | assumption | exact Below.refl _ _ | with_reducible refine bset ?_ (by simp) _ | with_reducible refine balloc ?_ _ | with_reducible refine bdrew ?_ | with_reducible refine bdrewN ?_ _ | with_reducible refine bstep ?_ (by assumption)))⟩
  | some b =>
    rw [hf] at hR
    simp only at hR
    have hbl := hfs _ hf
    simp only [hf, Option.isSome_some, Option.getD_some] at hf1
    rw [e1] at hf1
    have htx := fun w1 h okb bv hbv => texts_walk b hbl w1 h okb bv hbv
    obtain ⟨ts, e2, hte⟩ : ∃ ts e2, textsM b = (ts, e2) := ⟨_, _, rfl⟩
    simp only [hte] at htx hR
    clear hf hfs e1 hte
    by_cases g1 : e2 = 0
    · subst g1
      have hR2 : R = ((kindL ts).1, (kindL ts).2, 0) := by rw [hR]; simp
      have HR := Lib.hid hR2
      clear hR hR2
      go_enter Tryz.func158, Tryz.ntmps158
      go_wp2_with (first
        | (go_at_call 198; (refine (hf1 _ (by repeat (first | assumption | exact Below.refl _ _ | with_reducible refine bset ?_ (by simp) _ | with_reducible refine balloc ?_ _ | with_reducible refine bdrew ?_ | with_reducible refine bdrewN ?_ _ | with_reducible refine bstep ?_ (by assumption)))).mono ?_); clear hf1; rintro e w1 ⟨v1, rfl, hr1, hb1⟩; have hs1 := hr1.sl; have hbw1 := bstep (balloc (brefl w) _) hb1; have hw1 := hw.below hbw1; obtain ⟨A7, c7, rfl, hA7⟩ := hr1.form; clear hA7)
        | (go_at_call 199; (refine (htx _ hw1 _ _ hs1).mono ?_); clear htx; rintro e w2 ⟨v2, rfl, hs2, hb2⟩; have hbw2 := bstep hbw1 hb2; obtain ⟨A8, c8, rfl, hc8, hl8, ha8⟩ := id hs2))
      go_loopw [29] (fun i wr => ∃ k : Nat, k ≤ ts.length ∧ i = .int .i64 k ∧ (∀ q ∈ ts.take k, kindOfS q = 0) ∧ Below w2.heap.size w2 wr) (fun i _ => ts.length - (intOf i).toNat)
      case atStart => exact ⟨0, by omega, rfl, by simp, brefl _⟩
      case round =>
        obtain ⟨k, hk, rfl, hall, hb⟩ := hrel
        have HA := Lib.hid hall
        clear hall
        by_cases hkl : k < ts.length
        · have hx : ts[k]? = some ts[k] := List.getElem?_eq_getElem hkl
          obtain ⟨x, hxe⟩ : ∃ x, x = ts[k] := ⟨_, rfl⟩
          rw [← hxe] at hx
          clear hxe
          obtain ⟨bb, off, rfl, hob, hlb, r0⟩ := (ha8.below hb).str_at hx
          have hkn := fun w1 => known_walk x w1
          obtain ⟨K, hK⟩ : ∃ K, K = kindOfS x := ⟨_, rfl⟩
          simp only [← hK] at hkn
          have HX := Lib.hid hx
          clear hx
          by_cases q : K = 0
          · have HN := Lib.hid (all_snoc (P := fun q : ByteArray => kindOfS q = 0) HX.out HA.out (by rw [← hK]; exact q))
            subst q
            clear hK
            go_wp2_with (first
              | (go_at_call 58; (refine (hkn _).mono ?_); clear hkn; rintro e w3 ⟨rfl, hb3⟩))
            go_roundw
            case rel => exact ⟨k + 1, by omega, by go_num, HN.out, bstep hb hb3⟩
            case measure => simp [intOf]; omega
          · have hfin : R = (K, false, 0) := by rw [HR.out, kindL_hit HX.out HA.out (by rw [← hK]; exact q), ← hK]
            have q9 : (K != 0) = true := by rw [bne_iff_ne]; exact q
            clear hK
            subst hfin
            go_wp2_with (first
              | (go_at_call 58; (refine (hkn _).mono ?_); clear hkn; rintro e w3 ⟨rfl, hb3⟩))
            go_ret3
            exact ⟨rfl, bstep (bstep hbw2 hb) hb3⟩
        · obtain rfl : k = ts.length := by omega
          have h9 := HA.out
          rw [List.take_length] at h9
          have hfin : R = (0, true, 0) := by rw [HR.out, kindL_none h9]
          subst hfin
          clear h9
          go_wp2_with fail
          go_ret3
          exact ⟨rfl, bstep hbw2 hb⟩
    · rw [if_pos g1] at hR
      have q4 : (e2 != 0) = true := by rw [bne_iff_ne]; exact g1
      subst hR
      go_enter Tryz.func158, Tryz.ntmps158
      go_wp2_with (first
        | (go_at_call 198; (refine (hf1 _ (by repeat (first | assumption | exact Below.refl _ _ | with_reducible refine bset ?_ (by simp) _ | with_reducible refine balloc ?_ _ | with_reducible refine bdrew ?_ | with_reducible refine bdrewN ?_ _ | with_reducible refine bstep ?_ (by assumption)))).mono ?_); clear hf1; rintro e w1 ⟨v1, rfl, hr1, hb1⟩; have hs1 := hr1.sl; have hbw1 := bstep (balloc (brefl w) _) hb1; have hw1 := hw.below hbw1; obtain ⟨A7, c7, rfl, hA7⟩ := hr1.form; clear hA7)
        | (go_at_call 199; (refine (htx _ hw1 _ _ hs1).mono ?_); clear htx; rintro e w2 ⟨v2, rfl, hs2, hb2⟩; have hbw2 := bstep hbw1 hb2; obtain ⟨A8, c8, rfl, hc8, hl8, ha8⟩ := id hs2))
      go_ret3
      exact ⟨rfl, (by repeat (first | assumption | exact Below.refl _ _ | with_reducible refine bset ?_ (by simp) _ | with_reducible refine balloc ?_ _ | with_reducible refine bdrew ?_ | with_reducible refine bdrewN ?_ _ | with_reducible refine bstep ?_ (by assumption)))⟩
end Go.Proofs.YtdfknlhfdbbogaaGreatDoor
