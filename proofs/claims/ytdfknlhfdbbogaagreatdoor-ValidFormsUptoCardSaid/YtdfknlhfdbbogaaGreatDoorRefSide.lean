/-
  The reference side walked: names, nodes, the tree counted, what is wrong with it, one cell, Get.
-/
import Derived.Test.YtdfknlhfdbbogaaGreatDoorNames
import Derived.Lib.IndexMore
import Derived.Test.YtdfknlhfdbbogaaGreatDoorPlaces
import Derived.Test.YtdfknlhfdbbogaaGreatDoorProps2
import Derived.Test.YtdfknlhfdbbogaaGreatDoorPath
namespace Go.Proofs.YtdfknlhfdbbogaaGreatDoor
open Go.RowKit
set_option linter.unusedSimpArgs false
set_option linter.unusedVariables false
theorem index_at : ∀ l : List UInt8, Lib.index l [64] = Lib.indexByte l 64
  | [] => rfl
  | b :: l => by
    unfold Lib.index Lib.indexByte
    rw [index_at l]
    by_cases h : b = 64
    · subst h; simp [List.isPrefixOf]
    · have h2 : ((64 : UInt8) == b) = false := by rw [beq_eq_false_iff_ne]; exact fun e => h e.symm
      have h3 : (b == 64) = false := by rw [beq_eq_false_iff_ne]; exact h
      simp [List.isPrefixOf, h2, h3]
theorem fits_nil (c : UInt8) : fits [] c = plainB c.toNat := by simp [fits, Lib.indexByte]
def standsB (c : Int) : Bool := decide ((48 ≤ c ∧ c ≤ 57) ∨ (97 ≤ c ∧ c ≤ 122) ∨ (65 ≤ c ∧ c ≤ 90) ∨ c = 44 ∨ c = 46 ∨ c = 95 ∨ c = 43 ∨ c = 45)
theorem u8_eq (c d : UInt8) : c = d ↔ (c.toNat : Int) = d.toNat := by rw [← UInt8.toNat_inj]; omega
theorem stands_plain (c : UInt8) : standsB c.toNat = plainB c.toNat := by
  unfold standsB plainB letter
  rw [← Lib.contains_iff_indexByte]
  rw [show ((c.toNat : Int).toNat) = c.toNat by omega, UInt8.ofNat_toNat]
  rw [Bool.eq_iff_iff]
  simp only [List.contains_cons, List.contains_nil, Bool.or_false, Bool.or_eq_true, decide_eq_true_eq, beq_iff_eq, u8_eq c]
  have e1 : ((44 : UInt8).toNat : Int) = 44 := rfl
  have e2 : ((46 : UInt8).toNat : Int) = 46 := rfl
  have e3 : ((95 : UInt8).toNat : Int) = 95 := rfl
  have e4 : ((43 : UInt8).toNat : Int) = 43 := rfl
  have e5 : ((45 : UInt8).toNat : Int) = 45 := rfl
  rw [e1, e2, e3, e4, e5]
  omega
theorem fits_prop (c : UInt8) : fits [63, 35] c = (plainB c.toNat || decide ((c.toNat : Int) = 63 ∨ (c.toNat : Int) = 35)) := by
  unfold fits
  rw [← Lib.contains_iff_indexByte]
  congr 1
  rw [Bool.eq_iff_iff]
  simp only [List.contains_cons, List.contains_nil, Bool.or_false, Bool.or_eq_true, decide_eq_true_eq, beq_iff_eq, u8_eq c]
  have e1 : ((63 : UInt8).toNat : Int) = 63 := rfl
  have e2 : ((35 : UInt8).toNat : Int) = 35 := rfl
  rw [e1, e2]
def atB (s : ByteArray) : Int := Lib.indexByte s.data.toList 64
theorem all_nil (l : List UInt8) : l.all (fits []) = l.all (fun c => plainB c.toNat) := by congr 1; funext c; exact fits_nil c
theorem nodeB_iff (s : ByteArray) : nodeB s = true ↔ ((0 ≤ atB s → 1 ≤ (s.size : Int) - atB s - 1 ∧ (s.size : Int) - atB s - 1 ≤ 31) ∧ (∀ (i : Nat) (c : UInt8), s.data.toList[i]? = some c → (i : Int) ≠ atB s → plainB c.toNat = true) ∧
    (1 ≤ (if atB s < 0 then (s.size : Int) else atB s) ∧ (if atB s < 0 then (s.size : Int) else atB s) ≤ 31) ∧ (letter (s.data.toList.headD 0).toNat = true ∨ ((s.data.toList.headD 0).toNat : Int) = 95)) := by
  have hl := blen s
  obtain ⟨l, hle⟩ : ∃ l, l = s.data.toList := ⟨_, rfl⟩
  unfold nodeB allB cutAtB first atB
  rw [← hle] at hl ⊢
  unfold Lib.cut
  rw [index_at]
  have hge := Lib.indexByte_ge l 64
  by_cases h : 0 ≤ Lib.indexByte l 64
  · obtain ⟨o, ho⟩ := Int.eq_ofNat_of_zero_le h
    obtain ⟨h1, h2⟩ := Lib.indexByte_some ho
    have hol := (List.getElem?_eq_some_iff.1 h1).1
    have hlt : l.take o ++ 64 :: l.drop (o + 1) = l := by
      have := List.take_append_drop o l
      rw [List.drop_eq_getElem_cons hol, (List.getElem?_eq_some_iff.1 h1).2] at this
      exact this
    rw [if_pos h]
    simp only [ho, Int.toNat_natCast, List.length_singleton, bsize, Bool.and_eq_true, all_nil, decide_eq_true_eq, Bool.not_true, Bool.false_or, List.length_take, List.length_drop, Bool.or_eq_true]
    rw [if_neg (by omega)]
    have hhead : 1 ≤ o → (l.take o).headD 0 = l.headD 0 := by
      intro h; rcases l with _ | ⟨a, r⟩
      · simp at hol
      · rcases o with _ | o
        · omega
        · rfl
    have hmin : min o l.length = o := by omega
    rw [hmin]
    constructor
    · rintro ⟨⟨⟨⟨a1, a2⟩, a3⟩, a4⟩, ⟨b1, b2⟩, b3⟩
      rw [hhead a2] at a4
      refine ⟨fun _ => ⟨by omega, by omega⟩, ?_, ⟨by omega, by omega⟩, a4⟩
      intro i c hc hi
      rw [List.all_eq_true] at a1 b1
      rcases Nat.lt_trichotomy i o with h3 | h3 | h3
      · exact a1 c (List.mem_of_getElem? (i := i) (by rw [List.getElem?_take, if_pos h3]; exact hc))
      · exact absurd (by rw [h3]) hi
      · exact b1 c (List.mem_of_getElem? (i := i - (o + 1)) (by rw [List.getElem?_drop, show o + 1 + (i - (o + 1)) = i by omega]; exact hc))
    · rintro ⟨a1, a2, ⟨a3, a4⟩, a5⟩
      have a1 := a1 (by omega)
      refine ⟨⟨⟨⟨?_, by omega⟩, by omega⟩, ?_⟩, ⟨?_, by omega⟩, by omega⟩
      · rw [List.all_eq_true]
        intro c hc
        obtain ⟨i, hi⟩ := List.getElem?_of_mem hc
        rw [List.getElem?_take] at hi
        split at hi
        · exact a2 i c hi (by omega)
        · cases hi
      · rw [hhead (by omega)]; exact a5
      · rw [List.all_eq_true]
        intro c hc
        obtain ⟨i, hi⟩ := List.getElem?_of_mem hc
        rw [List.getElem?_drop] at hi
        exact a2 _ c hi (by omega)
  · rw [if_neg h]
    simp only [bsize, Bool.and_eq_true, all_nil, decide_eq_true_eq, Bool.not_false, Bool.true_or, Bool.or_eq_true, and_true]
    rw [if_pos (by omega)]
    constructor
    · rintro ⟨⟨⟨a1, a2⟩, a3⟩, a4⟩
      refine ⟨fun h3 => absurd h3 h, ?_, ⟨by omega, by omega⟩, a4⟩
      intro i c hc _
      rw [List.all_eq_true] at a1
      exact a1 c (List.mem_of_getElem? hc)
    · rintro ⟨a1, a2, ⟨a3, a4⟩, a5⟩
      refine ⟨⟨⟨?_, by omega⟩, by omega⟩, a5⟩
      rw [List.all_eq_true]
      intro c hc
      obtain ⟨i, hi⟩ := List.getElem?_of_mem hc
      have := (List.getElem?_eq_some_iff.1 hi).1
      exact a2 i c hi (by omega)
theorem indexByte_at {l : List UInt8} {c : UInt8} {k : Nat} (hk : l[k]? = some c) (ha : ∀ (j : Nat), j < k → l[j]? ≠ some c) : Lib.indexByte l c = (k : Int) := by
  have hge := Lib.indexByte_ge l c
  by_cases h : 0 ≤ Lib.indexByte l c
  · obtain ⟨o, ho⟩ := Int.eq_ofNat_of_zero_le h
    obtain ⟨h1, h2⟩ := Lib.indexByte_some ho
    rcases Nat.lt_trichotomy o k with h3 | h3 | h3
    · exact absurd h1 (ha o h3)
    · rw [ho, h3]
    · exact absurd hk (h2 k h3)
  · exact absurd hk (Lib.indexByte_none (by omega) k)
theorem indexByte_no {l : List UInt8} {c : UInt8} (ha : ∀ (j : Nat), j < l.length → l[j]? ≠ some c) : Lib.indexByte l c = -1 := by
  have hge := Lib.indexByte_ge l c
  by_cases h : 0 ≤ Lib.indexByte l c
  · obtain ⟨o, ho⟩ := Int.eq_ofNat_of_zero_le h
    obtain ⟨h1, h2⟩ := Lib.indexByte_some ho
    exact absurd h1 (ha o (List.getElem?_eq_some_iff.1 h1).1)
  · omega
theorem refCut_walk (s : ByteArray) (hs : s.size ≤ 1073741824) (w : World) : Calls Tryz.prog 246 #[.string s] w fun e w' => e = .returned (.int .i64 (atB s)) ∧ w' = w := by
  have hd : atB s = Lib.indexByte s.data.toList 64 := rfl
  obtain ⟨R, hR⟩ : ∃ R, R = atB s := ⟨_, rfl⟩
  rw [← hR] at hd ⊢
  have HD := Lib.hid hd
  clear hd hR
  go_enter Tryz.func246, Tryz.ntmps246
  go_wp2_with fail
  go_loopw [6] (fun i wr => ∃ k : Nat, k ≤ s.size ∧ i = .int .i64 k ∧ (∀ (j : Nat), j < k → s.data.toList[j]? ≠ some 64) ∧ wr = w) (fun i _ => s.size - (intOf i).toNat)
  case atStart => exact ⟨0, by omega, rfl, fun j h => by omega, rfl⟩
  case round =>
    obtain ⟨k, hk, rfl, hall, rfl⟩ := hrel
    have HALL := Lib.hid hall
    clear hall
    by_cases hkl : k < s.size
    · have hb := bytes_at hkl
      obtain ⟨c, hc⟩ : ∃ c, c = s[k] := ⟨_, rfl⟩
      rw [← hc] at hb
      have HB := Lib.hid hb
      by_cases g : (c.toNat : Int) = 64
      · have hc64 : c = 64 := by rw [u8_eq]; exact g
        have hfin : R = (k : Int) := by rw [HD.out]; exact indexByte_at (by rw [HB.out, hc64]) HALL.out
        have q1 : ((s[k].toNat : Int) == 64) = true := by rw [← hc, beq_iff_eq]; exact g
        subst hfin
        clear hb hc hc64 g
        go_wp2_with fail
        go_ret
        exact ⟨rfl, rfl⟩
      · have q1 : ((s[k].toNat : Int) == 64) = false := by rw [← hc, beq_eq_false_iff_ne]; exact g
        have hn : ∀ (j : Nat), j < k + 1 → s.data.toList[j]? ≠ some 64 := fun j hj => by
          rcases Nat.lt_or_ge j k with h | h
          · exact HALL.out j h
          · have : j = k := by omega
            subst this
            rw [HB.out]
            intro e
            injection e with e
            exact g (by rw [e]; rfl)
        have HN := Lib.hid hn
        clear hb hc g hn
        go_wp2_with fail
        go_roundw
        case rel => exact ⟨k + 1, by omega, by go_num, HN.out, trivial⟩
        case measure => simp [intOf]; omega
    · obtain rfl : k = s.size := by omega
      have hfin : R = -1 := by rw [HD.out]; exact indexByte_no (by rw [blen]; exact HALL.out)
      subst hfin
      go_wp2_with fail
      go_ret
      exact ⟨rfl, rfl⟩
theorem refStands_walk (c : Int) (h0 : 0 ≤ c) (h1 : c < 256) (w : World) : Calls Tryz.prog 247 #[.int .u8 c] w fun e w' => e = .returned (.bool (standsB c)) ∧ w' = w := by
  go_enter Tryz.func247, Tryz.ntmps247
  go_wp2_with fail
  all_goals go_ret
  all_goals (refine ⟨?_, rfl⟩; first | rfl | (show Ending.returned (Value.bool _) = .returned (.bool _); congr 2; unfold standsB; rw [Bool.eq_iff_iff]; simp only [Bool.or_eq_true, decide_eq_true_eq, beq_iff_eq, true_iff]; omega))
theorem u8_lt (c : UInt8) : 0 ≤ (c.toNat : Int) ∧ (c.toNat : Int) < 256 := by have := c.toNat_lt; omega
theorem refProp_walk (s : ByteArray) (hs : s.size ≤ 1073741824) (w : World) : Calls Tryz.prog 141 #[.string s] w fun e w' => e = .returned (.bool (propB s)) ∧ w' = w := by
  have hd : propB s = (s.data.toList.all (fits [63, 35]) && decide (1 ≤ s.size) && decide (s.size ≤ 31)) := rfl
  obtain ⟨R, hR⟩ : ∃ R, R = propB s := ⟨_, rfl⟩
  rw [← hR] at hd ⊢
  have HD := Lib.hid hd
  clear hd hR
  go_enter Tryz.func141, Tryz.ntmps141
  go_wp2_with fail
  go_loopw [6] (fun i wr => ∃ k : Nat, k ≤ s.size ∧ i = .int .i64 k ∧ (s.data.toList.take k).all (fits [63, 35]) = true ∧ wr = w) (fun i _ => s.size - (intOf i).toNat)
  case atStart => exact ⟨0, by omega, rfl, rfl, rfl⟩
  case round =>
    obtain ⟨k, hk, rfl, hall, rfl⟩ := hrel
    have HALL := Lib.hid hall
    clear hall
    by_cases hkl : k < s.size
    · have hb := bytes_at hkl
      have hu := u8_lt s[k]
      have hst := fun w1 => refStands_walk (s[k].toNat : Int) hu.1 hu.2 w1
      have hf := fits_prop s[k]
      rw [← stands_plain] at hf
      have hnx := fun h => all_next (f := fits [63, 35]) hkl HALL.out h
      obtain ⟨q, hq⟩ : ∃ q, q = standsB (s[k].toNat : Int) := ⟨_, rfl⟩
      simp only [← hq] at hst hf
      clear hq hu
      have HF := Lib.hid hf
      have HB := Lib.hid hb
      have HNX := Lib.hid hnx
      clear hf hb hnx
      cases q
      · by_cases g1 : (s[k].toNat : Int) = 63
        · have q1 : ((s[k].toNat : Int) != 63) = false := by rw [bne_eq_false_iff_eq]; exact g1
          have HN := Lib.hid (HNX.out (by rw [HF.out]; simp [g1]))
          clear g1
          go_wp2_with (first | (go_at_call 247; refine (hst _).mono ?_; clear hst; rintro e w1 ⟨rfl, hw1⟩; replace hw1 := hw1.symm; subst hw1))
          go_roundw
          case rel => exact ⟨k + 1, by omega, by go_num, HN.out, trivial⟩
          case measure => simp [intOf]; omega
        · have q1 : ((s[k].toNat : Int) != 63) = true := by rw [bne_iff_ne]; exact g1
          by_cases g2 : (s[k].toNat : Int) = 35
          · have q2 : ((s[k].toNat : Int) != 35) = false := by rw [bne_eq_false_iff_eq]; exact g2
            have HN := Lib.hid (HNX.out (by rw [HF.out]; simp [g2]))
            clear g1 g2
            go_wp2_with (first | (go_at_call 247; refine (hst _).mono ?_; clear hst; rintro e w1 ⟨rfl, hw1⟩; replace hw1 := hw1.symm; subst hw1))
            go_roundw
            case rel => exact ⟨k + 1, by omega, by go_num, HN.out, trivial⟩
            case measure => simp [intOf]; omega
          · have q2 : ((s[k].toNat : Int) != 35) = true := by rw [bne_iff_ne]; exact g2
            have hff : fits [63, 35] s[k] = false := by rw [HF.out]; simp [g1, g2]
            have hfin : R = false := by
              rw [HD.out]
              have : s.data.toList.all (fits [63, 35]) = false := by
                rw [List.all_eq_false]
                exact ⟨_, List.mem_of_getElem? HB.out, by simp [hff]⟩
              rw [this]; rfl
            subst hfin
            clear g1 g2 hff
            go_wp2_with (first | (go_at_call 247; refine (hst _).mono ?_; clear hst; rintro e w1 ⟨rfl, hw1⟩; replace hw1 := hw1.symm; subst hw1))
            go_ret
            exact ⟨rfl, rfl⟩
      · have HN := Lib.hid (HNX.out (by rw [HF.out]; simp))
        go_wp2_with (first | (go_at_call 247; refine (hst _).mono ?_; clear hst; rintro e w1 ⟨rfl, hw1⟩; replace hw1 := hw1.symm; subst hw1))
        go_roundw
        case rel => exact ⟨k + 1, by omega, by go_num, HN.out, trivial⟩
        case measure => simp [intOf]; omega
    · obtain rfl : k = s.size := by omega
      have hall := HALL.out
      rw [List.take_of_length_le (by rw [blen]; exact Nat.le_refl _)] at hall
      have hfin : R = (decide (1 ≤ s.size) && decide (s.size ≤ 31)) := by rw [HD.out, hall]; simp
      have HFIN := Lib.hid hfin
      clear hfin hall
      go_wp2_with fail
      all_goals go_ret
      all_goals (refine ⟨?_, rfl⟩; show Ending.returned (Value.bool _) = .returned (.bool _); rw [HFIN.out]; congr 2; rw [Bool.eq_iff_iff]; simp; omega)
end Go.Proofs.YtdfknlhfdbbogaaGreatDoor

namespace Go.Proofs.YtdfknlhfdbbogaaGreatDoor
open Go.RowKit
set_option linter.unusedSimpArgs false
set_option linter.unusedVariables false
theorem firstOk (c : Int) : (letter c = true ∨ c = 95) ↔ (c = 95 ∨ (97 ≤ c ∧ c ≤ 122) ∨ (65 ≤ c ∧ c ≤ 90)) := by unfold letter; rw [decide_eq_true_iff]; constructor <;> (rintro (h | h) <;> omega)
theorem headD_at {s : ByteArray} (h : 0 < s.size) : ((s.data.toList.headD 0).toNat : Int) = (s[0].toNat : Int) := first_eq h
set_option maxRecDepth 100000 in
set_option maxHeartbeats 2000000 in
theorem refNode_walk (s : ByteArray) (hs : s.size ≤ 1073741824) (w : World) : Calls Tryz.prog 140 #[.string s] w fun e w' => e = .returned (.bool (nodeB s)) ∧ w' = w := by
  have hcut := fun w1 => refCut_walk s hs w1
  have hd := nodeB_iff s
  rw [firstOk] at hd
  obtain ⟨R, hR⟩ : ∃ R, R = nodeB s := ⟨_, rfl⟩
  rw [← hR] at hd ⊢
  have hge : -1 ≤ atB s := Lib.indexByte_ge _ _
  have hlt : atB s < s.size := by
    by_cases h : 0 ≤ atB s
    · obtain ⟨o, ho⟩ := Int.eq_ofNat_of_zero_le h
      have := (List.getElem?_eq_some_iff.1 (Lib.indexByte_some (show Lib.indexByte s.data.toList 64 = _ from ho)).1).1
      rw [blen] at this; omega
    · omega
  obtain ⟨A, hA⟩ : ∃ A, A = atB s := ⟨_, rfl⟩
  simp only [← hA] at hcut hd hge hlt
  obtain ⟨c0, hc0⟩ : ∃ c0, c0 = ((s.data.toList.headD 0).toNat : Int) := ⟨_, rfl⟩
  simp only [← hc0] at hd
  have HDD := hd
  clear hd hR hA
  by_cases g1 : 0 ≤ A
  · obtain ⟨o, rfl⟩ := Int.eq_ofNat_of_zero_le g1
    by_cases g2 : (s.size : Int) - o - 1 < 1 ∨ 31 < (s.size : Int) - o - 1
    · have hfin : R = false := by rw [Bool.eq_false_iff, Ne, HDD]; rintro ⟨h, _⟩; have := h (by omega); omega
      subst hfin
      clear HDD
      rcases g2 with g2 | g2
      all_goals
        go_enter Tryz.func140, Tryz.ntmps140
        go_wp2_with (first | (go_at_call 246; refine (hcut _).mono ?_; clear hcut; rintro e w1 ⟨rfl, hw1⟩; replace hw1 := hw1.symm; subst hw1))
        all_goals first | (go_ret; exact ⟨rfl, rfl⟩) | (exfalso; omega)
    · have g3 : 1 ≤ (s.size : Int) - o - 1 := by omega
      have g4 : (s.size : Int) - o - 1 ≤ 31 := by omega
      clear g2
      have hol : o ≤ s.size := by omega
      rw [if_neg (by omega)] at HDD
      have hs1 : 0 ≤ (o : Int) → 1 ≤ (s.size : Int) - o - 1 ∧ (s.size : Int) - o - 1 ≤ 31 := fun _ => ⟨g3, g4⟩
      have hbl : ((s.extract 0 o).size : Int) = (o : Int) := by rw [ByteArray.size_extract]; omega
      have hb0 : ∀ h : 0 < (s.extract 0 o).size, ((s.extract 0 o)[0].toNat : Int) = c0 := fun h => by
        rw [ByteArray.size_extract] at h
        have h0 : 0 < s.size := by omega
        rw [hc0, headD_at h0, ByteArray.getElem_extract]
      go_enter Tryz.func140, Tryz.ntmps140
      go_wp2_with (first | (go_at_call 246; refine (hcut _).mono ?_; clear hcut; rintro e w1 ⟨rfl, hw1⟩; replace hw1 := hw1.symm; subst hw1))
      obtain ⟨base, hbl', hb0', hG⟩ : ∃ base : ByteArray, (base.size : Int) = (o : Int) ∧ (∀ h : 0 < base.size, (base[0].toNat : Int) = c0) ∧ s.extract 0 o = base := ⟨_, hbl, hb0, rfl⟩
      rw [hG]
      clear hbl hb0 hG
      have hbl := hbl'
      have hb0 := hb0'
      have HD := Lib.hid HDD
      clear HDD hc0 hbl'
      have HS1 := Lib.hid hs1
      clear hs1
      go_loopw [30] (fun i wr => ∃ k : Nat, k ≤ s.size ∧ i = .int .i64 k ∧ (∀ (j : Nat) (c : UInt8), j < k → s.data.toList[j]? = some c → (j : Int) ≠ (o : Int) → plainB c.toNat = true) ∧ wr = w) (fun i _ => s.size - (intOf i).toNat)
      case atStart => exact ⟨0, by omega, rfl, fun j c h => by omega, rfl⟩
      case round =>
        obtain ⟨k, hk, rfl, hall, rfl⟩ := hrel
        have HALL := Lib.hid hall
        clear hall
        by_cases hkl : k < s.size
        · have hb := bytes_at hkl
          have hu := u8_lt s[k]
          have hst := fun w1 => refStands_walk (s[k].toNat : Int) hu.1 hu.2 w1
          have hsp := stands_plain s[k]
          obtain ⟨q, hq⟩ : ∃ q, q = standsB (s[k].toNat : Int) := ⟨_, rfl⟩
          simp only [← hq] at hst hsp
          have HB := Lib.hid hb
          have HSP := Lib.hid hsp
          clear hq hu hb hsp
          by_cases gk : (k : Int) = (o : Int)
          · have hn : ∀ (j : Nat) (c : UInt8), j < k + 1 → s.data.toList[j]? = some c → (j : Int) ≠ (o : Int) → plainB c.toNat = true := fun j c hj hc hne => HALL.out j c (by rcases Nat.lt_or_ge j k with h | h; exact h; exact absurd (by rw [← gk]; congr 1; omega) hne) hc hne
            have qk : ((k : Int) != (o : Int)) = false := by rw [bne_eq_false_iff_eq]; exact gk
            have HN := Lib.hid hn
            clear gk hn hst
            go_wp2_with fail
            go_roundw
            case rel => exact ⟨k + 1, by omega, by go_num, HN.out, trivial⟩
            case measure => simp [intOf]; omega
          · have qk : ((k : Int) != (o : Int)) = true := by rw [bne_iff_ne]; exact gk
            cases q
            · have hfin : R = false := by
                rw [Bool.eq_false_iff, Ne, HD.out]
                rintro ⟨_, h, _⟩
                have := h k _ HB.out gk
                rw [← HSP.out] at this
                cases this
              subst hfin
              clear gk
              go_wp2_with (first | (go_at_call 247; refine (hst _).mono ?_; clear hst; rintro e w1 ⟨rfl, hw1⟩; replace hw1 := hw1.symm; subst hw1))
              go_ret
              exact ⟨rfl, rfl⟩
            · have hn : ∀ (j : Nat) (c : UInt8), j < k + 1 → s.data.toList[j]? = some c → (j : Int) ≠ (o : Int) → plainB c.toNat = true := fun j c hj hc hne => by
                rcases Nat.lt_or_ge j k with h | h
                · exact HALL.out j c h hc hne
                · have : j = k := by omega
                  subst this
                  rw [HB.out] at hc
                  injection hc with hc
                  rw [← hc, ← HSP.out]
              have HN := Lib.hid hn
              clear gk hn
              go_wp2_with (first | (go_at_call 247; refine (hst _).mono ?_; clear hst; rintro e w1 ⟨rfl, hw1⟩; replace hw1 := hw1.symm; subst hw1))
              go_roundw
              case rel => exact ⟨k + 1, by omega, by go_num, HN.out, trivial⟩
              case measure => simp [intOf]; omega
        · obtain rfl : k = s.size := by omega
          have hR : R = true ↔ ((1 ≤ (base.size : Int) ∧ (base.size : Int) ≤ 31) ∧ (c0 = 95 ∨ (97 ≤ c0 ∧ c0 ≤ 122) ∨ (65 ≤ c0 ∧ c0 ≤ 90))) := by
            rw [HD.out]
            first | rw [hbl] | skip
            exact ⟨fun h => h.2.2, fun h => ⟨HS1.out, fun i c hc hne => HALL.out i c (by have := (List.getElem?_eq_some_iff.1 hc).1; rw [blen] at this; exact this) hc hne, h⟩⟩
          by_cases g8 : 1 ≤ base.size
          · have hb := (hb0 g8).symm
            have g9 : (1 : Int) ≤ (base.size : Int) := by omega
            obtain ⟨b0, hb0'⟩ : ∃ b0, b0 = base[0] := ⟨_, rfl⟩
            have HRR := Lib.hid hR
            have HBB := Lib.hid hb
            clear hR hb hb0'
            go_wp2_with fail
            all_goals go_ret
            all_goals (refine ⟨?_, rfl⟩; show Ending.returned (Value.bool _) = .returned (.bool _); congr 2; rw [Bool.eq_iff_iff, HRR.out]; simp only [Bool.and_eq_true, Bool.or_eq_true, decide_eq_true_eq, beq_iff_eq, Bool.false_eq_true, false_iff, true_iff]; first | omega | (rw [HBB.out]; omega))
          · have hfin : R = false := by rw [Bool.eq_false_iff, Ne, hR]; omega
            have g9 : ¬ (1 : Int) ≤ (base.size : Int) := by omega
            subst hfin
            clear hR
            go_wp2_with fail
            all_goals go_ret
            all_goals exact ⟨rfl, rfl⟩
  · have g2 : A = -1 := by omega
    subst g2
    rw [if_pos (by omega)] at HDD
    have hs1 : 0 ≤ (-1 : Int) → 1 ≤ (s.size : Int) - (-1) - 1 ∧ (s.size : Int) - (-1) - 1 ≤ 31 := fun h => by omega
    have hbl : (s.size : Int) = (s.size : Int) := rfl
    have hb0 : ∀ h : 0 < s.size, (s[0].toNat : Int) = c0 := fun h => by rw [hc0, headD_at h]
    go_enter Tryz.func140, Tryz.ntmps140
    go_wp2_with (first | (go_at_call 246; refine (hcut _).mono ?_; clear hcut; rintro e w1 ⟨rfl, hw1⟩; replace hw1 := hw1.symm; subst hw1))
    have HD := Lib.hid HDD
    clear HDD hc0
    have HS1 := Lib.hid hs1
    clear hs1
    go_loopw [30] (fun i wr => ∃ k : Nat, k ≤ s.size ∧ i = .int .i64 k ∧ (∀ (j : Nat) (c : UInt8), j < k → s.data.toList[j]? = some c → (j : Int) ≠ (-1 : Int) → plainB c.toNat = true) ∧ wr = w) (fun i _ => s.size - (intOf i).toNat)
    case atStart => exact ⟨0, by omega, rfl, fun j c h => by omega, rfl⟩
    case round =>
      obtain ⟨k, hk, rfl, hall, rfl⟩ := hrel
      have HALL := Lib.hid hall
      clear hall
      by_cases hkl : k < s.size
      · have hb := bytes_at hkl
        have hu := u8_lt s[k]
        have hst := fun w1 => refStands_walk (s[k].toNat : Int) hu.1 hu.2 w1
        have hsp := stands_plain s[k]
        obtain ⟨q, hq⟩ : ∃ q, q = standsB (s[k].toNat : Int) := ⟨_, rfl⟩
        simp only [← hq] at hst hsp
        have HB := Lib.hid hb
        have HSP := Lib.hid hsp
        clear hq hu hb hsp
        by_cases gk : (k : Int) = (-1 : Int)
        · have hn : ∀ (j : Nat) (c : UInt8), j < k + 1 → s.data.toList[j]? = some c → (j : Int) ≠ (-1 : Int) → plainB c.toNat = true := fun j c hj hc hne => HALL.out j c (by rcases Nat.lt_or_ge j k with h | h; exact h; exact absurd (by rw [← gk]; congr 1; omega) hne) hc hne
          have qk : ((k : Int) != (-1 : Int)) = false := by rw [bne_eq_false_iff_eq]; exact gk
          have HN := Lib.hid hn
          clear gk hn hst
          go_wp2_with fail
          go_roundw
          case rel => exact ⟨k + 1, by omega, by go_num, HN.out, trivial⟩
          case measure => simp [intOf]; omega
        · have qk : ((k : Int) != (-1 : Int)) = true := by rw [bne_iff_ne]; exact gk
          cases q
          · have hfin : R = false := by
              rw [Bool.eq_false_iff, Ne, HD.out]
              rintro ⟨_, h, _⟩
              have := h k _ HB.out gk
              rw [← HSP.out] at this
              cases this
            subst hfin
            clear gk
            go_wp2_with (first | (go_at_call 247; refine (hst _).mono ?_; clear hst; rintro e w1 ⟨rfl, hw1⟩; replace hw1 := hw1.symm; subst hw1))
            go_ret
            exact ⟨rfl, rfl⟩
          · have hn : ∀ (j : Nat) (c : UInt8), j < k + 1 → s.data.toList[j]? = some c → (j : Int) ≠ (-1 : Int) → plainB c.toNat = true := fun j c hj hc hne => by
              rcases Nat.lt_or_ge j k with h | h
              · exact HALL.out j c h hc hne
              · have : j = k := by omega
                subst this
                rw [HB.out] at hc
                injection hc with hc
                rw [← hc, ← HSP.out]
            have HN := Lib.hid hn
            clear gk hn
            go_wp2_with (first | (go_at_call 247; refine (hst _).mono ?_; clear hst; rintro e w1 ⟨rfl, hw1⟩; replace hw1 := hw1.symm; subst hw1))
            go_roundw
            case rel => exact ⟨k + 1, by omega, by go_num, HN.out, trivial⟩
            case measure => simp [intOf]; omega
      · obtain rfl : k = s.size := by omega
        have hR : R = true ↔ ((1 ≤ (s.size : Int) ∧ (s.size : Int) ≤ 31) ∧ (c0 = 95 ∨ (97 ≤ c0 ∧ c0 ≤ 122) ∨ (65 ≤ c0 ∧ c0 ≤ 90))) := by
          rw [HD.out]
          first | rw [hbl] | skip
          exact ⟨fun h => h.2.2, fun h => ⟨HS1.out, fun i c hc hne => HALL.out i c (by have := (List.getElem?_eq_some_iff.1 hc).1; rw [blen] at this; exact this) hc hne, h⟩⟩
        by_cases g8 : 1 ≤ s.size
        · have hb := (hb0 g8).symm
          have g9 : (1 : Int) ≤ (s.size : Int) := by omega
          obtain ⟨b0, hb0'⟩ : ∃ b0, b0 = s[0] := ⟨_, rfl⟩
          have HRR := Lib.hid hR
          have HBB := Lib.hid hb
          clear hR hb hb0'
          go_wp2_with fail
          all_goals go_ret
          all_goals (refine ⟨?_, rfl⟩; show Ending.returned (Value.bool _) = .returned (.bool _); congr 2; rw [Bool.eq_iff_iff, HRR.out]; simp only [Bool.and_eq_true, Bool.or_eq_true, decide_eq_true_eq, beq_iff_eq, Bool.false_eq_true, false_iff, true_iff]; first | omega | (rw [HBB.out]; omega))
        · have hfin : R = false := by rw [Bool.eq_false_iff, Ne, hR]; omega
          have g9 : ¬ (1 : Int) ≤ (s.size : Int) := by omega
          subst hfin
          clear hR
          go_wp2_with fail
          all_goals go_ret
          all_goals exact ⟨rfl, rfl⟩
end Go.Proofs.YtdfknlhfdbbogaaGreatDoor

namespace Go.Proofs.YtdfknlhfdbbogaaGreatDoor
open Go.RowKit
set_option linter.unusedSimpArgs false
set_option linter.unusedVariables false
set_option maxRecDepth 100000 in
theorem refCount_walk (n : Nd) : n.size ≤ 1073741824 → ∀ (w : World) (ok : Nat → Prop) (v : Value), NdV w ok v n →
    Calls Tryz.prog 61 #[v] w fun e w' => e = .returned (.tuple #[.int .i64 n.nodes, .int .i64 n.nprops]) ∧ Below w.heap.size w w' := by
  induction n using Nd.ind with
  | h n ih =>
    intro hsz w ok v hv
    obtain ⟨A2, c2, A, c, rfl, hc2, hl2, ha2, hc, hl, ha⟩ := hv.form
    go_enter Tryz.func61, Tryz.ntmps61
    go_wp2_with fail
    go_quiet (fail)
    go_wp2_with fail
    go_loopw [4, 5, 15] (fun a b i wr => ∃ k : Nat, k ≤ n.kids.length ∧ i = .int .i64 k ∧ a = .int .i64 ((1 + Nd.nodesL (n.kids.take k) : Nat) : Int) ∧ b = .int .i64 ((n.props.length + Nd.npropsL (n.kids.take k) : Nat) : Int) ∧ wr.heap[w.heap.size]? = some (.cells #[.string n.name, .slice A2 n.props.length c2, .slice A n.kids.length c] 32 (0, 0)) ∧ Below w.heap.size w wr) (fun _ _ i _ => n.kids.length - (intOf i).toNat)
    case atStart => exact ⟨0, by omega, rfl, by simp [Nd.nodesL], by simp [Nd.npropsL], (by repeat (first | assumption | exact blast _ _ _ (by simp) | with_reducible refine bblock_alloc ?_ _)), (by repeat (first | assumption | exact Below.refl _ _ | with_reducible refine bset ?_ (by simp) _ | with_reducible refine balloc ?_ _ | with_reducible refine bdrew ?_ | with_reducible refine bdrewN ?_ _ | with_reducible refine bstep ?_ (by assumption)))⟩
    case round =>
      obtain ⟨k, hk, rfl, rfl, rfl, hbox, hb⟩ := hrel
      have n2 := bcellAt (v := .slice A n.kids.length c) hbox 2 rfl
      have lb := blockLt hbox
      by_cases hkl : k < n.kids.length
      · have hx : n.kids[k]? = some n.kids[k] := List.getElem?_eq_getElem hkl
        obtain ⟨b, off, A3, c3, A4, c4, rfl, hob, hlb, hc0, hc1, hc2, hnv⟩ := (ha.below hb).node_at hx
        have hks := Nd.kid_size (List.getElem_mem hkl)
        have e1 := Nd.take_snoc hx
        have n1 : Nd.nodesL (n.kids.take k) + n.kids[k].nodes = Nd.nodesL (n.kids.take (k + 1)) := by rw [e1, Nd.nodesL_append]; simp [Nd.nodesL]
        have n2' : Nd.npropsL (n.kids.take k) + n.kids[k].nprops = Nd.npropsL (n.kids.take (k + 1)) := by rw [e1, Nd.npropsL_append]; simp [Nd.npropsL]
        have b1 := Nd.nodes_le n.kids[k]
        have b2 := Nd.nprops_le n.kids[k]
        have b3 : Nd.nodesL (n.kids.take k) ≤ Nd.nodesL n.kids := by rw [← List.take_append_drop k n.kids, Nd.nodesL_append]; simp
        have b4 : Nd.npropsL (n.kids.take k) ≤ Nd.npropsL n.kids := by rw [← List.take_append_drop k n.kids, Nd.npropsL_append]; simp
        have b5 := Nd.nodes_le n
        have b6 := Nd.nprops_le n
        rw [Nd.nodes_eq] at b5
        rw [Nd.nprops_eq] at b6
        have hk0 : (0 : Int) ≤ (k : Int) := by omega
        have hk1 : (k : Int) < (n.kids.length : Int) := by omega
        clear e1
        go_wp2_with (first | (go_at_call 61; refine (ih _ (List.getElem_mem hkl) (by omega) _ ok _ (NdV.below hnv (by repeat (first | assumption | exact Below.refl _ _ | with_reducible refine bset ?_ (by simp) _ | with_reducible refine balloc ?_ _ | with_reducible refine bdrew ?_ | with_reducible refine bdrewN ?_ _ | with_reducible refine bstep ?_ (by assumption))))).mono ?_; rintro e w1 ⟨rfl, hb1⟩))
        go_roundw
        case rel => exact ⟨k + 1, by omega, by go_num, by go_num, by go_num, bblock hbox hb1, (by repeat (first | assumption | exact Below.refl _ _ | with_reducible refine bset ?_ (by simp) _ | with_reducible refine balloc ?_ _ | with_reducible refine bdrew ?_ | with_reducible refine bdrewN ?_ _ | with_reducible refine bstep ?_ (by assumption)))⟩
        case measure => simp [intOf]; omega
      · go_wp2_with fail
        go_ret2
        obtain rfl : k = n.kids.length := by omega
        rw [List.take_length, Nd.nodes_eq n, Nd.nprops_eq n]
        exact ⟨rfl, hb⟩
set_option maxRecDepth 100000 in
set_option maxHeartbeats 1000000 in
theorem lawSize_walk (n : Nd) : n.size ≤ 1073741824 → ∀ (d : Nat), d ≤ 22 → ∀ (w : World) (ok : Nat → Prop) (v : Value), NdV w ok v n →
    Calls Tryz.prog 59 #[v, .int .i64 d] w fun e w' => ∃ z, e = .returned (.int .i64 z) ∧ Below w.heap.size w w' := by
  induction n using Nd.ind with
  | h n ih =>
    intro hsz d hd w ok v hv
    obtain ⟨A2, c2, A, c, rfl, hc2, hl2, ha2, hc, hl, ha⟩ := hv.form
    go_enter Tryz.func59, Tryz.ntmps59
    go_wp2_with fail
    go_loopw [5, 15] (fun a i wr => ∃ (z : Int) (k : Nat), k ≤ n.props.length ∧ i = .int .i64 k ∧ a = .int .i64 z ∧ wr.heap[w.heap.size]? = some (.cells #[.string n.name, .slice A2 n.props.length c2, .slice A n.kids.length c] 32 (0, 0)) ∧ Below w.heap.size w wr) (fun _ i _ => n.props.length - (intOf i).toNat)
    case atStart => exact ⟨_, 0, by omega, rfl, rfl, (by repeat (first | assumption | exact blast _ _ _ (by simp) | with_reducible refine bblock_alloc ?_ _)), (by repeat (first | assumption | exact Below.refl _ _ | with_reducible refine bset ?_ (by simp) _ | with_reducible refine balloc ?_ _ | with_reducible refine bdrew ?_ | with_reducible refine bdrewN ?_ _ | with_reducible refine bstep ?_ (by assumption)))⟩
    case round =>
      obtain ⟨z, k, hk, rfl, rfl, hbox, hb⟩ := hrel
      have n1 := bcellAt (v := .slice A2 n.props.length c2) hbox 1 rfl
      have n2 := bcellAt (v := .slice A n.kids.length c) hbox 2 rfl
      have lb := blockLt hbox
      by_cases hkl : k < n.props.length
      · have hx : n.props[k]? = some n.props[k] := List.getElem?_eq_getElem hkl
        obtain ⟨b, off, A3, c3, rfl, hob, hlb2, hc0, hc1, hc3, hl3, ha3⟩ := (ha2.below hb).prop_at hx
        have hk0 : (0 : Int) ≤ (k : Int) := by omega
        have hk1 : (k : Int) < (n.props.length : Int) := by omega
        go_wp2_with fail
        go_quiet (fail)
        go_wp2_with fail
        go_roundw
        case rel => exact ⟨_, k + 1, by omega, by go_num, rfl, hbox, bdrewN hb _⟩
        case measure => simp [intOf]; omega
      · obtain rfl : k = n.props.length := by omega
        go_wp2_with fail
        go_loopw [5, 40] (fun a i wr => ∃ (z : Int) (k : Nat), k ≤ n.kids.length ∧ i = .int .i64 k ∧ a = .int .i64 z ∧ wr.heap[w.heap.size]? = some (.cells #[.string n.name, .slice A2 n.props.length c2, .slice A n.kids.length c] 32 (0, 0)) ∧ Below w.heap.size w wr) (fun _ i _ => n.kids.length - (intOf i).toNat)
        case atStart => exact ⟨_, 0, by omega, rfl, rfl, hbox, hb⟩
        case round =>
          clear hbox n1 n2 lb hb
          obtain ⟨z, k, hk, rfl, rfl, hbox, hb⟩ := hrel
          have n2 := bcellAt (v := .slice A n.kids.length c) hbox 2 rfl
          have lb := blockLt hbox
          by_cases hkl : k < n.kids.length
          · have hx : n.kids[k]? = some n.kids[k] := List.getElem?_eq_getElem hkl
            obtain ⟨b, off, A3, c3, A4, c4, rfl, hob, hlb, hc0, hc1, hc2, hnv⟩ := (ha.below hb).node_at hx
            have hks := Nd.kid_size (List.getElem_mem hkl)
            have hk0 : (0 : Int) ≤ (k : Int) := by omega
            have hk1 : (k : Int) < (n.kids.length : Int) := by omega
            by_cases gd : 20 < d
            · have gd1 : (20 : Int) < (d : Int) := by omega
              go_wp2_with fail
              go_ret
              exact ⟨_, rfl, hb⟩
            · have gd1 : (d : Int) ≤ 20 := by omega
              go_wp2_with (first | (go_at_call 59; refine (ih _ (List.getElem_mem hkl) (by omega) (d + 1) (by omega) _ ok _ (NdV.below hnv (by repeat (first | assumption | exact Below.refl _ _ | with_reducible refine bset ?_ (by simp) _ | with_reducible refine balloc ?_ _ | with_reducible refine bdrew ?_ | with_reducible refine bdrewN ?_ _ | with_reducible refine bstep ?_ (by assumption))))).mono ?_; rintro e w1 ⟨z1, rfl, hb1⟩))
              · go_ret
                exact ⟨_, rfl, hb⟩
              · go_roundw
                case rel => exact ⟨_, k + 1, by omega, by go_num, rfl, bblock hbox hb1, bstep hb hb1⟩
                case measure => simp [intOf]; omega
          · go_wp2_with fail
            go_ret
            exact ⟨_, rfl, hb⟩
theorem lawFew_walk (t : Tr) (hsz : t.root.size ≤ 1073741824) (w : World) (ok : Nat → Prop) (v : Value) (hv : TrV w ok v t) :
    Calls Tryz.prog 15 #[v] w fun e w' => ∃ z, e = .returned (.bool z) ∧ Below w.heap.size w w' := by
  obtain ⟨vr, vp, vk, rfl, h0, h00, h1, h2, h3⟩ := hv
  have hn := TrV.root (t := t) h2 h3
  obtain ⟨A1, c1, rfl, hc1, hl1, ha1⟩ := h1
  obtain ⟨A2, c2, rfl, hc2, hl2, ha2⟩ := h2
  obtain ⟨A3, c3, rfl, hc3, hl3, ha3⟩ := h3
  go_enter Tryz.func15, Tryz.ntmps15
  go_wp2_with (first
    | (go_at_call 59; refine (lawSize_walk t.root hsz 0 (by decide) _ ok _ (hn.below (by repeat (first | assumption | exact Below.refl _ _ | with_reducible refine bset ?_ (by simp) _ | with_reducible refine balloc ?_ _ | with_reducible refine bdrew ?_ | with_reducible refine bdrewN ?_ _ | with_reducible refine bstep ?_ (by assumption))))).mono ?_; rintro e w1 ⟨z, rfl, hb1⟩; have hbox := bblock (blast w _ _ rfl) hb1; have d1 := bcellAt (v := .slice A1 t.res.length c1) hbox 1 rfl; have lb := blockLt hbox))
  all_goals go_ret
  all_goals first | exact ⟨_, rfl, (by repeat (first | assumption | exact Below.refl _ _ | with_reducible refine bset ?_ (by simp) _ | with_reducible refine balloc ?_ _ | with_reducible refine bdrew ?_ | with_reducible refine bdrewN ?_ _ | with_reducible refine bstep ?_ (by assumption)))⟩ | exact ⟨.inl rfl, (by repeat (first | assumption | exact Below.refl _ _ | with_reducible refine bset ?_ (by simp) _ | with_reducible refine balloc ?_ _ | with_reducible refine bdrew ?_ | with_reducible refine bdrewN ?_ _ | with_reducible refine bstep ?_ (by assumption)))⟩ | exact ⟨.inr rfl, (by repeat (first | assumption | exact Below.refl _ _ | with_reducible refine bset ?_ (by simp) _ | with_reducible refine balloc ?_ _ | with_reducible refine bdrew ?_ | with_reducible refine bdrewN ?_ _ | with_reducible refine bstep ?_ (by assumption)))⟩
end Go.Proofs.YtdfknlhfdbbogaaGreatDoor

namespace Go.Proofs.YtdfknlhfdbbogaaGreatDoor
open Go.RowKit
set_option linter.unusedSimpArgs false
set_option linter.unusedVariables false
abbrev headA (d : Nat) (n : Nd) : Prop := ((d : Int) = 1 ∧ n.name.toList.isEmpty = false) ∨ (1 < (d : Int) ∧ nodeB n.name = false)
theorem headE_eq (d : Nat) (n : Nd) : headE d n = if (16 : Int) < d then 6 else if headA d n then 5 else if (n.props.map (·.1)).any (fun s => !propB s) then 5 else if twiceB (n.props.map (·.1)) = true ∨ twiceB (n.kids.map (·.name)) = true then 9 else 0 := rfl
theorem nodup_next {α : Type} {l : List α} {k : Nat} {x : α} (hx : l[k]? = some x) (h : (l.take k).Nodup) (hn : x ∉ l.take k) : (l.take (k + 1)).Nodup := by
  rw [Nd.take_snoc hx, List.nodup_append]
  refine ⟨h, by simp, fun a ha b hb => ?_⟩
  rw [List.mem_singleton.1 hb]
  exact fun e => hn (e ▸ ha)
theorem nodup_not {α : Type} {l : List α} {k j : Nat} {x : α} (hx : l[k]? = some x) (hj : l[j]? = some x) (hjk : j < k) : ¬ l.Nodup := fun h => by
  have h1 := (List.getElem?_eq_some_iff.1 hx).1
  have h2 := (List.getElem?_eq_some_iff.1 hj).1
  have e1 := (List.getElem?_eq_some_iff.1 hx).2
  have e2 := (List.getElem?_eq_some_iff.1 hj).2
  exact (List.pairwise_iff_getElem.1 h) j k h2 h1 hjk (by rw [e2, e1])
theorem take_not {α : Type} {l : List α} {k : Nat} {x : α} (h : ∀ (j : Nat) y, j < k → l[j]? = some y → y ≠ x) : x ∉ l.take k := fun hm => by
  obtain ⟨j, hj⟩ := List.getElem?_of_mem hm
  rw [List.getElem?_take] at hj
  split at hj
  · rename_i hjk
    exact h j x hjk hj rfl
  · cases hj
theorem twiceB_true {l : List ByteArray} (h : ¬ l.Nodup) : twiceB l = true := decide_eq_true h
theorem twiceB_false {l : List ByteArray} (h : l.Nodup) : twiceB l = false := decide_eq_false fun g => g h
theorem seq_ne {a b : ByteArray} (h : a ≠ b) : (a.toList == b.toList) = false := Bool.eq_false_iff.2 fun e => h (seq_true e)
theorem seq_eq {a b : ByteArray} (h : a = b) : (a.toList == b.toList) = true := by rw [h]; exact beq_self_eq_true _
set_option maxRecDepth 100000 in
set_option maxHeartbeats 4000000 in
theorem refWrong_walk (n : Nd) : n.size ≤ 1073741824 → ∀ (d : Nat), 1 ≤ d → d ≤ 17 → ∀ (w : World) (ok : Nat → Prop) (v : Value), NdV w ok v n →
    Calls Tryz.prog 60 #[v, .int .i64 d] w fun e w' => e = .returned (.int .i64 (checkN d n)) ∧ Below w.heap.size w w' := by
  induction n using Nd.ind with
  | h n ih =>
    intro hsz d hd1 hd2 w ok v hv
    obtain ⟨A2, c2, A, c, rfl, hc2, hl2, ha2, hc, hl, ha⟩ := hv.form
    have hps := props_small hsz
    have hz1 := Nd.size_eq n
    have hd := checkN_eq d n
    have hh := headE_eq d n
    obtain ⟨E, hE⟩ : ∃ E, E = checkN d n := ⟨_, rfl⟩
    rw [← hE] at hd ⊢
    clear hE
    by_cases g1 : 16 < d
    · rw [if_pos (by omega)] at hh
      have hfin : E = 6 := by rw [hd, if_pos (by rw [hh]; decide), hh]
      have g2 : (16 : Int) < (d : Int) := by omega
      subst hfin
      clear hh hd ih
      go_enter Tryz.func60, Tryz.ntmps60
      go_wp2_with fail
      go_ret
      exact ⟨rfl, (by repeat (first | assumption | exact Below.refl _ _ | with_reducible refine bset ?_ (by simp) _ | with_reducible refine balloc ?_ _ | with_reducible refine bdrew ?_ | with_reducible refine bdrewN ?_ _ | with_reducible refine bstep ?_ (by assumption)))⟩
    · rw [if_neg (by omega)] at hh
      have g2 : (d : Int) ≤ 16 := by omega
      have hnode := fun w1 => refNode_walk n.name (by omega) w1
      obtain ⟨nb, hnb⟩ : ∃ nb, nb = nodeB n.name := ⟨_, rfl⟩
      simp only [← hnb] at hnode
      by_cases gA : headA d n
      · rw [if_pos gA] at hh
        have hfin : E = 5 := by rw [hd, if_pos (by rw [hh]; decide), hh]
        subst hfin
        clear hh hd ih
        rcases gA with ⟨h1, h2⟩ | ⟨h1, h2⟩
        · obtain rfl : d = 1 := by omega
          clear h1 hnode
          go_enter Tryz.func60, Tryz.ntmps60
          go_wp2_with fail
          go_ret
          exact ⟨rfl, (by repeat (first | assumption | exact Below.refl _ _ | with_reducible refine bset ?_ (by simp) _ | with_reducible refine balloc ?_ _ | with_reducible refine bdrew ?_ | with_reducible refine bdrewN ?_ _ | with_reducible refine bstep ?_ (by assumption)))⟩
        · obtain rfl : nb = false := by rw [hnb, h2]
          have h3 : ((d : Int) == 1) = false := by rw [beq_eq_false_iff_ne]; omega
          clear h2 hnb
          go_enter Tryz.func60, Tryz.ntmps60
          go_wp2_with (first | (go_at_call 140; refine (hnode _).mono ?_; clear hnode; rintro e w1 ⟨rfl, hw1⟩; replace hw1 := hw1.symm; subst hw1))
          go_ret
          exact ⟨rfl, (by repeat (first | assumption | exact Below.refl _ _ | with_reducible refine bset ?_ (by simp) _ | with_reducible refine balloc ?_ _ | with_reducible refine bdrew ?_ | with_reducible refine bdrewN ?_ _ | with_reducible refine bstep ?_ (by assumption)))⟩
      · rw [if_neg gA] at hh
        have hgo : (d = 1 ∧ n.name.toList.isEmpty = true) ∨ (1 < d ∧ nb = true) := by
          rcases Nat.lt_or_ge 1 d with h | h
          · right
            refine ⟨h, ?_⟩
            cases hnb2 : nb
            · exact absurd (.inr ⟨by omega, by rw [← hnb, hnb2]⟩) gA
            · rfl
          · left
            refine ⟨by omega, ?_⟩
            cases he : n.name.toList.isEmpty
            · exact absurd (.inl ⟨by omega, he⟩) gA
            · rfl
        have h5 : (n.props.map (·.1)).any (fun s => !propB s) = true → E = 5 := fun h => by rw [hd]; rw [if_pos h] at hh; rw [hh]; rfl
        have h9 : (n.props.map (·.1)).any (fun s => !propB s) = false → (twiceB (n.props.map (·.1)) = true ∨ twiceB (n.kids.map (·.name)) = true) → E = 9 := fun h h' => by rw [hd]; rw [if_neg (by simp [h]), if_pos h'] at hh; rw [hh]; rfl
        have h0' : (n.props.map (·.1)).any (fun s => !propB s) = false → ¬ (twiceB (n.props.map (·.1)) = true ∨ twiceB (n.kids.map (·.name)) = true) → E = checkL (d + 1) n.kids := fun h h' => by rw [hd]; rw [if_neg (by simp [h]), if_neg h'] at hh; rw [if_neg (by simp [hh])]
        clear gA hh hd hnb
        go_enter Tryz.func60, Tryz.ntmps60
        go_upto_region 3 with fail
        go_cut [1, 30] (fun dv v wx => dv = .int .i64 (d : Int) ∧ v = .bool false ∧ wx.heap[w.heap.size]? = some (.cells #[.string n.name, .slice A2 n.props.length c2, .slice A n.kids.length c] 32 (0, 0)) ∧ Below w.heap.size w wx)
        case first =>
          rcases hgo with ⟨h1, h2⟩ | ⟨h1, h2⟩
          · have h1' : ((d : Int) == 1) = true := by rw [beq_iff_eq]; omega
            have h2' : n.name.toList = [] := List.isEmpty_iff.1 h2
            go_wp2_with fail
            go_meet
            exact ⟨by show Value.int _ _ = Value.int _ (d : Int); rw [show (d : Int) = 1 by omega], rfl, (by repeat (first | assumption | exact blast _ _ _ (by simp) | with_reducible refine bblock_alloc ?_ _)), (by repeat (first | assumption | exact Below.refl _ _ | with_reducible refine bset ?_ (by simp) _ | with_reducible refine balloc ?_ _ | with_reducible refine bdrew ?_ | with_reducible refine bdrewN ?_ _ | with_reducible refine bstep ?_ (by assumption)))⟩
          · have h1' : ((d : Int) == 1) = false := by rw [beq_eq_false_iff_ne]; omega
            have h1'' : (1 : Int) < (d : Int) := by omega
            subst h2
            go_wp2_with (first | (go_at_call 140; refine (hnode _).mono ?_; clear hnode; rintro e w1 ⟨rfl, hw1⟩; replace hw1 := hw1.symm; subst hw1))
            go_meet
            exact ⟨rfl, rfl, (by repeat (first | assumption | exact blast _ _ _ (by simp) | with_reducible refine bblock_alloc ?_ _)), (by repeat (first | assumption | exact Below.refl _ _ | with_reducible refine bset ?_ (by simp) _ | with_reducible refine balloc ?_ _ | with_reducible refine bdrew ?_ | with_reducible refine bdrewN ?_ _ | with_reducible refine bstep ?_ (by assumption)))⟩
        case rest =>
          obtain ⟨rfl, rfl, hbox, hb⟩ := hcut
          clear hnode hgo
          have n1 := bcellAt (v := .slice A2 n.props.length c2) hbox 1 rfl
          have n2 := bcellAt (v := .slice A n.kids.length c) hbox 2 rfl
          have lb := blockLt hbox
          go_wp2_with fail
          go_loopw [34] (fun i wr => ∃ k : Nat, k ≤ n.props.length ∧ i = .int .i64 k ∧ ((n.props.map (·.1)).take k).any (fun s => !propB s) = false ∧ wr.heap[w.heap.size]? = some (.cells #[.string n.name, .slice A2 n.props.length c2, .slice A n.kids.length c] 32 (0, 0)) ∧ Below w.heap.size w wr) (fun i _ => n.props.length - (intOf i).toNat)
          case atStart => exact ⟨0, by omega, rfl, by simp, hbox, hb⟩
          case round =>
            clear hbox hb n1 n2 lb
            obtain ⟨k, hk, rfl, hall, hbox, hb⟩ := hrel
            have n1 := bcellAt (v := .slice A2 n.props.length c2) hbox 1 rfl
            have n2 := bcellAt (v := .slice A n.kids.length c) hbox 2 rfl
            have lb := blockLt hbox
            have HALL := Lib.hid hall
            clear hall
            by_cases hkl : k < n.props.length
            · have hx : n.props[k]? = some n.props[k] := List.getElem?_eq_getElem hkl
              obtain ⟨p, hp⟩ : ∃ p, p = n.props[k] := ⟨_, rfl⟩
              rw [← hp] at hx
              have hm : (n.props.map (·.1))[k]? = some p.1 := by rw [List.getElem?_map, hx]; rfl
              have hps1 := hps p.1 (List.mem_of_getElem? hm)
              have HM := Lib.hid hm
              obtain ⟨b0, off0, E0, e0, rfl, hob0, hlb0, s00, s01, hcc0, hll0, haa0⟩ := (ha2.below hb).prop_at hx
              have hk0 : (0 : Int) ≤ (k : Int) := by omega
              have hk1 : (k : Int) < (n.props.length : Int) := by omega
              have hpr := fun w1 => refProp_walk p.1 (by omega) w1
              obtain ⟨q, hq⟩ : ∃ q, q = propB p.1 := ⟨_, rfl⟩
              simp only [← hq] at hpr
              have HQ := Lib.hid hq
              clear hx hp hm hq
              cases q
              · have hfin : E = 5 := h5 (any_hit HM.out (by rw [← HQ.out]; rfl))
                subst hfin
                go_wp2_with (first | (go_at_call 141; refine (hpr _).mono ?_; clear hpr; rintro e w1 ⟨rfl, hw1⟩; replace hw1 := hw1.symm; subst hw1))
                go_ret
                exact ⟨rfl, hb⟩
              · have HN := Lib.hid (any_next HM.out HALL.out (by rw [← HQ.out]; rfl))
                go_wp2_with (first | (go_at_call 141; refine (hpr _).mono ?_; clear hpr; rintro e w1 ⟨rfl, hw1⟩; replace hw1 := hw1.symm; subst hw1))
                go_roundw
                case rel => exact ⟨k + 1, by omega, by go_num, HN.out, hbox, hb⟩
                case measure => simp [intOf]; omega
            · obtain rfl : k = n.props.length := by omega
              have hok : (n.props.map (·.1)).any (fun s => !propB s) = false := by have := HALL.out; rwa [List.take_of_length_le (by simp)] at this
              have hnine := h9 hok
              have h0 := h0' hok
              clear h5 h9 h0' hok
              go_wp2_with fail
              go_loopw [49] (fun i wr => ∃ k : Nat, k ≤ n.props.length ∧ i = .int .i64 k ∧ ((n.props.map (·.1)).take k).Nodup ∧ wr.heap[w.heap.size]? = some (.cells #[.string n.name, .slice A2 n.props.length c2, .slice A n.kids.length c] 32 (0, 0)) ∧ Below w.heap.size w wr) (fun i _ => n.props.length - (intOf i).toNat)
              case atStart => exact ⟨0, by omega, rfl, by simp, hbox, hb⟩
              case round =>
                clear hbox hb n1 n2 lb
                obtain ⟨k, hk, rfl, hnd, hbox, hb⟩ := hrel
                have n1 := bcellAt (v := .slice A2 n.props.length c2) hbox 1 rfl
                have n2 := bcellAt (v := .slice A n.kids.length c) hbox 2 rfl
                have lb := blockLt hbox
                have HND := Lib.hid hnd
                clear hnd
                by_cases hkl : k < n.props.length
                · have hx : n.props[k]? = some n.props[k] := List.getElem?_eq_getElem hkl
                  obtain ⟨p, hp⟩ : ∃ p, p = n.props[k] := ⟨_, rfl⟩
                  rw [← hp] at hx
                  have HX := Lib.hid (show (n.props.map (·.1))[k]? = some p.1 by rw [List.getElem?_map, hx]; rfl)
                  obtain ⟨b0, off0, E0, e0, rfl, hob0, hlb0, s00, s01, hcc0, hll0, haa0⟩ := (ha2.below hb).prop_at hx
                  have hk0 : (0 : Int) ≤ (k : Int) := by omega
                  have hk1 : (k : Int) < (n.props.length : Int) := by omega
                  clear hx hp
                  go_wp2_with fail
                  go_loopw [53] (fun i wr => ∃ j : Nat, j ≤ k ∧ i = .int .i64 j ∧ (∀ (i : Nat) y, i < j → (n.props.map (·.1))[i]? = some y → y ≠ p.1) ∧ wr.heap[w.heap.size]? = some (.cells #[.string n.name, .slice (some ⟨b0, off0, none⟩) n.props.length c2, .slice A n.kids.length c] 32 (0, 0)) ∧ Below w.heap.size w wr) (fun i _ => k - (intOf i).toNat)
                  case atStart => exact ⟨0, by omega, rfl, fun i y h => by omega, hbox, hb⟩
                  case round =>
                    clear hbox hb n1 n2 lb s00 s01
                    obtain ⟨j, hj, rfl, hal, hbox, hb⟩ := hrel
                    have n1 := bcellAt (v := .slice (some ⟨b0, off0, none⟩) n.props.length c2) hbox 1 rfl
                    have n2 := bcellAt (v := .slice A n.kids.length c) hbox 2 rfl
                    have lb := blockLt hbox
                    have HAL := Lib.hid hal
                    clear hal
                    by_cases hjk : j < k
                    · have hjl : j < n.props.length := by omega
                      have hy : n.props[j]? = some n.props[j] := List.getElem?_eq_getElem hjl
                      obtain ⟨q, hq⟩ : ∃ q, q = n.props[j] := ⟨_, rfl⟩
                      rw [← hq] at hy
                      have HY := Lib.hid (show (n.props.map (·.1))[j]? = some q.1 by rw [List.getElem?_map, hy]; rfl)
                      have hx : n.props[k]? = some n.props[k] := List.getElem?_eq_getElem hkl
                      have hpk : n.props[k].1 = p.1 := by have := HX.out; rw [List.getElem?_map, hx] at this; injection this
                      obtain ⟨b1, off1, E1, e1, he1, hob1, hlb1, s10, s11, hcc1, hll1, haa1⟩ := (ha2.below hb).prop_at hy
                      cases he1
                      obtain ⟨b2, off2, E2, e2, he2, hob2, hlb2, s20, s21, hcc2, hll2, haa2⟩ := (ha2.below hb).prop_at hx
                      cases he2
                      rw [hpk] at s20
                      have hj0 : (0 : Int) ≤ (j : Int) := by omega
                      have hj1 : (j : Int) < (n.props.length : Int) := by omega
                      clear hx hq hy hpk
                      by_cases ge : q.1 = p.1
                      · have qe := seq_eq ge
                        have hfin : E = 9 := hnine (by exact .inl (twiceB_true (nodup_not HX.out (by rw [HY.out, ge]) hjk)))
                        subst hfin
                        clear ge
                        go_wp2_with fail
                        go_quiet (fail)
                        go_wp2_with fail
                        go_ret
                        exact ⟨rfl, bdrewN hb _⟩
                      · have qe := seq_ne ge
                        have hn : ∀ (i : Nat) y, i < j + 1 → (n.props.map (·.1))[i]? = some y → y ≠ p.1 := fun i y hi hiy => by
                          rcases Nat.lt_or_ge i j with h | h
                          · exact HAL.out i y h hiy
                          · have : i = j := by omega
                            subst this
                            rw [HY.out] at hiy
                            injection hiy with hiy
                            exact hiy ▸ ge
                        have HN := Lib.hid hn
                        clear hn ge
                        go_wp2_with fail
                        go_quiet (fail)
                        go_wp2_with fail
                        go_roundw
                        case rel => exact ⟨j + 1, by omega, by go_num, HN.out, hbox, bdrewN hb _⟩
                        case measure => simp [intOf]; omega
                    · obtain rfl : j = k := by omega
                      have HN := Lib.hid (nodup_next HX.out HND.out (take_not HAL.out))
                      go_wp2_with fail
                      go_roundw
                      case rel => exact ⟨j + 1, by omega, by go_num, HN.out, hbox, hb⟩
                      case measure => simp [intOf]; omega
                · obtain rfl : k = n.props.length := by omega
                  have hnd : (n.props.map (·.1)).Nodup := by have := HND.out; rwa [List.take_of_length_le (by simp)] at this
                  have HPN := Lib.hid hnd
                  clear hnd
                  go_wp2_with fail
                  go_loopw [74] (fun i wr => ∃ k : Nat, k ≤ n.kids.length ∧ i = .int .i64 k ∧ ((n.kids.map (·.name)).take k).Nodup ∧ wr.heap[w.heap.size]? = some (.cells #[.string n.name, .slice A2 n.props.length c2, .slice A n.kids.length c] 32 (0, 0)) ∧ Below w.heap.size w wr) (fun i _ => n.kids.length - (intOf i).toNat)
                  case atStart => exact ⟨0, by omega, rfl, by simp, hbox, hb⟩
                  case round =>
                    clear hbox hb n1 n2 lb
                    obtain ⟨k, hk, rfl, hnd, hbox, hb⟩ := hrel
                    have n1 := bcellAt (v := .slice A2 n.props.length c2) hbox 1 rfl
                    have n2 := bcellAt (v := .slice A n.kids.length c) hbox 2 rfl
                    have lb := blockLt hbox
                    have HND := Lib.hid hnd
                    clear hnd
                    by_cases hkl : k < n.kids.length
                    · have hx : n.kids[k]? = some n.kids[k] := List.getElem?_eq_getElem hkl
                      obtain ⟨p, hp⟩ : ∃ p, p = n.kids[k] := ⟨_, rfl⟩
                      rw [← hp] at hx
                      have HX := Lib.hid (show (n.kids.map (·.name))[k]? = some p.name by rw [List.getElem?_map, hx]; rfl)
                      obtain ⟨b0, off0, E0, e0, F0, f0, rfl, hob0, hlb0, s00, s01, s02, hnv0⟩ := (ha.below hb).node_at hx
                      have hk0 : (0 : Int) ≤ (k : Int) := by omega
                      have hk1 : (k : Int) < (n.kids.length : Int) := by omega
                      clear hx hp
                      go_wp2_with fail
                      go_loopw [78] (fun i wr => ∃ j : Nat, j ≤ k ∧ i = .int .i64 j ∧ (∀ (i : Nat) y, i < j → (n.kids.map (·.name))[i]? = some y → y ≠ p.name) ∧ wr.heap[w.heap.size]? = some (.cells #[.string n.name, .slice A2 n.props.length c2, .slice (some ⟨b0, off0, none⟩) n.kids.length c] 32 (0, 0)) ∧ Below w.heap.size w wr) (fun i _ => k - (intOf i).toNat)
                      case atStart => exact ⟨0, by omega, rfl, fun i y h => by omega, hbox, hb⟩
                      case round =>
                        clear hbox hb n1 n2 lb s00 s01 s02
                        obtain ⟨j, hj, rfl, hal, hbox, hb⟩ := hrel
                        have n1 := bcellAt (v := .slice A2 n.props.length c2) hbox 1 rfl
                        have n2 := bcellAt (v := .slice (some ⟨b0, off0, none⟩) n.kids.length c) hbox 2 rfl
                        have lb := blockLt hbox
                        have HAL := Lib.hid hal
                        clear hal
                        by_cases hjk : j < k
                        · have hjl : j < n.kids.length := by omega
                          have hy : n.kids[j]? = some n.kids[j] := List.getElem?_eq_getElem hjl
                          obtain ⟨q, hq⟩ : ∃ q, q = n.kids[j] := ⟨_, rfl⟩
                          rw [← hq] at hy
                          have HY := Lib.hid (show (n.kids.map (·.name))[j]? = some q.name by rw [List.getElem?_map, hy]; rfl)
                          have hx : n.kids[k]? = some n.kids[k] := List.getElem?_eq_getElem hkl
                          have hpk : n.kids[k].name = p.name := by have := HX.out; rw [List.getElem?_map, hx] at this; injection this
                          obtain ⟨b1, off1, E1, e1, F1, f1, he1, hob1, hlb1, s10, s11, s12, hnv1⟩ := (ha.below hb).node_at hy
                          cases he1
                          obtain ⟨b2, off2, E2, e2, F2, f2, he2, hob2, hlb2, s20, s21, s22, hnv2⟩ := (ha.below hb).node_at hx
                          cases he2
                          rw [hpk] at s20
                          have hj0 : (0 : Int) ≤ (j : Int) := by omega
                          have hj1 : (j : Int) < (n.kids.length : Int) := by omega
                          clear hx hq hy hpk
                          by_cases ge : q.name = p.name
                          · have qe := seq_eq ge
                            have hfin : E = 9 := hnine (by exact .inr (twiceB_true (nodup_not HX.out (by rw [HY.out, ge]) hjk)))
                            subst hfin
                            clear ge
                            go_wp2_with fail
                            go_quiet (fail)
                            go_wp2_with fail
                            go_ret
                            exact ⟨rfl, bdrewN hb _⟩
                          · have qe := seq_ne ge
                            have hn : ∀ (i : Nat) y, i < j + 1 → (n.kids.map (·.name))[i]? = some y → y ≠ p.name := fun i y hi hiy => by
                              rcases Nat.lt_or_ge i j with h | h
                              · exact HAL.out i y h hiy
                              · have : i = j := by omega
                                subst this
                                rw [HY.out] at hiy
                                injection hiy with hiy
                                exact hiy ▸ ge
                            have HN := Lib.hid hn
                            clear hn ge
                            go_wp2_with fail
                            go_quiet (fail)
                            go_wp2_with fail
                            go_roundw
                            case rel => exact ⟨j + 1, by omega, by go_num, HN.out, hbox, bdrewN hb _⟩
                            case measure => simp [intOf]; omega
                        · obtain rfl : j = k := by omega
                          have HN := Lib.hid (nodup_next HX.out HND.out (take_not HAL.out))
                          go_wp2_with fail
                          go_roundw
                          case rel => exact ⟨j + 1, by omega, by go_num, HN.out, hbox, hb⟩
                          case measure => simp [intOf]; omega
                    · obtain rfl : k = n.kids.length := by omega
                      have hnd : (n.kids.map (·.name)).Nodup := by have := HND.out; rwa [List.take_of_length_le (by simp)] at this
                      have HKN := Lib.hid hnd
                      clear hnd
                      go_wp2_with fail
                      go_loopw [99] (fun i wr => ∃ k : Nat, k ≤ n.kids.length ∧ i = .int .i64 k ∧ (∀ m ∈ n.kids.take k, checkN (d + 1) m = 0) ∧ wr.heap[w.heap.size]? = some (.cells #[.string n.name, .slice A2 n.props.length c2, .slice A n.kids.length c] 32 (0, 0)) ∧ Below w.heap.size w wr) (fun i _ => n.kids.length - (intOf i).toNat)
                      case atStart => exact ⟨0, by omega, rfl, by simp, hbox, hb⟩
                      case round =>
                        clear hbox hb n1 n2 lb
                        obtain ⟨k, hk, rfl, hall, hbox, hb⟩ := hrel
                        have n2 := bcellAt (v := .slice A n.kids.length c) hbox 2 rfl
                        have lb := blockLt hbox
                        have HALL := Lib.hid hall
                        clear hall
                        have hzero := h0 (by rintro (h | h); rw [twiceB_false HPN.out] at h; cases h; rw [twiceB_false HKN.out] at h; cases h)
                        have HZ := Lib.hid hzero
                        clear hzero
                        by_cases hkl : k < n.kids.length
                        · have hx : n.kids[k]? = some n.kids[k] := List.getElem?_eq_getElem hkl
                          have hmem := List.getElem_mem hkl
                          obtain ⟨x, hxe⟩ : ∃ x, x = n.kids[k] := ⟨_, rfl⟩
                          rw [← hxe] at hx hmem
                          have hks := Nd.kid_size hmem
                          obtain ⟨b9, off9, E9, e9, F9, f9, rfl, hob9, hlb9, s0, s1, s2, hnv⟩ := (ha.below hb).node_at hx
                          have hk0 : (0 : Int) ≤ (k : Int) := by omega
                          have hk1 : (k : Int) < (n.kids.length : Int) := by omega
                          have hrec := fun w1 (h : Below wr.heap.size wr w1) => ih x hmem (by omega) (d + 1) (by omega) (by omega) w1 ok _ (hnv.below h)
                          obtain ⟨q, hq⟩ : ∃ q, q = checkN (d + 1) x := ⟨_, rfl⟩
                          simp only [← hq] at hrec
                          have HX := Lib.hid hx
                          have HQ := Lib.hid hq
                          clear hx hxe hq hmem
                          by_cases g : q = 0
                          · subst g
                            have HN := Lib.hid (all_snoc HX.out HALL.out HQ.out.symm)
                            go_wp2_with (first | (go_at_call 60; refine (hrec _ (by repeat (first | assumption | exact Below.refl _ _ | with_reducible refine bset ?_ (by simp) _ | with_reducible refine balloc ?_ _ | with_reducible refine bdrew ?_ | with_reducible refine bdrewN ?_ _ | with_reducible refine bstep ?_ (by assumption)))).mono ?_; clear hrec; rintro e w1 ⟨rfl, hb1⟩))
                            go_roundw
                            case rel => exact ⟨k + 1, by omega, by go_num, HN.out, bblock hbox hb1, bstep hb hb1⟩
                            case measure => simp [intOf]; omega
                          · have hfin : E = q := by rw [HZ.out, checkL_stop HX.out HALL.out (by rw [← HQ.out]; exact g), ← HQ.out]
                            have qg : (q != 0) = true := by rw [bne_iff_ne]; exact g
                            subst hfin
                            clear g
                            go_wp2_with (first | (go_at_call 60; refine (hrec _ (by repeat (first | assumption | exact Below.refl _ _ | with_reducible refine bset ?_ (by simp) _ | with_reducible refine balloc ?_ _ | with_reducible refine bdrew ?_ | with_reducible refine bdrewN ?_ _ | with_reducible refine bstep ?_ (by assumption)))).mono ?_; clear hrec; rintro e w1 ⟨rfl, hb1⟩))
                            go_ret
                            exact ⟨rfl, bstep hb hb1⟩
                        · obtain rfl : k = n.kids.length := by omega
                          have hfin : E = 0 := by rw [HZ.out]; exact checkL_zero (by have := HALL.out; rwa [List.take_length] at this)
                          subst hfin
                          go_wp2_with fail
                          go_ret
                          exact ⟨rfl, hb⟩
end Go.Proofs.YtdfknlhfdbbogaaGreatDoor

namespace Go.Proofs.YtdfknlhfdbbogaaGreatDoor
open Go.RowKit
set_option linter.unusedSimpArgs false
set_option linter.unusedVariables false
theorem findP_at {s : ByteArray} {l : List Pr} {k : Nat} {p : Pr} (h : l[k]? = some p) (ha : ∀ q ∈ l.take k, q.1 ≠ s) (hp : p.1 = s) : findP s l = some p.2 := findP_hit h ha hp
theorem findP_no {s : ByteArray} {l : List Pr} (ha : ∀ q ∈ l, q.1 ≠ s) : findP s l = none := by
  induction l with
  | nil => rfl
  | cons a r ih => rw [findP, if_neg (ha a (by simp))]; exact ih fun q hq => ha q (by simp [hq])
set_option maxRecDepth 100000 in
theorem refFind_walk (n : Nd) (hsz : n.size ≤ 1073741824) (s : ByteArray) (w : World) (ok : Nat → Prop) (v : Value) (hv : NdV w ok v n) :
    Calls Tryz.prog 142 #[v, .string s] w fun e w' => ∃ i : Int, e = .returned (.int .i64 i) ∧ ((i = -1 ∧ n.find s = none) ∨ ∃ (k : Nat) (p : Pr), i = k ∧ n.props[k]? = some p ∧ n.find s = some p.2) ∧ Below w.heap.size w w' := by
  obtain ⟨A2, c2, A, c, rfl, hc2, hl2, ha2, hc, hl, ha⟩ := hv.form
  have z1 := Nd.size_eq n
  have z2 := Nd.propsSize_length n.props
  go_enter Tryz.func142, Tryz.ntmps142
  go_wp2_with fail
  go_loopw [9] (fun i wr => ∃ k : Nat, k ≤ n.props.length ∧ i = .int .i64 k ∧ (∀ q ∈ n.props.take k, q.1 ≠ s) ∧ wr.heap[w.heap.size]? = some (.cells #[.string n.name, .slice A2 n.props.length c2, .slice A n.kids.length c] 32 (0, 0)) ∧ Below w.heap.size w wr) (fun i _ => n.props.length - (intOf i).toNat)
  case atStart => exact ⟨0, by omega, rfl, by simp, (by repeat (first | assumption | exact blast _ _ _ (by simp) | with_reducible refine bblock_alloc ?_ _)), (by repeat (first | assumption | exact Below.refl _ _ | with_reducible refine bset ?_ (by simp) _ | with_reducible refine balloc ?_ _ | with_reducible refine bdrew ?_ | with_reducible refine bdrewN ?_ _ | with_reducible refine bstep ?_ (by assumption)))⟩
  case round =>
    obtain ⟨k, hk, rfl, hall, hbox, hb⟩ := hrel
    have n1 := bcellAt (v := .slice A2 n.props.length c2) hbox 1 rfl
    have lb := blockLt hbox
    have HALL := Lib.hid hall
    clear hall
    by_cases hkl : k < n.props.length
    · have hx : n.props[k]? = some n.props[k] := List.getElem?_eq_getElem hkl
      obtain ⟨p, hp⟩ : ∃ p, p = n.props[k] := ⟨_, rfl⟩
      rw [← hp] at hx
      have HX := Lib.hid hx
      obtain ⟨b0, off0, E0, e0, rfl, hob0, hlb0, s00, s01, hcc0, hll0, haa0⟩ := (ha2.below hb).prop_at hx
      have hk0 : (0 : Int) ≤ (k : Int) := by omega
      have hk1 : (k : Int) < (n.props.length : Int) := by omega
      clear hx hp
      by_cases ge : p.1 = s
      · have qe := seq_eq ge
        have hfin : n.find s = some p.2 := findP_hit HX.out HALL.out ge
        have HF := Lib.hid hfin
        clear ge hfin
        go_wp2_with fail
        go_ret
        exact ⟨_, rfl, .inr ⟨k, p, rfl, HX.out, HF.out⟩, hb⟩
      · have qe := seq_ne ge
        have HN := Lib.hid (all_snoc (P := fun q : Pr => q.1 ≠ s) HX.out HALL.out ge)
        clear ge
        go_wp2_with fail
        go_roundw
        case rel => exact ⟨k + 1, by omega, by go_num, HN.out, hbox, hb⟩
        case measure => simp [intOf]; omega
    · obtain rfl : k = n.props.length := by omega
      have hfin : n.find s = none := findP_no (by have := HALL.out; rwa [List.take_length] at this)
      have HF := Lib.hid hfin
      clear hfin
      go_wp2_with fail
      go_ret
      exact ⟨_, rfl, .inl ⟨rfl, HF.out⟩, hb⟩
theorem mul_byte (n y : Nat) (hn : n < 72057594037927936) (hy : y < 256) : IntKind.u64.wrap (IntKind.u64.wrap ((n : Int) * 256) + (y : Int)) = ((n * 256 + y : Nat) : Int) := by
  rw [IntKind.wrap_u64, IntKind.wrap_u64]; omega
set_option maxRecDepth 100000 in
theorem refNumber_walk (xs : List Int) (hx : xs.length ≤ 1073741824) (at_ m : Nat) (hm : m ≤ 8) (hat : at_ + m ≤ xs.length) (w : World) (ok : Nat → Prop) (v : Value) (hv : Sl tByte w ok v xs) :
    Calls Tryz.prog 248 #[v, .int .i64 at_, .int .i64 m] w fun e w' => e = .returned (.tuple #[.int .u64 (numN ((xs.drop at_).take m)), .bool true]) ∧ w' = w := by
  obtain ⟨A, c, rfl, hc, hl, ha⟩ := hv
  have hbd := ha.bounds
  have h1 : ¬ (at_ : Int) < 0 := by omega
  have h2 : (at_ : Int) ≤ (xs.length : Int) := by omega
  have h3 : (m : Int) ≤ (xs.length : Int) - (at_ : Int) := by omega
  go_enter Tryz.func248, Tryz.ntmps248
  go_wp2_with fail
  go_loopw [8, 27] (fun s i wr => ∃ (k : Nat), k ≤ m ∧ i = .int .i64 k ∧ s = .int .u64 (numN ((xs.drop at_).take k)) ∧ wr = w) (fun _ i _ => m - (intOf i).toNat)
  case atStart => exact ⟨0, by omega, rfl, rfl, rfl⟩
  case round =>
    obtain ⟨k, hk, rfl, rfl, rfl⟩ := hrel
    by_cases hkl : k < m
    · have hx1 : (xs.drop at_)[k]? = some xs[at_ + k] := by rw [List.getElem?_drop]; exact List.getElem?_eq_getElem (by omega)
      obtain ⟨x, hxe⟩ : ∃ x, x = xs[at_ + k] := ⟨_, rfl⟩
      rw [← hxe] at hx1
      have hx2 : xs[at_ + k]? = some x := by rw [List.getElem?_drop] at hx1; exact hx1
      obtain ⟨b, off, rfl, hob, hlb, hc0, hlo, hhi⟩ := ha.num_at hx2
      obtain ⟨y, rfl⟩ := Int.eq_ofNat_of_zero_le hlo
      have hn : numN ((xs.drop at_).take k) < 72057594037927936 := by
        have := numN_lt ((xs.drop at_).take k) (fun x h => hbd x (List.mem_of_mem_drop (List.mem_of_mem_take h)))
        rw [List.length_take, List.length_drop, Nat.min_eq_left (by omega)] at this
        exact Nat.lt_of_lt_of_le this (Nat.pow_le_pow_right (by decide) (by omega : k ≤ 7))
      have hs : numN ((xs.drop at_).take (k + 1)) = numN ((xs.drop at_).take k) * 256 + y := by rw [Nd.take_snoc hx1, numN_snoc]; simp
      have ho := mul_byte (numN ((xs.drop at_).take k)) y hn (by omega)
      rw [← hs] at ho
      have ho1 := Lib.hid ho
      have hk0 : (0 : Int) ≤ (at_ : Int) + (k : Int) := by omega
      have hk1 : (at_ : Int) + (k : Int) < (xs.length : Int) := by omega
      clear hxe hx1 hx2 hlo ho hs
      go_wp2_with fail
      go_roundw
      case rel => exact ⟨k + 1, by omega, by go_num, by first | rw [ho1.out] | (rw [← ho1.out, IntKind.wrap_u64, IntKind.wrap_u64]; go_num) | trace_state, trivial⟩
      case measure => simp [intOf]; omega
    · obtain rfl : k = m := by omega
      go_wp2_with fail
      go_ret2
      exact ⟨rfl, rfl⟩
theorem refCells_walk (xs : List Int) (hx : xs.length ≤ 1073741824) (w : World) (ok : Nat → Prop) (v : Value) (hv : Sl tByte w ok v xs) :
    Calls Tryz.prog 143 #[v] w fun e w' => ∃ v', e = .returned (.tuple #[v', .int .i64 (cellsM xs).2]) ∧ Row tU32 27 w' w.heap.size v' (cellsM xs).1 ∧ Below w.heap.size w w' := by
  have hv0 := hv
  obtain ⟨A, c, rfl, hc, hl, ha⟩ := hv
  have hbd := ha.bounds
  by_cases h4 : xs.length % 4 = 0
  · have hm : cellsM xs = (cells4 xs, 0) := by unfold cellsM; rw [if_neg (by omega)]
    rw [hm]
    clear hm
    have hget := fun (a : Int) (k : Nat) (h : a = 4 * (k : Int)) (hk : k < xs.length / 4) w1 (hb : Below w.heap.size w w1) => by
      have h1 := refNumber_walk xs hx (4 * k) 4 (by decide) (by omega) w1 ok _ (hv0.below hb)
      have h2 : ((4 * k : Nat) : Int) = a := by omega
      rw [h2] at h1
      exact h1
    have hrange : ∀ k, k < xs.length / 4 → numN ((xs.drop (4 * k)).take 4) < 4294967296 := fun k hk => by
      have := numN_lt ((xs.drop (4 * k)).take 4) fun x h => hbd x (List.mem_of_mem_drop (List.mem_of_mem_take h))
      rwa [List.length_take, List.length_drop, Nat.min_eq_left (by omega)] at this
    have h4' := Lib.hid h4
    have hq : (((xs.length : Int) % 4) != 0) = false := by rw [bne_eq_false_iff_eq]; omega
    clear h4
    go_enter Tryz.func143, Tryz.ntmps143
    go_wp2_with fail
    · clear hq
      go_loopw [4, 5] (fun a i wr => ∃ k : Nat, k ≤ xs.length / 4 ∧ i = .int .i64 ((4 * k : Nat) : Int) ∧ Row tU32 27 wr w.heap.size a ((cells4 xs).take k) ∧ Below w.heap.size w wr) (fun _ i _ => xs.length - (intOf i).toNat)
      case atStart => exact ⟨0, by omega, rfl, Own.nil, (by repeat (first | assumption | exact Below.refl _ _ | with_reducible refine bset ?_ (by simp) _ | with_reducible refine balloc ?_ _ | with_reducible refine bdrew ?_ | with_reducible refine bdrewN ?_ _ | with_reducible refine bstep ?_ (by assumption)))⟩
      case round =>
        obtain ⟨k, hk, rfl, hrow, hb⟩ := hrel
        have hlen : ((cells4 xs).take k).length = k := by rw [List.length_take, cells4_length]; omega
        by_cases hkl : k < xs.length / 4
        · have hx1 := cells4_get hkl
          have hr := hrange k hkl
          obtain ⟨y, hy⟩ : ∃ y, y = numN ((xs.drop (4 * k)).take 4) := ⟨_, rfl⟩
          have hg := fun a h w1 hb => hget a k h hkl w1 hb
          rw [← hy] at hx1 hr
          simp only [← hy] at hg
          have hlt : 4 * k < xs.length := by omega
          have hx2 := Lib.hid hx1
          have hl2 := Lib.hid hlen
          clear hy hx1 hlen hget hrange
          go_wp2_with (first
            | (go_at_call 248; refine (hg _ (by omega) _ (by repeat (first | assumption | exact Below.refl _ _ | with_reducible refine bset ?_ (by simp) _ | with_reducible refine balloc ?_ _ | with_reducible refine bdrew ?_ | with_reducible refine bdrewN ?_ _ | with_reducible refine bstep ?_ (by assumption)))).mono ?_; rintro e w1 ⟨rfl, hw1⟩; replace hw1 := hw1.symm; subst hw1)
            | (at_builtin; refine wpList_row1 rfl elU32 _ _ rfl (hrow.below (by repeat (first | assumption | exact Below.refl _ _ | with_reducible refine bset ?_ (by simp) _ | with_reducible refine balloc ?_ _ | with_reducible refine bdrew ?_ | with_reducible refine bdrewN ?_ _ | with_reducible refine bstep ?_ (by assumption)))) rfl rfl (by first | exact blast _ _ _ (by simp) | simp) (rep_num (by omega) (by omega)) (by rw [hl2.out]; omega) (by have := hb.size; simp; omega) ?_; intro g cap w1 hrow1 hg1 hat1 hlt1))
          go_roundw
          case rel => exact ⟨k + 1, by omega, by go_num, by rw [Nd.take_snoc hx2.out]; rw [hl2.out] at hrow1; rw [show min k (cells4 xs).length = k by rw [cells4_length]; omega]; exact hrow1, bgrown (by repeat (first | assumption | exact Below.refl _ _ | with_reducible refine bset ?_ (by simp) _ | with_reducible refine balloc ?_ _ | with_reducible refine bdrew ?_ | with_reducible refine bdrewN ?_ _ | with_reducible refine bstep ?_ (by assumption))) hg1 (hrow.base (by omega))⟩
          case measure => simp [intOf]; omega
        · obtain rfl : k = xs.length / 4 := by omega
          have h5 := h4'.out
          have hge : ¬ 4 * (xs.length / 4) < xs.length := by omega
          rw [List.take_of_length_le (by rw [cells4_length]; omega)] at hrow
          clear hget hrange h5
          go_wp2_with fail
          go_ret2
          exact ⟨_, rfl, hrow, hb⟩
  · have hm : cellsM xs = ([], 4) := by unfold cellsM; rw [if_pos h4]
    rw [hm]
    clear hm
    have hq : (((xs.length : Int) % 4) != 0) = true := by rw [bne_iff_ne]; omega
    clear h4
    go_enter Tryz.func143, Tryz.ntmps143
    go_wp2_with fail
    go_ret2
    exact ⟨_, rfl, Own.nil, (by repeat (first | assumption | exact Below.refl _ _ | with_reducible refine bset ?_ (by simp) _ | with_reducible refine balloc ?_ _ | with_reducible refine bdrew ?_ | with_reducible refine bdrewN ?_ _ | with_reducible refine bstep ?_ (by assumption)))⟩
theorem oneN_some {n : Nd} {s : ByteArray} {b : List Int} (h : n.find s = some b) : oneN n s = if b.length = 4 then (numN b, true, 0) else (0, false, 4) := by unfold oneN; rw [h]
theorem oneN_none {n : Nd} {s : ByteArray} (h : n.find s = none) : oneN n s = (0, false, 0) := by unfold oneN; rw [h]
theorem cells4_one {b : List Int} (h : b.length = 4) : cellsM b = ([(numN b : Int)], 0) := by
  unfold cellsM cells4
  rw [if_neg (by omega), h]
  simp only [Nat.reduceDiv, List.range_one, List.map_cons, List.map_nil, Nat.mul_zero, List.drop_zero]
  rw [List.take_of_length_le (by omega)]
theorem cells4_not {b : List Int} (h : b.length ≠ 4) : (cellsM b).2 ≠ 0 ∨ (cellsM b).1.length ≠ 1 := by
  unfold cellsM
  split
  · left; simp
  · right; rw [cells4_length]; omega
set_option maxRecDepth 100000 in
theorem refOne_walk (n : Nd) (hsz : n.size ≤ 1073741824) (s : ByteArray) (w : World) (ok : Nat → Prop) (v : Value) (hv : NdV w ok v n) :
    Calls Tryz.prog 64 #[v, .string s] w fun e w' => e = .returned (.tuple #[.int .u32 (oneN n s).1, .bool (oneN n s).2.1, .int .i64 (oneN n s).2.2]) ∧ Below w.heap.size w w' := by
  obtain ⟨A2, c2, A, c, rfl, hc2, hl2, ha2, hc, hl, ha⟩ := hv.form
  have hfind := fun w1 (h : Below w.heap.size w w1) => refFind_walk n hsz s w1 ok _ (hv.below h)
  have z1 := Nd.size_eq n
  have hfs : ∀ b, n.find s = some b → b.length ≤ 1073741824 := fun b h => by
    have := findP_size h
    omega
  cases hf : n.find s with
  | none =>
    simp only [hf] at hfind
    have ho := oneN_none hf
    simp only [ho]
    clear hfs hf ho
    go_enter Tryz.func64, Tryz.ntmps64
    go_wp2_with (first
      | (go_at_call 142; refine (hfind _ (by repeat (first | assumption | exact Below.refl _ _ | with_reducible refine bset ?_ (by simp) _ | with_reducible refine balloc ?_ _ | with_reducible refine bdrew ?_ | with_reducible refine bdrewN ?_ _ | with_reducible refine bstep ?_ (by assumption)))).mono ?_; clear hfind; rintro e w1 ⟨i, rfl, hi, hb1⟩; rcases hi with ⟨rfl, _⟩ | ⟨_, _, _, _, h⟩; rotate_left; cases h))
    go_ret3
    exact ⟨rfl, (by repeat (first | assumption | exact Below.refl _ _ | with_reducible refine bset ?_ (by simp) _ | with_reducible refine balloc ?_ _ | with_reducible refine bdrew ?_ | with_reducible refine bdrewN ?_ _ | with_reducible refine bstep ?_ (by assumption)))⟩
  | some b =>
    have hb := hfs b hf
    simp only [hf] at hfind
    have ho := oneN_some hf
    clear hfs
    have hcl := fun w1 ok1 v1 h => refCells_walk b hb w1 ok1 v1 h
    have A142 : True := trivial
    by_cases h4 : b.length = 4
    · rw [if_pos h4] at ho
      simp only [ho]
      have hcs := cells4_one h4
      simp only [hcs] at hcl
      have hnb : numN b < 4294967296 ∨ True := .inr trivial
      clear ho hcs h4 hf
      go_enter Tryz.func64, Tryz.ntmps64
      go_wp2_with (first
        | (go_at_call 142; refine (hfind _ (by repeat (first | assumption | exact Below.refl _ _ | with_reducible refine bset ?_ (by simp) _ | with_reducible refine balloc ?_ _ | with_reducible refine bdrew ?_ | with_reducible refine bdrewN ?_ _ | with_reducible refine bstep ?_ (by assumption)))).mono ?_; clear hfind; rintro e w1 ⟨i, rfl, hi, hb1⟩; rcases hi with ⟨_, h⟩ | ⟨k, p, rfl, hx, h⟩; cases h; injection h with h; have hbw1 := bstep (balloc (brefl w) _) hb1; have hbox := bblock (blast w _ _ rfl) hb1; have n1 := bcellAt (v := .slice A2 n.props.length c2) hbox 1 rfl; have lb := blockLt hbox; obtain ⟨b0, off0, E0, e0, rfl, hob0, hlb0, s00, s01, hcc0, hll0, haa0⟩ := (ha2.below hbw1).prop_at hx; have hkl := (List.getElem?_eq_some_iff.1 hx).1; have hk0 : (0 : Int) ≤ (k : Int) := (by omega); have hk1 : (k : Int) < (n.props.length : Int) := (by omega); have hsl : Sl tByte w1 ok (.slice E0 p.2.length e0) b := (by rw [h]; exact ⟨E0, e0, rfl, hcc0, hll0, haa0⟩); clear hx hkl h)
        | (go_at_call 143; refine (hcl _ _ _ hsl).mono ?_; clear hcl; rintro e w2 ⟨v2, rfl, hr2, hb2⟩; obtain ⟨A7, c7, rfl, hc7, hl7, ha7⟩ := hr2.form; obtain ⟨b5, off5, rfl, hob5, hlb5, x0, _, _⟩ := ha7.num_at (j := 0) rfl; simp only [Nat.add_zero] at x0; clear ha7 hr2; have hc8 : (1 : Int) ≤ (c7 : Int) := (by simp at hc7; omega)))
      go_ret3
      exact ⟨rfl, bstep hbw1 hb2⟩
    · rw [if_neg h4] at ho
      simp only [ho]
      have hcs := cells4_not h4
      obtain ⟨l, e4, hce⟩ : ∃ l e4, cellsM b = (l, e4) := ⟨_, _, rfl⟩
      simp only [hce] at hcl hcs
      clear ho h4 hf hce
      by_cases g : e4 = 0
      · subst g
        have hl1 : l.length ≠ 1 := by rcases hcs with h | h; exact absurd rfl h; exact h
        have q1 : ((l.length : Int) != 1) = true := by rw [bne_iff_ne]; omega
        clear hcs hl1
        go_enter Tryz.func64, Tryz.ntmps64
        go_wp2_with (first
          | (go_at_call 142; refine (hfind _ (by repeat (first | assumption | exact Below.refl _ _ | with_reducible refine bset ?_ (by simp) _ | with_reducible refine balloc ?_ _ | with_reducible refine bdrew ?_ | with_reducible refine bdrewN ?_ _ | with_reducible refine bstep ?_ (by assumption)))).mono ?_; clear hfind; rintro e w1 ⟨i, rfl, hi, hb1⟩; rcases hi with ⟨_, h⟩ | ⟨k, p, rfl, hx, h⟩; cases h; injection h with h; have hbw1 := bstep (balloc (brefl w) _) hb1; have hbox := bblock (blast w _ _ rfl) hb1; have n1 := bcellAt (v := .slice A2 n.props.length c2) hbox 1 rfl; have lb := blockLt hbox; obtain ⟨b0, off0, E0, e0, rfl, hob0, hlb0, s00, s01, hcc0, hll0, haa0⟩ := (ha2.below hbw1).prop_at hx; have hkl := (List.getElem?_eq_some_iff.1 hx).1; have hk0 : (0 : Int) ≤ (k : Int) := (by omega); have hk1 : (k : Int) < (n.props.length : Int) := (by omega); have hsl : Sl tByte w1 ok (.slice E0 p.2.length e0) b := (by rw [h]; exact ⟨E0, e0, rfl, hcc0, hll0, haa0⟩); clear hx hkl h)
          | (go_at_call 143; refine (hcl _ _ _ hsl).mono ?_; clear hcl; rintro e w2 ⟨v2, rfl, hr2, hb2⟩; obtain ⟨A7, c7, rfl, hA7⟩ := hr2.form; clear hA7 hr2))
        go_ret3
        exact ⟨rfl, bstep hbw1 hb2⟩
      · have q1 : (e4 != 0) = true := by rw [bne_iff_ne]; exact g
        clear hcs g
        go_enter Tryz.func64, Tryz.ntmps64
        go_wp2_with (first
          | (go_at_call 142; refine (hfind _ (by repeat (first | assumption | exact Below.refl _ _ | with_reducible refine bset ?_ (by simp) _ | with_reducible refine balloc ?_ _ | with_reducible refine bdrew ?_ | with_reducible refine bdrewN ?_ _ | with_reducible refine bstep ?_ (by assumption)))).mono ?_; clear hfind; rintro e w1 ⟨i, rfl, hi, hb1⟩; rcases hi with ⟨_, h⟩ | ⟨k, p, rfl, hx, h⟩; cases h; injection h with h; have hbw1 := bstep (balloc (brefl w) _) hb1; have hbox := bblock (blast w _ _ rfl) hb1; have n1 := bcellAt (v := .slice A2 n.props.length c2) hbox 1 rfl; have lb := blockLt hbox; obtain ⟨b0, off0, E0, e0, rfl, hob0, hlb0, s00, s01, hcc0, hll0, haa0⟩ := (ha2.below hbw1).prop_at hx; have hkl := (List.getElem?_eq_some_iff.1 hx).1; have hk0 : (0 : Int) ≤ (k : Int) := (by omega); have hk1 : (k : Int) < (n.props.length : Int) := (by omega); have hsl : Sl tByte w1 ok (.slice E0 p.2.length e0) b := (by rw [h]; exact ⟨E0, e0, rfl, hcc0, hll0, haa0⟩); clear hx hkl h)
          | (go_at_call 143; refine (hcl _ _ _ hsl).mono ?_; clear hcl; rintro e w2 ⟨v2, rfl, hr2, hb2⟩; obtain ⟨A7, c7, rfl, hA7⟩ := hr2.form; clear hA7 hr2))
        go_ret3
        exact ⟨rfl, bstep hbw1 hb2⟩
end Go.Proofs.YtdfknlhfdbbogaaGreatDoor

namespace Go.Proofs.YtdfknlhfdbbogaaGreatDoor
open Go.RowKit
set_option linter.unusedSimpArgs false
set_option linter.unusedVariables false
theorem checkT_err {t : Tr} (h : checkN 1 t.root ≠ 0) : checkT t = checkN 1 t.root := by unfold checkT; rw [if_pos h]
theorem checkT_many {t : Tr} (h : checkN 1 t.root = 0) (h2 : 4096 < t.root.nodes ∨ 8192 < t.root.nprops ∨ 64 < t.res.length ∨ t.res.any isNone = true) : checkT t = 7 := by unfold checkT; rw [if_neg (by simp [h]), if_pos h2]
theorem checkT_ok {t : Tr} (h : checkN 1 t.root = 0) (h2 : ¬ (4096 < t.root.nodes ∨ 8192 < t.root.nprops ∨ 64 < t.res.length ∨ t.res.any isNone = true)) : checkT t = 0 := by unfold checkT; rw [if_neg (by simp [h]), if_neg h2]
set_option maxRecDepth 100000 in
set_option maxHeartbeats 1000000 in
theorem refCheck_walk (t : Tr) (hsz : t.root.size ≤ 1073741824) (w : World) (ok : Nat → Prop) (v : Value) (hv : TrV w ok v t) :
    Calls Tryz.prog 16 #[v] w fun e w' => e = .returned (.int .i64 (checkT t)) ∧ Below w.heap.size w w' := by
  obtain ⟨vr, vp, vk, rfl, h0, h00, h1, h2, h3⟩ := hv
  have hn := TrV.root (t := t) h2 h3
  obtain ⟨A1, c1, rfl, hc1, hl1, ha1⟩ := h1
  obtain ⟨A2, c2, rfl, hc2, hl2, ha2⟩ := h2
  obtain ⟨A3, c3, rfl, hc3, hl3, ha3⟩ := h3
  have hwr := fun w1 (h : Below w.heap.size w w1) => refWrong_walk t.root hsz 1 (by decide) (by decide) w1 ok _ (hn.below h)
  have hcn := fun w1 (h : Below w.heap.size w w1) => refCount_walk t.root hsz w1 ok _ (hn.below h)
  have he := checkT_err (t := t)
  have hm := checkT_many (t := t)
  have ho := checkT_ok (t := t)
  have b5 := Nd.nodes_le t.root
  have b6 := Nd.nprops_le t.root
  obtain ⟨E, hE⟩ : ∃ E, E = checkT t := ⟨_, rfl⟩
  simp only [← hE] at he hm ho ⊢
  clear hE
  obtain ⟨q, hq⟩ : ∃ q, q = checkN 1 t.root := ⟨_, rfl⟩
  simp only [← hq] at hwr he hm ho
  clear hq
  have hBX := blast w (.cells #[.int .u32 t.boot, .slice A1 t.res.length c1, .string t.root.name, .slice A2 t.root.props.length c2, .slice A3 t.root.kids.length c3] 34) _ rfl
  by_cases g : q = 0
  · subst g
    have hmA := hm rfl
    have hoA := ho rfl
    clear he hm ho
    by_cases g2 : 4096 < t.root.nodes ∨ 8192 < t.root.nprops ∨ 64 < t.res.length
    · have hfin := hmA (by rcases g2 with h | h | h; exact .inl h; exact .inr (.inl h); exact .inr (.inr (.inl h)))
      subst hfin
      clear hmA hoA
      by_cases g3 : 4096 < t.root.nodes
      · have g3' : (4096 : Int) < (t.root.nodes : Int) := by omega
        clear g2
        go_enter Tryz.func16, Tryz.ntmps16
        go_wp2_with (first
          | (go_at_call 60; refine (hwr _ (by repeat (first | assumption | exact Below.refl _ _ | with_reducible refine bset ?_ (by simp) _ | with_reducible refine balloc ?_ _ | with_reducible refine bdrew ?_ | with_reducible refine bdrewN ?_ _ | with_reducible refine bstep ?_ (by assumption)))).mono ?_; clear hwr; rintro e w1 ⟨rfl, hb1⟩; have hbw1 := bstep (balloc (brefl w) _) hb1; have T1 := bblock hBX hb1; have t1 := bcellAt (v := .slice A1 t.res.length c1) T1 1 rfl; have t2 := bcellAt (v := .string t.root.name) T1 2 rfl; have t3 := bcellAt (v := .slice A2 t.root.props.length c2) T1 3 rfl; have t4 := bcellAt (v := .slice A3 t.root.kids.length c3) T1 4 rfl; have lt := blockLt T1)
          | (go_at_call 61; refine (hcn _ hbw1).mono ?_; clear hcn; rintro e w2 ⟨rfl, hb2⟩; have hbw2 := bstep hbw1 hb2; have T2 := bblock T1 hb2; clear t1; have t1 := bcellAt (v := .slice A1 t.res.length c1) T2 1 rfl; have lt2 := blockLt T2))
        go_ret
        exact ⟨rfl, hbw2⟩
      · have g3' : (t.root.nodes : Int) ≤ 4096 := by omega
        by_cases g4 : 8192 < t.root.nprops
        · have g4' : (8192 : Int) < (t.root.nprops : Int) := by omega
          clear g2
          go_enter Tryz.func16, Tryz.ntmps16
          go_wp2_with (first
            | (go_at_call 60; refine (hwr _ (by repeat (first | assumption | exact Below.refl _ _ | with_reducible refine bset ?_ (by simp) _ | with_reducible refine balloc ?_ _ | with_reducible refine bdrew ?_ | with_reducible refine bdrewN ?_ _ | with_reducible refine bstep ?_ (by assumption)))).mono ?_; clear hwr; rintro e w1 ⟨rfl, hb1⟩; have hbw1 := bstep (balloc (brefl w) _) hb1; have T1 := bblock hBX hb1; have t1 := bcellAt (v := .slice A1 t.res.length c1) T1 1 rfl; have t2 := bcellAt (v := .string t.root.name) T1 2 rfl; have t3 := bcellAt (v := .slice A2 t.root.props.length c2) T1 3 rfl; have t4 := bcellAt (v := .slice A3 t.root.kids.length c3) T1 4 rfl; have lt := blockLt T1)
            | (go_at_call 61; refine (hcn _ hbw1).mono ?_; clear hcn; rintro e w2 ⟨rfl, hb2⟩; have hbw2 := bstep hbw1 hb2; have T2 := bblock T1 hb2; clear t1; have t1 := bcellAt (v := .slice A1 t.res.length c1) T2 1 rfl; have lt2 := blockLt T2))
          go_ret
          exact ⟨rfl, hbw2⟩
        · have g4' : (t.root.nprops : Int) ≤ 8192 := by omega
          have g5' : (64 : Int) < (t.res.length : Int) := by omega
          clear g2
          go_enter Tryz.func16, Tryz.ntmps16
          go_wp2_with (first
            | (go_at_call 60; refine (hwr _ (by repeat (first | assumption | exact Below.refl _ _ | with_reducible refine bset ?_ (by simp) _ | with_reducible refine balloc ?_ _ | with_reducible refine bdrew ?_ | with_reducible refine bdrewN ?_ _ | with_reducible refine bstep ?_ (by assumption)))).mono ?_; clear hwr; rintro e w1 ⟨rfl, hb1⟩; have hbw1 := bstep (balloc (brefl w) _) hb1; have T1 := bblock hBX hb1; have t1 := bcellAt (v := .slice A1 t.res.length c1) T1 1 rfl; have t2 := bcellAt (v := .string t.root.name) T1 2 rfl; have t3 := bcellAt (v := .slice A2 t.root.props.length c2) T1 3 rfl; have t4 := bcellAt (v := .slice A3 t.root.kids.length c3) T1 4 rfl; have lt := blockLt T1)
            | (go_at_call 61; refine (hcn _ hbw1).mono ?_; clear hcn; rintro e w2 ⟨rfl, hb2⟩; have hbw2 := bstep hbw1 hb2; have T2 := bblock T1 hb2; clear t1; have t1 := bcellAt (v := .slice A1 t.res.length c1) T2 1 rfl; have lt2 := blockLt T2))
          go_ret
          exact ⟨rfl, hbw2⟩
    · have g3' : (t.root.nodes : Int) ≤ 4096 := by omega
      have g4' : (t.root.nprops : Int) ≤ 8192 := by omega
      have g5' : (t.res.length : Int) ≤ 64 := by omega
      have hm2 := fun h => hmA (.inr (.inr (.inr h)))
      have ho2 := fun (h : t.res.any isNone = false) => hoA (by rintro (h2 | h2 | h2 | h2); exact g2 (.inl h2); exact g2 (.inr (.inl h2)); exact g2 (.inr (.inr h2)); rw [h] at h2; cases h2)
      clear g2 hmA hoA
      go_enter Tryz.func16, Tryz.ntmps16
      go_wp2_with (first
        | (go_at_call 60; refine (hwr _ (by repeat (first | assumption | exact Below.refl _ _ | with_reducible refine bset ?_ (by simp) _ | with_reducible refine balloc ?_ _ | with_reducible refine bdrew ?_ | with_reducible refine bdrewN ?_ _ | with_reducible refine bstep ?_ (by assumption)))).mono ?_; clear hwr; rintro e w1 ⟨rfl, hb1⟩; have hbw1 := bstep (balloc (brefl w) _) hb1; have T1 := bblock hBX hb1; have t1 := bcellAt (v := .slice A1 t.res.length c1) T1 1 rfl; have t2 := bcellAt (v := .string t.root.name) T1 2 rfl; have t3 := bcellAt (v := .slice A2 t.root.props.length c2) T1 3 rfl; have t4 := bcellAt (v := .slice A3 t.root.kids.length c3) T1 4 rfl; have lt := blockLt T1)
        | (go_at_call 61; refine (hcn _ hbw1).mono ?_; clear hcn; rintro e w2 ⟨rfl, hb2⟩; have hbw2 := bstep hbw1 hb2; have T2 := bblock T1 hb2; clear t1; have t1 := bcellAt (v := .slice A1 t.res.length c1) T2 1 rfl; have lt2 := blockLt T2))
      go_loopw [34] (fun i wr => ∃ k : Nat, k ≤ t.res.length ∧ i = .int .i64 k ∧ (t.res.take k).any isNone = false ∧ Below w2.heap.size w2 wr) (fun i _ => t.res.length - (intOf i).toNat)
      case atStart => exact ⟨0, by omega, rfl, by simp, brefl _⟩
      case round =>
        obtain ⟨k, hk, rfl, hall, hb⟩ := hrel
        have t1 := bkeep hb t1
        have lt3 := Nat.lt_of_lt_of_le lt2 hb.size
        have HALL := Lib.hid hall
        clear hall
        by_cases hkl : k < t.res.length
        · have hx : t.res[k]? = some t.res[k] := List.getElem?_eq_getElem hkl
          obtain ⟨x, hxe⟩ : ∃ x, x = t.res[k] := ⟨_, rfl⟩
          rw [← hxe] at hx
          have HX := Lib.hid hx
          obtain ⟨b, off, rfl, hob, hlb, r0, r1, u0, u1, u2, u3⟩ := (ha1.below (bstep hbw2 hb)).res_at hx
          obtain ⟨x1, x2⟩ := x
          simp only at r0 r1 u0 u1 u2 u3
          have hk0 : (0 : Int) ≤ (k : Int) := by omega
          have hk1 : (k : Int) < (t.res.length : Int) := by omega
          clear hx hxe u0 u1 u2 u3
          by_cases p1 : x1 = 0
          · have q1 : (x1 == 0) = true := by rw [beq_iff_eq]; exact p1
            by_cases p2 : x2 = 0
            · have q2 : (x2 == 0) = true := by rw [beq_iff_eq]; exact p2
              have hfin := hm2 (any_hit HX.out (decide_eq_true ⟨p1, p2⟩))
              subst hfin
              clear p1 p2
              go_wp2_with fail
              go_ret
              exact ⟨rfl, bstep hbw2 hb⟩
            · have q2 : (x2 == 0) = false := by rw [beq_eq_false_iff_ne]; exact p2
              have HN := Lib.hid (any_next HX.out HALL.out (decide_eq_false fun h => p2 h.2))
              clear p1 p2
              go_wp2_with fail
              go_roundw
              case rel => exact ⟨k + 1, by omega, by go_num, HN.out, hb⟩
              case measure => simp [intOf]; omega
          · have q1 : (x1 == 0) = false := by rw [beq_eq_false_iff_ne]; exact p1
            have HN := Lib.hid (any_next HX.out HALL.out (decide_eq_false fun h => p1 h.1))
            clear p1
            go_wp2_with fail
            go_roundw
            case rel => exact ⟨k + 1, by omega, by go_num, HN.out, hb⟩
            case measure => simp [intOf]; omega
        · obtain rfl : k = t.res.length := by omega
          have hfin := ho2 (by have := HALL.out; rwa [List.take_length] at this)
          subst hfin
          go_wp2_with fail
          go_ret
          exact ⟨rfl, bstep hbw2 hb⟩
  · have hfin := he g
    have q1 : (q != 0) = true := by rw [bne_iff_ne]; exact g
    subst hfin
    clear he hm ho g hcn
    go_enter Tryz.func16, Tryz.ntmps16
    go_wp2_with (first
      | (go_at_call 60; refine (hwr _ (by repeat (first | assumption | exact Below.refl _ _ | with_reducible refine bset ?_ (by simp) _ | with_reducible refine balloc ?_ _ | with_reducible refine bdrew ?_ | with_reducible refine bdrewN ?_ _ | with_reducible refine bstep ?_ (by assumption)))).mono ?_; clear hwr; rintro e w1 ⟨rfl, hb1⟩; have hbw1 := bstep (balloc (brefl w) _) hb1))
    go_ret
    exact ⟨rfl, hbw1⟩
end Go.Proofs.YtdfknlhfdbbogaaGreatDoor

namespace Go.Proofs.YtdfknlhfdbbogaaGreatDoor
open Go.RowKit
set_option linter.unusedSimpArgs false
set_option linter.unusedVariables false
set_option maxRecDepth 100000 in
set_option maxHeartbeats 2000000 in
theorem refGet_walk (t : Tr) (hsz : t.root.size ≤ 536870912) (place : List Int) (mm : Nd) (hd : downN t.root place = some mm) (w : World) (ok okp : Nat → Prop) (v pv : Value) (hv : TrV w ok v t) (hp : Sl tInt w okp pv place) :
    Calls Tryz.prog 63 #[v, pv] w fun e w' => ∃ v', e = .returned (.tuple #[v', .bool true]) ∧ NdV w' ok v' mm ∧ Below w.heap.size w w' := by
  obtain ⟨vr, vp, vk, rfl, h0, h00, h1, h2, h3⟩ := hv
  have hn := TrV.root (t := t) h2 h3
  obtain ⟨A1, c1, rfl, hc1, hl1, ha1⟩ := h1
  obtain ⟨A2, c2, rfl, hc2, hl2, ha2⟩ := h2
  obtain ⟨A3, c3, rfl, hc3, hl3, ha3⟩ := h3
  obtain ⟨A4, c4, rfl, hc4, hl4, ha4⟩ := hp
  have HD := Lib.hid hd
  clear ha1 ha2 ha3 h0 h00 hd
  go_enter Tryz.func63, Tryz.ntmps63
  go_wp2_with fail
  have z1 : True := trivial
  obtain ⟨W, hW⟩ : ∃ W, W = ((w.alloc (.cells #[.int .u32 t.boot, .slice A1 t.res.length c1, .string t.root.name, .slice A2 t.root.props.length c2, .slice A3 t.root.kids.length c3] 34)).alloc (.cells #[.string ⟨#[]⟩, .slice none 0 0, .slice none 0 0] 32)).alloc (.cells #[.string t.root.name, .slice A2 t.root.props.length c2, .slice A3 t.root.kids.length c3] 32) := ⟨_, rfl⟩
  have hWb : Below w.heap.size w W := by rw [hW]; exact (by repeat (first | assumption | exact Below.refl _ _ | with_reducible refine bset ?_ (by simp) _ | with_reducible refine balloc ?_ _ | with_reducible refine bdrew ?_ | with_reducible refine bdrewN ?_ _ | with_reducible refine bstep ?_ (by assumption)))
  have hZ : W.heap[w.heap.size + 1]? = some (.cells #[.string ⟨#[]⟩, .slice none 0 0, .slice none 0 0] 32 (0, 0)) := by rw [hW]; exact (by repeat (first | assumption | exact blast _ _ _ (by simp) | with_reducible refine bblock_alloc ?_ _))
  have hN : W.heap[w.heap.size + 1 + 1]? = some (.cells #[.string t.root.name, .slice A2 t.root.props.length c2, .slice A3 t.root.kids.length c3] 32 (0, 0)) := by rw [hW]; exact (by repeat (first | assumption | exact blast _ _ _ (by simp) | with_reducible refine bblock_alloc ?_ _))
  rw [← hW]
  go_loopw [12] (fun i wr => ∃ (k : Nat) (m : Nd) (Am : Option Addr) (cm : Nat) (Bm : Option Addr) (dm : Nat), k ≤ place.length ∧ i = .int .i64 k ∧ downN t.root (place.take k) = some m ∧ NdV w ok (.agg #[.string m.name, .slice Am m.props.length cm, .slice Bm m.kids.length dm]) m ∧
    wr.heap[w.heap.size + 1 + 1]? = some (.cells #[.string m.name, .slice Am m.props.length cm, .slice Bm m.kids.length dm] 32 (0, 0)) ∧ wr.heap[w.heap.size + 1]? = some (.cells #[.string ⟨#[]⟩, .slice none 0 0, .slice none 0 0] 32 (0, 0)) ∧ Below w.heap.size w wr) (fun i _ => place.length - (intOf i).toNat)
  case atStart => exact ⟨0, t.root, A2, c2, A3, c3, by omega, rfl, rfl, hn, hN, hZ, hWb⟩
  case round =>
    clear hZ hN hW hWb
    obtain ⟨k, m, Am, cm, Bm, dm, hk, rfl, hdm, hmv, hbm, hbz, hb⟩ := hrel
    have f0 := bcellAt (v := .string m.name) hbm 0 rfl
    have f1 := bcellAt (v := .slice Am m.props.length cm) hbm 1 rfl
    have f2 := bcellAt (v := .slice Bm m.kids.length dm) hbm 2 rfl
    have y0 := bfrozenAt hbm 0
    have y1 := bfrozenAt hbm 1
    have y2 := bfrozenAt hbm 2
    have lt3 := blockLt hbm
    have x0 := bcellAt (v := .string ⟨#[]⟩) hbz 0 rfl
    have x1 := bcellAt (v := .slice none 0 0) hbz 1 rfl
    have x2 := bcellAt (v := .slice none 0 0) hbz 2 rfl
    have v0 := bfrozenAt hbz 0
    have v1 := bfrozenAt hbz 1
    have v2 := bfrozenAt hbz 2
    have lz := blockLt hbz
    by_cases hkl : k < place.length
    · have hx : place[k]? = some place[k] := List.getElem?_eq_getElem hkl
      obtain ⟨x, hxe⟩ : ∃ x, x = place[k] := ⟨_, rfl⟩
      rw [← hxe] at hx
      obtain ⟨b, off, rfl, hob, hlb, hc0, hlo, hhi⟩ := (ha4.below hb).num_at hx
      obtain ⟨j, rfl, hj⟩ := downN_at HD.out hdm hx
      have hy : m.kids[j]? = some m.kids[j] := List.getElem?_eq_getElem hj
      have hnext : downN t.root (place.take (k + 1)) = some m.kids[j] := by rw [Nd.take_snoc hx, downN_snoc hdm, downN_one hj]
      obtain ⟨Am', cm', Bm', dm', he, hm1, hm2, hm3, hm4, hm5, hm6⟩ := hmv.form
      have he2 : Am = Am' ∧ cm = cm' ∧ Bm = Bm' ∧ dm = dm' := by simpa [and_assoc] using he
      obtain ⟨rfl, rfl, rfl, rfl⟩ := he2
      obtain ⟨y, hye⟩ : ∃ y, y = m.kids[j] := ⟨_, rfl⟩
      rw [← hye] at hy hnext
      obtain ⟨b2, off2, A7, c7, B8, c8, rfl, hob2, hlb3, r0, r1, r2, hny⟩ := hm6.node_at hy
      have r0 := bkeep hb r0
      have r1 := bkeep hb r1
      have r2 := bkeep hb r2
      have HX := Lib.hid hnext
      have HB := Lib.hid hbm
      have HZ := Lib.hid hbz
      have hjlt : (j : Int) < m.kids.length := by omega
      have hj0 : (0 : Int) ≤ (j : Int) := by omega
      have hk0 : (0 : Int) ≤ (k : Int) := by omega
      have hk1 : (k : Int) < (place.length : Int) := by omega
      clear hnext hye hy hx hxe hbm hbz he hdm hm6 hm3 hlo hhi x0 x1 x2 v0 v1 v2
      go_upto_block 1 with fail
      go_cut [] (fun wx => wx.heap[w.heap.size + 1 + 1]? = some (.cells #[.string y.name, .slice A7 y.props.length c7, .slice B8 y.kids.length c8] 32 (0, 0)) ∧ wx.heap[w.heap.size + 1]? = some (.cells #[.string ⟨#[]⟩, .slice none 0 0, .slice none 0 0] 32 (0, 0)) ∧ Below w.heap.size w wx)
      case first =>
        go_upto_region 5 with fail
        go_quiet (fail)
        go_upto_region 7 with fail
        go_region_law fail
        all_goals go_wp2_with fail
        all_goals go_meet
        all_goals exact ⟨bset3At HB.out _ _ _, bset3Far HZ.out (by omega) _ _ _, bset3 (bdrewN hb _) (by omega) _ _ _⟩
      case rest =>
        obtain ⟨hN2, hZ2, hb2⟩ := hcut
        go_wp2_with fail
        go_roundw
        case rel => exact ⟨k + 1, y, A7, c7, B8, c8, by omega, by go_num, HX.out, hny, hN2, hZ2, hb2⟩
        case measure => simp [intOf]; omega
    · obtain rfl : k = place.length := by omega
      rw [List.take_length, HD.out] at hdm
      injection hdm with hdm
      subst hdm
      have HZ := Lib.hid hbz
      go_wp2_with fail
      exact bodyPost_ret (v := .tuple #[.agg #[.string mm.name, .slice Am mm.props.length cm, .slice Bm mm.kids.length dm], .bool true]) (by simp [results, Tryz.results63, go_sem, bcellAt (bset3At HZ.out (.string mm.name) (.slice Am mm.props.length cm) (.slice Bm mm.kids.length dm)) 0 rfl, bcellAt (bset3At HZ.out (.string mm.name) (.slice Am mm.props.length cm) (.slice Bm mm.kids.length dm)) 1 rfl, bcellAt (bset3At HZ.out (.string mm.name) (.slice Am mm.props.length cm) (.slice Bm mm.kids.length dm)) 2 rfl]) rfl ⟨_, rfl, hmv.below (bset3 hb (by omega) _ _ _), bset3 hb (by omega) _ _ _⟩
end Go.Proofs.YtdfknlhfdbbogaaGreatDoor
