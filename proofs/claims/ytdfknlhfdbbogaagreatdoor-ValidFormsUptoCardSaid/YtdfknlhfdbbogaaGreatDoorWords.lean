/-
  words: part, number, Get; prop: One. No condition.
-/
import Derived.Test.YtdfknlhfdbbogaaGreatDoorGet
import Derived.Laws.Bits64b
namespace Go.Proofs.YtdfknlhfdbbogaaGreatDoor
open Go.RowKit
set_option linter.unusedSimpArgs false
set_option linter.unusedVariables false
/-- The number of some bytes, the first the greatest. -/
def numN (l : List Int) : Nat := l.foldl (fun v c => v * 256 + c.toNat) 0
theorem numN_snoc (l : List Int) (c : Int) : numN (l ++ [c]) = numN l * 256 + c.toNat := by unfold numN; rw [List.foldl_append]; rfl
theorem numN_lt (l : List Int) (h : ∀ x ∈ l, 0 ≤ x ∧ x < 256) : numN l < 256 ^ l.length := by
  have H : ∀ (k : Nat), numN (l.take k) < 256 ^ k := by
    intro k
    induction k with
    | zero => simp [numN]
    | succ k ih =>
      rcases Nat.lt_or_ge k l.length with hk | hk
      · have hx : l[k]? = some l[k] := List.getElem?_eq_getElem hk
        have := h _ (List.mem_of_getElem? hx)
        rw [Nd.take_snoc hx, numN_snoc, Nat.pow_succ]
        omega
      · rw [List.take_of_length_le (by omega)]
        rw [List.take_of_length_le hk] at ih
        rw [Nat.pow_succ]
        omega
  have := H l.length
  rwa [List.take_length] at this
theorem or_byte (n y : Nat) (hn : n < 72057594037927936) (hy : y < 256) : bits .or .u64 (IntKind.u64.wrap ((n : Int) * 256)) (y : Int) = ((n * 256 + y : Nat) : Int) := by
  have h1 : IntKind.u64.wrap ((n : Int) * 256) = ((n * 256 : Nat) : Int) := by
    rw [IntKind.wrap_u64]
    omega
  rw [h1, bits_or_u64_nat _ _ (by omega) (by omega)]
  have := Nat.two_pow_add_eq_or_of_lt (i := 8) (b := y) (by omega) n
  rw [Nat.mul_comm n 256]
  rw [show (256 : Nat) * n = 2 ^ 8 * n from rfl, ← this]
theorem or_byte2 (n y : Nat) (hn : n < 72057594037927936) (hy : y < 256) : bits .or .u64 ((n : Int) * 256) (y : Int) = ((n * 256 + y : Nat) : Int) := by
  have h := or_byte n y hn hy
  have h1 : IntKind.u64.wrap ((n : Int) * 256) = (n : Int) * 256 := by
    rw [IntKind.wrap_u64]
    omega
  rwa [h1] at h
theorem addr_add (b off i : Nat) : (⟨b, off, none⟩ : Addr).add i = ⟨b, off + i, none⟩ := by unfold Addr.add; split <;> simp_all
/-- A part of a row of one-cell elements. -/
theorem SlA.sub {α : Type} {T : Ty α} (h1 : T.sz = 1) {w : World} {ok : Nat → Prop} {A : Option Addr} {xs : List α} (h : SlA T w ok A xs) (lo n : Nat) : SlA T w ok (A.map (·.add lo)) ((xs.drop lo).take n) := by
  obtain ⟨cells, hr, hc⟩ := h
  have hl := hr.1
  rw [h1, Nat.mul_one] at hl
  refine ⟨(cells.drop lo).take n, ⟨by rw [h1]; simp only [List.length_take, List.length_drop, Nat.mul_one, hl], fun j x hx => ?_⟩, fun hn => ?_⟩
  · rw [List.getElem?_take] at hx
    split at hx
    · rename_i hj
      rw [List.getElem?_drop] at hx
      have := hr.2 _ _ hx
      have he : chunk T.sz j ((cells.drop lo).take n) = chunk T.sz (lo + j) cells := by
        unfold chunk
        rw [h1, Nat.mul_one, Nat.mul_one]
        apply List.ext_getElem?
        intro i
        rw [List.getElem?_take, List.getElem?_take, List.getElem?_drop, List.getElem?_drop, List.getElem?_take, List.getElem?_drop]
        by_cases hi : i < 1
        · have : i = 0 := by omega
          subst this
          simp [hj]
        · rw [if_neg hi, if_neg hi]
      rw [he]
      exact this
    · cases hx
  · obtain ⟨b, off, rfl, hb, hlt, hcell⟩ := hc (by rintro rfl; simp at hn)
    refine ⟨b, off + lo, by rw [Option.map_some, addr_add], hb, hlt, fun j u hu => ?_⟩
    rw [List.getElem?_take] at hu
    split at hu
    · rw [List.getElem?_drop] at hu
      have := hcell _ _ hu
      rwa [← Nat.add_assoc] at this
    · cases hu
theorem number_walk (xs : List Int) (hx : xs.length ≤ 8) (w : World) (ok : Nat → Prop) (v : Value) (hv : Sl tByte w ok v xs) :
    Calls Tryz.prog 299 #[v] w fun e w' => e = .returned (.int .u64 (numN xs)) ∧ w' = w := by
  obtain ⟨A, c, rfl, hc, hl, ha⟩ := hv
  have hbd := ha.bounds
  go_enter Tryz.func299, Tryz.ntmps299
  go_wp2_with fail
  go_loopw [3, 8] (fun s i wr => ∃ (k : Nat), k ≤ xs.length ∧ i = .int .i64 k ∧ s = .int .u64 (numN (xs.take k)) ∧ wr = w) (fun _ i _ => xs.length - (intOf i).toNat)
  case atStart => exact ⟨0, by omega, rfl, rfl, rfl⟩
  case round =>
    obtain ⟨k, hk, rfl, rfl, rfl⟩ := hrel
    by_cases hkl : k < xs.length
    · have hx1 : xs[k]? = some xs[k] := List.getElem?_eq_getElem hkl
      obtain ⟨x, hxe⟩ : ∃ x, x = xs[k] := ⟨_, rfl⟩
      rw [← hxe] at hx1
      obtain ⟨b, off, rfl, hob, hlb, hc0, hlo, hhi⟩ := ha.num_at hx1
      obtain ⟨y, rfl⟩ := Int.eq_ofNat_of_zero_le hlo
      have hn : numN (xs.take k) < 72057594037927936 := by
        have := numN_lt (xs.take k) (fun x h => hbd x (List.mem_of_mem_take h))
        rw [List.length_take, Nat.min_eq_left hk] at this
        exact Nat.lt_of_lt_of_le this (Nat.pow_le_pow_right (by decide) (by omega : k ≤ 7))
      have hs : numN (xs.take (k + 1)) = numN (xs.take k) * 256 + y := by rw [Nd.take_snoc hx1, numN_snoc]; simp
      have ho := or_byte2 (numN (xs.take k)) y hn (by omega)
      rw [← hs] at ho
      have ho1 := Lib.hid ho
      clear hxe hx1 hlo ho hs
      go_wp2_with fail
      go_roundw
      case rel => exact ⟨k + 1, by omega, by go_num, by rw [ho1.out], trivial⟩
      case measure => simp [intOf]; omega
    · obtain rfl : k = xs.length := by omega
      rw [List.take_length]
      go_wp2_with fail
      go_ret
      exact ⟨rfl, rfl⟩
/-- So many bytes from a place on. -/
def partIn (at_ : Int) (n len : Nat) : Prop := 0 ≤ at_ ∧ at_ + n ≤ len
theorem part_walk (xs : List Int) (hx : xs.length ≤ 1073741824) (at_ : Int) (hlo : -9223372036854775808 ≤ at_) (hhi : at_ < 9223372036854775808) (n : Nat) (hn : 1 ≤ n) (hn8 : n ≤ 8) (w : World) (ok : Nat → Prop) (v : Value) (hv : Sl tByte w ok v xs) :
    Calls Tryz.prog 298 #[v, .int .i64 at_, .int .i64 n] w fun e w' => ∃ r, e = .returned r ∧ w' = w ∧
      ((partIn at_ n xs.length ∧ (∃ a c, r = .slice (some a) n c) ∧ Sl tByte w ok r ((xs.drop at_.toNat).take n)) ∨ (¬ partIn at_ n xs.length ∧ r = .slice none 0 0)) := by
  obtain ⟨A, c, rfl, hc, hl, ha⟩ := hv
  go_enter Tryz.func298, Tryz.ntmps298
  go_wp2_with fail
  all_goals go_ret
  · exact ⟨_, rfl, rfl, .inr ⟨by unfold partIn; omega, rfl⟩⟩
  · refine ⟨_, rfl, rfl, .inl ⟨by unfold partIn; omega, ?_⟩⟩
    have h1 : (at_ + (n : Int)).toNat - at_.toNat = n := by omega
    have hlen : ((xs.drop at_.toNat).take n).length = n := by simp only [List.length_take, List.length_drop]; omega
    have hsub := ha.sub rfl at_.toNat n
    show (∃ a c_1, Value.slice (Option.map (fun x => x.add at_.toNat) A) ((at_ + (n : Int)).toNat - at_.toNat) (c - at_.toNat) = .slice (some a) n c_1) ∧ Sl tByte w ok (Value.slice (Option.map (fun x => x.add at_.toNat) A) ((at_ + (n : Int)).toNat - at_.toNat) (c - at_.toNat)) _
    rw [h1]
    have hne : xs ≠ [] := by rintro rfl; simp at hlen; omega
    obtain ⟨b, off, hA, _⟩ := ha.choose_spec.2 hne
    refine ⟨⟨_, _, by rw [hA]; rfl⟩, Option.map (fun x => x.add at_.toNat) A, c - at_.toNat, by rw [hlen], by rw [hlen]; omega, by rw [hlen]; omega, hsub⟩
  · exact ⟨_, rfl, rfl, .inr ⟨by unfold partIn; omega, rfl⟩⟩
  · exact ⟨_, rfl, rfl, .inr ⟨by unfold partIn; omega, rfl⟩⟩
def cellAt (xs : List Int) (at_ : Int) (n : Nat) : Nat := if 0 ≤ at_ ∧ at_ + n ≤ xs.length then numN ((xs.drop at_.toNat).take n) else 0
def cellIn (xs : List Int) (at_ : Int) (n : Nat) : Bool := decide (0 ≤ at_ ∧ at_ + n ≤ xs.length)
theorem get32_walk (xs : List Int) (hx : xs.length ≤ 1073741824) (at_ : Int) (hlo : -9223372036854775808 ≤ at_) (hhi : at_ < 9223372036854775808) (w : World) (ok : Nat → Prop) (v : Value) (hv : Sl tByte w ok v xs) :
    Calls Tryz.prog 215 #[v, .int .i64 at_] w fun e w' => e = .returned (.tuple #[.int .u32 (cellAt xs at_ 4), .bool (cellIn xs at_ 4)]) ∧ w' = w := by
  have hp := part_walk xs hx at_ hlo hhi 4 (by decide) (by decide) w ok v hv
  have hnum := fun ys h v hv => number_walk ys h w ok v hv
  have hn0 := hnum [] (by decide) (.slice none 0 0) (Sl.nil 0 none)
  by_cases hin : partIn at_ 4 xs.length
  · have h1 : cellIn xs at_ 4 = true := decide_eq_true hin
    have h2 : cellAt xs at_ 4 = numN ((xs.drop at_.toNat).take 4) := if_pos hin
    rw [h1, h2]
    have hlt := numN_lt ((xs.drop at_.toNat).take 4) (fun x h => by obtain ⟨_, _, _, _, _, h3⟩ := hv; exact h3.bounds x (List.mem_of_mem_drop (List.mem_of_mem_take h)))
    have hlen : ((xs.drop at_.toNat).take 4).length ≤ 4 := by simp only [List.length_take]; omega
    have hlt2 : numN ((xs.drop at_.toNat).take 4) < 4294967296 := Nat.lt_of_lt_of_le hlt (Nat.pow_le_pow_right (by decide) hlen)
    obtain ⟨ys, hys⟩ : ∃ ys, ys = (xs.drop at_.toNat).take 4 := ⟨_, rfl⟩
    rw [← hys] at hlt2 hlen hp ⊢
    clear hlt hys h1 h2
    go_enter Tryz.func215, Tryz.ntmps215
    go_wp2_with (first
      | (go_at_call 298; refine hp.mono ?_; clear hp; rintro e w1 ⟨r, rfl, rfl, ⟨_, ⟨a, c, rfl⟩, hs⟩ | ⟨h, _⟩⟩; rotate_left; exact absurd hin h)
      | (go_at_call 299; refine (hnum ys (by omega) _ hs).mono ?_; rintro e w1 ⟨rfl, rfl⟩))
    go_ret2
    exact ⟨rfl, rfl⟩
  · have h1 : cellIn xs at_ 4 = false := decide_eq_false hin
    have h2 : cellAt xs at_ 4 = 0 := if_neg hin
    rw [h1, h2]
    go_enter Tryz.func215, Tryz.ntmps215
    go_wp2_with (first
      | (go_at_call 298; refine hp.mono ?_; clear hp; rintro e w1 ⟨r, rfl, rfl, ⟨h, _⟩ | ⟨_, rfl⟩⟩; exact absurd h hin)
      | (go_at_call 299; refine hn0.mono ?_; rintro e w1 ⟨rfl, rfl⟩))
    go_ret2
    exact ⟨rfl, rfl⟩
end Go.Proofs.YtdfknlhfdbbogaaGreatDoor
