/-
  words.Text; prop: Cells, Wide, Text, Texts. No condition.
-/
import Derived.Test.YtdfknlhfdbbogaaGreatDoorPlaces
namespace Go.Proofs.YtdfknlhfdbbogaaGreatDoor
open Go.RowKit
set_option linter.unusedSimpArgs false
set_option linter.unusedVariables false
theorem elU32 : El tU32 263 27 4 := El.mk' (z := .int .u32 0) Tryz.underlying263 (by kernel_rfl) rfl
theorem cells4_length (b : List Int) : (cells4 b).length = b.length / 4 := by simp [cells4]
theorem cells4_get {b : List Int} {k : Nat} (h : k < b.length / 4) : (cells4 b)[k]? = some ((numN ((b.drop (4 * k)).take 4) : Nat) : Int) := by simp [cells4, h]
theorem cells_walk (xs : List Int) (hx : xs.length ≤ 1073741824) (w : World) (ok : Nat → Prop) (v : Value) (hv : Sl tByte w ok v xs) :
    Calls Tryz.prog 278 #[v] w fun e w' => ∃ v', e = .returned (.tuple #[v', .int .i64 (cellsM xs).2]) ∧ Row tU32 27 w' w.heap.size v' (cellsM xs).1 ∧ Below w.heap.size w w' := by
  have hv0 := hv
  obtain ⟨A, c, rfl, hc, hl, ha⟩ := hv
  have hbd := ha.bounds
  by_cases h4 : xs.length % 4 = 0
  · have hm : cellsM xs = (cells4 xs, 0) := by unfold cellsM; rw [if_neg (by omega)]
    rw [hm]
    clear hm
    have hget := fun (a : Int) (k : Nat) (h : a = 4 * (k : Int)) (hk : k < xs.length / 4) w1 (hb : Below w.heap.size w w1) => by
      have h1 := get32_walk xs hx a (by omega) (by omega) w1 ok _ (hv0.below hb)
      have h2 : cellIn xs a 4 = true := decide_eq_true (by omega)
      have h3 : cellAt xs a 4 = numN ((xs.drop (4 * k)).take 4) := by unfold cellAt; rw [if_pos (by omega), show a.toNat = 4 * k by omega]
      rw [h2, h3] at h1
      exact h1
    have hrange : ∀ k, k < xs.length / 4 → numN ((xs.drop (4 * k)).take 4) < 4294967296 := fun k hk => by
      have := numN_lt ((xs.drop (4 * k)).take 4) fun x h => hbd x (List.mem_of_mem_drop (List.mem_of_mem_take h))
      rwa [List.length_take, List.length_drop, Nat.min_eq_left (by omega)] at this
    have h4' := Lib.hid h4
    have hq : (((xs.length : Int) % 4) != 0) = false := by rw [bne_eq_false_iff_eq]; omega
    clear h4
    go_enter Tryz.func278, Tryz.ntmps278
    go_wp2_with fail
    · clear hq
      go_loopw [4, 5] (fun a i wr => ∃ k : Nat, k ≤ xs.length / 4 ∧ i = .int .i64 ((4 * k : Nat) : Int) ∧ Row tU32 27 wr w.heap.size a ((cells4 xs).take k) ∧ Below w.heap.size w wr) (fun _ i _ => xs.length - (intOf i).toNat)
      case atStart => exact ⟨0, by omega, rfl, Own.nil, (by repeat (first | assumption | exact Below.refl _ _ | with_reducible refine bset ?_ (by simp) _ | with_reducible refine balloc ?_ _ | with_reducible refine bdrew ?_ | with_reducible refine bdrewN ?_ _ | with_reducible refine bstep ?_ (by assumption)))⟩
      case round =>
        obtain ⟨k, hk, rfl, hrow, hb⟩ := hrel
        have hlen : ((cells4 xs).take k).length = k := by rw [List.length_take, cells4_length]; omega
        by_cases hkl : k < xs.length / 4
        · have hx1 := cells4_get hkl
          have hr := hrange k hkl
          obtain ⟨y, hy⟩ : ∃ y, y = numN ((xs.drop (4 * k)).take 4) := ⟨_, rfl⟩
          have hg := fun a h w1 hb => hget a k h hkl w1 hb
          rw [← hy] at hx1 hr
          simp only [← hy] at hg
          have hlt : 4 * k < xs.length := by omega
          have hx2 := Lib.hid hx1
          have hl2 := Lib.hid hlen
          clear hy hx1 hlen hget hrange
          go_wp2_with (first
            | (go_at_call 215; refine (hg _ (by omega) _ (by repeat (first | assumption | exact Below.refl _ _ | with_reducible refine bset ?_ (by simp) _ | with_reducible refine balloc ?_ _ | with_reducible refine bdrew ?_ | with_reducible refine bdrewN ?_ _ | with_reducible refine bstep ?_ (by assumption)))).mono ?_; rintro e w1 ⟨rfl, rfl⟩)
            | (at_builtin; refine wpList_row1 rfl elU32 _ _ rfl (hrow.below (by repeat (first | assumption | exact Below.refl _ _ | with_reducible refine bset ?_ (by simp) _ | with_reducible refine balloc ?_ _ | with_reducible refine bdrew ?_ | with_reducible refine bdrewN ?_ _ | with_reducible refine bstep ?_ (by assumption)))) rfl rfl (by first | exact blast _ _ _ (by simp) | simp) (rep_num (by omega) (by omega)) (by rw [hl2.out]; omega) (by have := hb.size; simp; omega) ?_; intro g cap w1 hrow1 hg1 hat1 hlt1))
          go_roundw
          case rel => exact ⟨k + 1, by omega, by go_num, by rw [Nd.take_snoc hx2.out]; rw [hl2.out] at hrow1; rw [show min k (cells4 xs).length = k by rw [cells4_length]; omega]; exact hrow1, bgrown (by repeat (first | assumption | exact Below.refl _ _ | with_reducible refine bset ?_ (by simp) _ | with_reducible refine balloc ?_ _ | with_reducible refine bdrew ?_ | with_reducible refine bdrewN ?_ _ | with_reducible refine bstep ?_ (by assumption))) hg1 (hrow.base (by omega))⟩
          case measure => simp [intOf]; omega
        · obtain rfl : k = xs.length / 4 := by omega
          have h5 := h4'.out
          have hge : ¬ 4 * (xs.length / 4) < xs.length := by omega
          rw [List.take_of_length_le (by rw [cells4_length]; omega)] at hrow
          clear hget hrange h5
          go_wp2_with fail
          go_ret2
          exact ⟨_, rfl, hrow, hb⟩
  · have hm : cellsM xs = ([], 4) := by unfold cellsM; rw [if_pos h4]
    rw [hm]
    clear hm
    have hq : (((xs.length : Int) % 4) != 0) = true := by rw [bne_iff_ne]; omega
    clear h4
    go_enter Tryz.func278, Tryz.ntmps278
    go_wp2_with fail
    go_ret2
    exact ⟨_, rfl, Own.nil, (by repeat (first | assumption | exact Below.refl _ _ | with_reducible refine bset ?_ (by simp) _ | with_reducible refine balloc ?_ _ | with_reducible refine bdrew ?_ | with_reducible refine bdrewN ?_ _ | with_reducible refine bstep ?_ (by assumption)))⟩
theorem or_word (n y : Nat) (hn : n < 4294967296) (hy : y < 4294967296) : bits .or .u64 ((n : Int) * 4294967296) (y : Int) = ((n * 4294967296 + y : Nat) : Int) := by
  have h1 : (n : Int) * 4294967296 = ((n * 4294967296 : Nat) : Int) := by omega
  rw [h1, bits_or_u64_nat _ _ (by omega) (by omega)]
  have := Nat.two_pow_add_eq_or_of_lt (i := 32) (b := y) (by omega) n
  rw [Nat.mul_comm n 4294967296]
  rw [show (4294967296 : Nat) * n = 2 ^ 32 * n from rfl, ← this]
theorem wideN_snoc (l : List Int) (c : Int) : wideN (l ++ [c]) = wideN l * 4294967296 + c := by unfold wideN; rw [List.foldl_append]; rfl
theorem wideN_lt (l : List Int) (h : ∀ x ∈ l, 0 ≤ x ∧ x < 4294967296) (h1 : l.length ≤ 1) : 0 ≤ wideN l ∧ wideN l < 4294967296 := by
  rcases l with _ | ⟨a, _ | ⟨b, r⟩⟩
  · decide
  · have := h a (by simp); simp [wideN]; omega
  · simp at h1
theorem wide_walk (xs : List Int) (hx : xs.length ≤ 2) (w : World) (ok : Nat → Prop) (v : Value) (hv : Sl tU32 w ok v xs) :
    Calls Tryz.prog 279 #[v] w fun e w' => e = .returned (.tuple #[.int .u64 (wideN xs), .int .i64 0]) ∧ w' = w := by
  obtain ⟨A, c, rfl, hc, hl, ha⟩ := hv
  have hbd := ha.bounds
  go_enter Tryz.func279, Tryz.ntmps279
  go_wp2_with fail
  go_loopw [4, 12] (fun s i wr => ∃ (k : Nat), k ≤ xs.length ∧ i = .int .i64 k ∧ s = .int .u64 (wideN (xs.take k)) ∧ wr = w) (fun _ i _ => xs.length - (intOf i).toNat)
  case atStart => exact ⟨0, by omega, rfl, rfl, rfl⟩
  case round =>
    obtain ⟨k, hk, rfl, rfl, rfl⟩ := hrel
    by_cases hkl : k < xs.length
    · have hx1 : xs[k]? = some xs[k] := List.getElem?_eq_getElem hkl
      obtain ⟨x, hxe⟩ : ∃ x, x = xs[k] := ⟨_, rfl⟩
      rw [← hxe] at hx1
      obtain ⟨b, off, rfl, hob, hlb, hc0, hlo, hhi⟩ := ha.num_at hx1
      obtain ⟨y, rfl⟩ := Int.eq_ofNat_of_zero_le hlo
      have hn := wideN_lt (xs.take k) (fun x h => hbd x (List.mem_of_mem_take h)) (by rw [List.length_take]; omega)
      have hs : wideN (xs.take (k + 1)) = wideN (xs.take k) * 4294967296 + y := by rw [Nd.take_snoc hx1, wideN_snoc]
      obtain ⟨n, hn2⟩ := Int.eq_ofNat_of_zero_le hn.1
      rw [hn2] at hs hn
      rw [hn2]
      have ho := or_word n y (by omega) (by omega)
      rw [show ((n * 4294967296 + y : Nat) : Int) = (n : Int) * 4294967296 + y by omega, ← hs] at ho
      have ho1 := Lib.hid ho
      have hn3 : n < 4294967296 := by omega
      clear hxe hx1 hlo ho hs hn2 hn
      go_wp2_with fail
      go_roundw
      case rel => exact ⟨k + 1, by omega, by go_num, by rw [ho1.out], trivial⟩
      case measure => simp [intOf]; omega
    · obtain rfl : k = xs.length := by omega
      rw [List.take_length]
      go_wp2_with fail
      go_ret2
      exact ⟨rfl, rfl⟩
theorem conv_str {w : World} {ok : Nat → Prop} {A : Option Addr} {c : Nat} {xs : List Int} (h : SlA tByte w ok A xs) : (convert 57 9 (.slice A xs.length c)).run Tryz.prog w = .ok (.string (strOfNums xs)) w := by
  by_cases hn : xs = []
  · subst hn
    rcases A with _ | a
    · exact run_convert_bytes_nil w 57 5 Tryz.underlying57 Tryz.underlying5 0 c 9 Tryz.underlying9
    · have hl : (loadCells a 0).run Tryz.prog w = .ok (([] : List Int).map (Value.int .u8)).toArray w := run_loadCells_list (P := Tryz.prog) w a [] fun j v hj => by simp at hj
      rw [run_convert_bytes_string w 57 9 5 _ _ c Tryz.underlying57 Tryz.underlying5 Tryz.underlying9]
      exact (run_bytesToString w a 0 c [] hl).trans rfl
  · obtain ⟨b, off, rfl, _⟩ := h.choose_spec.2 hn
    exact run_convert_bytes_arg w 57 5 Tryz.underlying57 Tryz.underlying5 b off _ c xs rfl h.byte_cells 9 Tryz.underlying9
theorem SlA.some_of {α : Type} {T : Ty α} {w : World} {ok : Nat → Prop} {A : Option Addr} {xs : List α} (h : SlA T w ok A xs) (hn : xs ≠ []) : ∃ b off, A = some ⟨b, off, none⟩ ∧ ok b ∧ b < w.heap.size := by
  obtain ⟨b, off, h1, h2, h3, _⟩ := h.choose_spec.2 hn
  exact ⟨b, off, h1, h2, h3⟩
theorem indexByte_walk (xs : List Int) (hn : xs ≠ []) (cv : Int) (w : World) (ok : Nat → Prop) (v : Value) (hv : Sl tByte w ok v xs) :
    Calls Tryz.prog 327 #[v, .int .u8 cv] w fun e w' => e = .returned (.int .i64 (Lib.indexByte (Lib.bytesOf xs) cv.toNat.toUInt8)) ∧ w' = w := by
  obtain ⟨A, c, rfl, hc, hl, ha⟩ := hv
  obtain ⟨b, off, rfl, _⟩ := ha.some_of hn
  refine Tryz.bytes_IndexByte_at _ xs.length c xs cv w rfl fun i hi => ?_
  rw [addr_add]
  exact ha.byte_cells i hi
theorem indexByte_lt (l : List UInt8) (c : UInt8) : -1 ≤ Lib.indexByte l c ∧ Lib.indexByte l c < l.length ∨ Lib.indexByte l c = -1 := by
  induction l with
  | nil => right; rfl
  | cons b r ih =>
    unfold Lib.indexByte
    split
    · left; simp
    · split
      · right; rfl
      · rename_i h1 h2
        have : Lib.indexByte r c ≠ -1 := by simpa using h2
        rcases ih with ih | ih
        · left; simp; omega
        · exact absurd ih this
/-- A part of a slice, from a place on. -/
theorem Sl.cut {α : Type} {T : Ty α} (h1 : T.sz = 1) {w : World} {ok : Nat → Prop} {A : Option Addr} {c : Nat} {xs : List α} (h : SlA T w ok A xs) (hc : xs.length ≤ c) (hl : xs.length ≤ 9223372036854775807) (lo n : Nat) (hln : lo + n ≤ xs.length) : Sl T w ok (.slice (A.map (·.add lo)) n (c - lo)) ((xs.drop lo).take n) := by
  have hlen : ((xs.drop lo).take n).length = n := by simp only [List.length_take, List.length_drop]; omega
  refine ⟨_, _, by rw [hlen], by rw [hlen]; omega, by rw [hlen]; omega, h.sub h1 lo n⟩
theorem txtAt_no {b : List Int} {a : Int} (h : a < 0 ∨ (b.length : Int) ≤ a) : txtAt b a = (⟨#[]⟩, false) := by unfold txtAt; rw [if_neg (by omega)]
set_option maxRecDepth 100000 in
theorem wtext_walk (xs : List Int) (hx : xs.length ≤ 1073741824) (at_ : Int) (hlo : -9223372036854775808 ≤ at_) (hhi : at_ < 9223372036854775808) (w : World) (ok : Nat → Prop) (v : Value) (hv : Sl tByte w ok v xs) :
    Calls Tryz.prog 300 #[v, .int .i64 at_] w fun e w' => e = .returned (.tuple #[.string (txtAt xs at_).1, .bool (txtAt xs at_).2]) ∧ w' = w := by
  obtain ⟨A, c, rfl, hc, hl, ha⟩ := hv
  by_cases hin : 0 ≤ at_ ∧ at_ < xs.length
  · obtain ⟨k, rfl⟩ := Int.eq_ofNat_of_zero_le hin.1
    have hk : k < xs.length := by omega
    have hsub := Sl.cut rfl ha hc hl k (xs.length - k) (by omega)
    have htk : (xs.drop k).take (xs.length - k) = xs.drop k := List.take_of_length_le (by simp)
    rw [htk] at hsub
    have hne : xs.drop k ≠ [] := by intro h; have := congrArg List.length h; simp at this; omega
    have hib := indexByte_walk (xs.drop k) hne 0 w ok _ hsub
    obtain ⟨b, off, rfl, _⟩ := ha.some_of (by rintro rfl; simp at hk)
    obtain ⟨i, hi⟩ : ∃ i, i = Lib.indexByte (Lib.bytesOf (xs.drop k)) 0 := ⟨_, rfl⟩
    have hilt := indexByte_lt (Lib.bytesOf (xs.drop k)) 0
    rw [← hi, Lib.bytesOf_length, List.length_drop] at hilt
    have hib2 : Calls Tryz.prog 327 #[.slice (some ⟨b, off + k, none⟩) (xs.length - k) (c - k), .int .u8 0] w fun e w' => e = .returned (.int .i64 i) ∧ w' = w := by
      rw [hi]
      simpa [addr_add] using hib
    have hT : txtAt xs (k : Int) = if 0 ≤ i then (strOfNums ((xs.drop k).take i.toNat), true) else (⟨#[]⟩, false) := by
      unfold txtAt
      rw [show ((k : Int)).toNat = k by omega, ← hi]
      by_cases h0 : 0 ≤ i
      · rw [if_pos ⟨by omega, by omega, h0⟩, if_pos h0]
      · rw [if_neg (by omega), if_neg h0]
    rw [hT]
    clear hib hi hT htk hsub hne hin hlo hhi
    have hcut := fun n (h : k + n ≤ xs.length) => Sl.cut (T := tByte) rfl ha hc hl k n h
    have hcv : ∀ n, k + n ≤ xs.length → (convert 57 9 (.slice (some ⟨b, off + k, none⟩) n (c - k))).run Tryz.prog w = .ok (.string (strOfNums ((xs.drop k).take n))) w := fun n h => by
      obtain ⟨A', c', he, _, _, ha'⟩ := hcut n h
      have h2 := conv_str (c := c') ha'
      rw [← he] at h2
      simpa [addr_add] using h2
    clear hcut ha
    by_cases h0 : 0 ≤ i
    · rw [if_pos h0]
      obtain ⟨j, rfl⟩ := Int.eq_ofNat_of_zero_le h0
      have hj : k + j ≤ xs.length := by omega
      have hcv1 := hcv j hj
      have e1 : IntKind.i64.wrap ((k : Int) + j) = (k : Int) + j := by rw [IntKind.wrap_i64]; omega
      have e2 : ((k : Int) + j).toNat - k = j := by omega
      clear hcv
      go_enter Tryz.func300, Tryz.ntmps300
      go_wp2_with (first
        | (go_at_call 327; refine hib2.mono ?_; rintro e w1 ⟨rfl, rfl⟩))
      all_goals (first | (go_ret2; exact ⟨by first | rfl | simp, rfl⟩) | skip)
    · rw [if_neg h0]
      clear hcv
      go_enter Tryz.func300, Tryz.ntmps300
      go_wp2_with (first
        | (go_at_call 327; refine hib2.mono ?_; rintro e w1 ⟨rfl, rfl⟩))
      all_goals (first | (go_ret2; exact ⟨by first | rfl | simp, rfl⟩) | skip)
  · rw [txtAt_no (by omega)]
    go_enter Tryz.func300, Tryz.ntmps300
    go_wp2_with fail
    all_goals go_ret2
    all_goals first | exact ⟨rfl, rfl⟩ | (exfalso; omega)
theorem txt_size (xs : List Int) : (txtAt xs 0).1.size ≤ xs.length := by
  unfold txtAt
  split
  · simp only [strOfNums_size, List.length_take, List.length_drop]; omega
  · show 0 ≤ _; omega
theorem text_walk (xs : List Int) (hx : xs.length ≤ 1073741824) (w : World) (ok : Nat → Prop) (v : Value) (hv : Sl tByte w ok v xs) :
    Calls Tryz.prog 259 #[v] w fun e w' => e = .returned (.tuple #[.string (textM xs).1, .int .i64 (textM xs).2]) ∧ w' = w := by
  have hw := wtext_walk xs hx 0 (by decide) (by decide) w ok v hv
  have hs := txt_size xs
  have hm : textM xs = if (txtAt xs 0).2 = true ∧ (txtAt xs 0).1.size + 1 = xs.length then ((txtAt xs 0).1, 0) else (⟨#[]⟩, 4) := rfl
  rw [hm]
  clear hm
  obtain ⟨s, f, hsf⟩ : ∃ s f, txtAt xs 0 = (s, f) := ⟨_, _, rfl⟩
  rw [hsf] at hw hs ⊢
  simp only at hw hs ⊢
  clear hsf
  obtain ⟨A, c, rfl, hc, hl, ha⟩ := hv
  cases f
  · rw [if_neg (by simp)]
    go_enter Tryz.func259, Tryz.ntmps259
    go_wp2_with (first | (go_at_call 300; refine hw.mono ?_; rintro e w1 ⟨rfl, rfl⟩))
    go_ret2
    exact ⟨rfl, rfl⟩
  · by_cases h : s.size + 1 = xs.length
    · rw [if_pos ⟨rfl, h⟩]
      have hq : (((s.size : Int) + 1) != (xs.length : Int)) = false := by rw [bne_eq_false_iff_eq]; omega
      clear h
      go_enter Tryz.func259, Tryz.ntmps259
      go_wp2_with (first | (go_at_call 300; refine hw.mono ?_; rintro e w1 ⟨rfl, rfl⟩))
      go_ret2
      exact ⟨rfl, rfl⟩
    · rw [if_neg (by simp [h])]
      have hq : (((s.size : Int) + 1) != (xs.length : Int)) = true := by rw [bne_iff_ne]; omega
      clear h
      go_enter Tryz.func259, Tryz.ntmps259
      go_wp2_with (first | (go_at_call 300; refine hw.mono ?_; rintro e w1 ⟨rfl, rfl⟩))
      go_ret2
      exact ⟨rfl, rfl⟩
theorem SlA.bytesIn {w : World} {ok : Nat → Prop} {A : Option Addr} {xs : List Int} (h : SlA tByte w ok A xs) : Lib.BytesIn w A xs.length xs := by
  by_cases hn : xs = []
  · subst hn; exact Lib.BytesIn.nil _ _ _
  · obtain ⟨b, off, rfl, _⟩ := h.some_of hn
    exact Lib.BytesIn.of_cells fun i hi => by rw [addr_add]; exact h.byte_cells i hi
/-- A new block of texts. -/
theorem sl_strings (w : World) (l : List ByteArray) (hl : l.length ≤ 9223372036854775807) : Sl tStr (w.alloc (.cells (l.map Value.string).toArray 9)) (w.heap.size ≤ ·) (.slice (some ⟨w.heap.size, 0, none⟩) l.length l.length) l := by
  refine ⟨_, _, rfl, Nat.le_refl _, hl, l.map Value.string, ⟨by simp [tStr], fun j x hx => ?_⟩, fun _ => ⟨_, _, rfl, Nat.le_refl _, by simp, fun j u hu => ?_⟩⟩
  · show _ = _
    apply List.ext_getElem?
    intro i
    unfold chunk
    rw [List.getElem?_take, List.getElem?_drop]
    simp only [tStr, Nat.mul_one]
    rcases i with _ | i
    · simp [hx]
    · simp
  · exact bcellAt (blast _ _ _ rfl) _ (by simpa using hu)
theorem splitB_length (sep : ByteArray) (k : Nat) : ∀ s, (Lib.splitB sep 0 k s).length ≤ k + 1 := by
  induction k with
  | zero => intro s; simp [Lib.splitB]
  | succ k ih =>
    intro s
    rw [Lib.splitB]
    split
    · simp
    · have := ih (s.extract ((Lib.indexB s sep).toNat + sep.size) s.size)
      simp only [List.length_cons]
      omega
theorem texts_walk (xs : List Int) (hx : xs.length ≤ 1073741824) (w : World) (hw : Wd w) (ok : Nat → Prop) (v : Value) (hv : Sl tByte w ok v xs) :
    Calls Tryz.prog 199 #[v] w fun e w' => ∃ v', e = .returned (.tuple #[v', .int .i64 (textsM xs).2]) ∧ Sl tStr w' (w.heap.size ≤ ·) v' (textsM xs).1 ∧ Below w.heap.size w w' := by
  have hv0 := hv
  obtain ⟨A, c, rfl, hc, hl, ha⟩ := hv
  by_cases h0 : xs = []
  · subst h0
    go_enter Tryz.func199, Tryz.ntmps199
    go_wp2_with fail
    go_ret2
    exact ⟨_, rfl, Sl.nil 0 none, (by repeat (first | assumption | exact Below.refl _ _ | with_reducible refine bset ?_ (by simp) _ | with_reducible refine balloc ?_ _ | with_reducible refine bdrew ?_ | with_reducible refine bdrewN ?_ _ | with_reducible refine bstep ?_ (by assumption)))⟩
  · have hlen : 0 < xs.length := by rcases xs with _ | _; exact absurd rfl h0; simp
    have hq : ((xs.length : Int) == 0) = false := by rw [beq_eq_false_iff_ne]; omega
    have hcut := fun (w1 : World) (hb : Below w.heap.size w w1) (b : Nat) (h : w1.cell? ⟨b, 0, none⟩ = some (.int .u8 0)) (cc : Nat) => Tryz.bytes_CutSuffix_all A (some ⟨b, 0, none⟩) xs.length c 1 cc xs [0] w1 rfl rfl hc hl (ha.below hb).bytesIn (Lib.BytesIn.of_cells fun i hi => by obtain rfl : i = 0 := (by omega); rw [addr_add]; exact h)
    obtain ⟨b0, off0, rfl, _⟩ := ha.some_of h0
    by_cases hs : Lib.hasSuffix (Lib.bytesOf xs) (Lib.bytesOf [0]) = true
    · have hm : textsM xs = (Lib.splitB ⟨#[0]⟩ 0 (Lib.countB (strOfNums xs.dropLast) ⟨#[0]⟩) (strOfNums xs.dropLast), 0) := by unfold textsM; rw [if_neg h0, if_pos (show Lib.hasSuffix (Lib.bytesOf xs) [0] = true from hs)]
      have hv1 : Lib.trimSuffixV (some ⟨b0, off0, none⟩) xs.length c xs [0] = .slice (some ⟨b0, off0, none⟩) (xs.length - 1) c := by
        unfold Lib.trimSuffixV Lib.bytesTrimSuffix
        simp only [hs, if_true]
        rfl
      rw [hm]
      simp only [hv1, hs] at hcut
      have hcv : ∀ w1, Below w.heap.size w w1 → (convert 57 9 (.slice (some ⟨b0, off0, none⟩) (xs.length - 1) c)).run Tryz.prog w1 = .ok (.string (strOfNums xs.dropLast)) w1 := fun w1 hb => by
        have h1 := Sl.cut (T := tByte) rfl (ha.below hb) hc hl 0 (xs.length - 1) (by omega)
        obtain ⟨A', c', he, _, _, ha'⟩ := h1
        have h2 := conv_str (c := c') ha'
        rw [← he, List.drop_zero, ← List.dropLast_eq_take] at h2
        simpa [addr_add] using h2
      obtain ⟨t, ht⟩ : ∃ t, t = strOfNums xs.dropLast := ⟨_, rfl⟩
      rw [← ht]
      simp only [← ht] at hcv
      have hts : t.size ≤ 1073741824 := by rw [ht, strOfNums_size]; simp; omega
      have hsp : ∀ w1, Below w.heap.size w w1 → Calls Tryz.prog 290 #[.string t, .string ⟨#[0]⟩] w1 fun e w' => e = .returned (.slice (some ⟨w1.heap.size, 0, none⟩) (Lib.countB t ⟨#[0]⟩ + 1) (Lib.countB t ⟨#[0]⟩ + 1)) ∧ w' = w1.alloc (.cells ((Lib.splitB ⟨#[0]⟩ 0 (Lib.countB t ⟨#[0]⟩) t).map Value.string).toArray 9) := fun w1 hb => by
        obtain ⟨m, hm⟩ := hw.below hb
        exact Tryz.strings_Split t ⟨#[0]⟩ m w1 (by omega) hm (by decide)
      have hcl := Lib.splitB_all ⟨#[0]⟩ (by decide) 0 (Lib.countB t ⟨#[0]⟩) t rfl
      have hcle := Lib.countB_le ⟨#[0]⟩ (by decide) t.size t (Nat.le_refl _)
      have HCV := Lib.hid hcv
      have HCL := Lib.hid hcl
      clear hm hv1 ht hs hcv hcl
      go_enter Tryz.func199, Tryz.ntmps199
      go_wp2_with (first
        | (go_at_call 289; refine (hcut _ (by repeat (first | assumption | exact Below.refl _ _ | with_reducible refine bset ?_ (by simp) _ | with_reducible refine balloc ?_ _ | with_reducible refine bdrew ?_ | with_reducible refine bdrewN ?_ _ | with_reducible refine bstep ?_ (by assumption))) _ (by simp) _).mono ?_; clear hcut; rintro e w1 ⟨rfl, rfl⟩; have hcv1 := HCV.out (w.alloc (.cells #[.int .u8 0] 5)) (by repeat (first | assumption | exact Below.refl _ _ | with_reducible refine bset ?_ (by simp) _ | with_reducible refine balloc ?_ _ | with_reducible refine bdrew ?_ | with_reducible refine bdrewN ?_ _ | with_reducible refine bstep ?_ (by assumption))))
        | (go_at_call 290; refine (hsp _ (by repeat (first | assumption | exact Below.refl _ _ | with_reducible refine bset ?_ (by simp) _ | with_reducible refine balloc ?_ _ | with_reducible refine bdrew ?_ | with_reducible refine bdrewN ?_ _ | with_reducible refine bstep ?_ (by assumption)))).mono ?_; clear hsp; rintro e w1 ⟨rfl, rfl⟩))
      go_ret2
      have hfin := sl_strings (w.alloc (.cells #[.int .u8 0] 5)) (Lib.splitB ⟨#[0]⟩ 0 (Lib.countB t ⟨#[0]⟩) t) (by rw [HCL.out]; omega)
      rw [HCL.out, World.size_alloc] at hfin
      exact ⟨_, rfl, Sl.mono (ok' := (w.heap.size ≤ ·)) hfin (fun k h _ => by have h2 : w.heap.size + 1 ≤ k := h; show w.heap.size ≤ k; omega), (by repeat (first | assumption | exact Below.refl _ _ | with_reducible refine bset ?_ (by simp) _ | with_reducible refine balloc ?_ _ | with_reducible refine bdrew ?_ | with_reducible refine bdrewN ?_ _ | with_reducible refine bstep ?_ (by assumption)))⟩
    · have hs : Lib.hasSuffix (Lib.bytesOf xs) (Lib.bytesOf [0]) = false := by simpa using hs
      have hm : textsM xs = ([], 4) := by unfold textsM; rw [if_neg h0, if_neg (by rw [show ([0] : List UInt8) = Lib.bytesOf [0] from rfl, hs]; simp)]
      rw [hm]
      simp only [hs] at hcut
      clear hm hs
      go_enter Tryz.func199, Tryz.ntmps199
      go_wp2_with (first
        | (go_at_call 289; refine (hcut _ (by repeat (first | assumption | exact Below.refl _ _ | with_reducible refine bset ?_ (by simp) _ | with_reducible refine balloc ?_ _ | with_reducible refine bdrew ?_ | with_reducible refine bdrewN ?_ _ | with_reducible refine bstep ?_ (by assumption))) _ (by simp) _).mono ?_; rintro e w1 ⟨rfl, rfl⟩))
      go_ret2
      exact ⟨_, rfl, Sl.nil 0 none, (by repeat (first | assumption | exact Below.refl _ _ | with_reducible refine bset ?_ (by simp) _ | with_reducible refine balloc ?_ _ | with_reducible refine bdrew ?_ | with_reducible refine bdrewN ?_ _ | with_reducible refine bstep ?_ (by assumption)))⟩
end Go.Proofs.YtdfknlhfdbbogaaGreatDoor
