/-
  name: letters, names of nodes and of properties, walked. No condition but the world's one number (bytealg.MaxLen's cell).
-/
import Derived.Test.YtdfknlhfdbbogaaGreatDoorApp
import Derived.Test.YtdfknlhfdbbogaaGreatDoorShelf
import Derived.Lib.IndexAny
namespace Go.Proofs.YtdfknlhfdbbogaaGreatDoor
open Go.RowKit
set_option linter.unusedSimpArgs false
set_option linter.unusedVariables false
/-- What the walks ask of the world: the cell of a number that the library reads. -/
def Wd (w : World) : Prop := ∃ m, w.cell? ⟨2, 0, none⟩ = some (.int .i64 m)
theorem Wd.below {w w1 : World} (h : Wd w) (hb : Below w.heap.size w w1) : Wd w1 := by
  obtain ⟨m, hm⟩ := h
  exact ⟨m, bkeep hb hm⟩

def letter (c : Int) : Bool := decide ((97 ≤ c ∧ c ≤ 122) ∨ (65 ≤ c ∧ c ≤ 90))
theorem letter_walk (c : Int) (w : World) : Calls Tryz.prog 307 #[.int .u8 c] w fun e w' => e = .returned (.bool (letter c)) ∧ w' = w := by
  go_enter Tryz.func307, Tryz.ntmps307
  go_wp2_with fail
  all_goals go_ret
  all_goals (refine ⟨?_, rfl⟩; show Ending.returned (Value.bool _) = .returned (.bool _); congr 2; rw [Bool.eq_iff_iff]; simp [letter]; omega)
def plainB (c : Int) : Bool := letter c || (decide (48 ≤ c ∧ c ≤ 57) || decide (0 ≤ Lib.indexByte ([44, 46, 95, 43, 45] : List UInt8) (UInt8.ofNat c.toNat)))
theorem plain_walk (c : Int) (w : World) : Calls Tryz.prog 331 #[.int .u8 c] w fun e w' => e = .returned (.bool (plainB c)) ∧ w' = w := by
  obtain ⟨l, hl⟩ : ∃ l, l = letter c := ⟨_, rfl⟩
  have hd : plainB c = (l || (decide (48 ≤ c ∧ c ≤ 57) || decide (0 ≤ Lib.indexByte ([44, 46, 95, 43, 45] : List UInt8) (UInt8.ofNat c.toNat)))) := by rw [hl]; rfl
  rw [hd]
  clear hd
  go_enter Tryz.func331, Tryz.ntmps331
  go_wp2_with (first
    | (go_at_call 307; refine (letter_walk c _).mono ?_; rintro e w1 ⟨rfl, rfl⟩; rw [← hl]; clear hl)
    | (go_at_call 332; refine (Tryz.strings_IndexByte _ c _).mono ?_; rintro e w1 ⟨rfl, rfl⟩))
  all_goals go_ret
  all_goals (refine ⟨?_, rfl⟩; show Ending.returned (Value.bool _) = .returned (.bool _); congr 2)
  all_goals (first | (simp [*]; done) | (have : ¬ (48 ≤ c ∧ c ≤ 57) := by omega
                                         simp [*]))
/-- A text's letters stand in names, or among those; it's of one letter at least, of 31 at most. -/
def fits (more : List UInt8) (c : UInt8) : Bool := plainB c.toNat || decide (0 ≤ Lib.indexByte more c)
def allB (s more : ByteArray) : Bool := s.data.toList.all (fits more.data.toList) && decide (1 ≤ s.size) && decide (s.size ≤ 31)
theorem bytes_at {s : ByteArray} {k : Nat} (h : k < s.size) : s.data.toList[k]? = some s[k] := by
  have : k < s.data.toList.length := by simpa using h
  rw [List.getElem?_eq_getElem this]
  rfl
theorem all_next {s : ByteArray} {k : Nat} {f : UInt8 → Bool} (h : k < s.size) (ha : (s.data.toList.take k).all f = true) (hf : f s[k] = true) : (s.data.toList.take (k + 1)).all f = true := by
  rw [Nd.take_snoc (bytes_at h), List.all_append, ha]
  simp [hf]
theorem all_stop {s more : ByteArray} {k : Nat} (h : k < s.size) (hf : fits more.data.toList s[k] = false) : allB s more = false := by
  have hm := List.mem_of_getElem? (bytes_at h)
  have : s.data.toList.all (fits more.data.toList) = false := by
    rw [List.all_eq_false]
    exact ⟨_, hm, by simp [hf]⟩
  simp [allB, this]
theorem all_walk (s more : ByteArray) (hs : s.size ≤ 1073741824) (w : World) : Calls Tryz.prog 306 #[.string s, .string more] w fun e w' => e = .returned (.bool (allB s more)) ∧ w' = w := by
  go_enter Tryz.func306, Tryz.ntmps306
  go_wp2_with fail
  go_loopw [8] (fun i wr => ∃ k : Nat, k ≤ s.size ∧ i = .int .i64 k ∧ (s.data.toList.take k).all (fits more.data.toList) = true ∧ wr = w) (fun i _ => s.size - (intOf i).toNat)
  case atStart => exact ⟨0, by omega, rfl, rfl, rfl⟩
  case round =>
    obtain ⟨k, hk, rfl, hall, rfl⟩ := hrel
    have hall1 := Lib.hid hall
    clear hall
    by_cases hkl : k < s.size
    · go_wp2_with (first
        | (go_at_call 331; refine (plain_walk _ _).mono ?_; rintro e w1 ⟨rfl, rfl⟩)
        | (go_at_call 332; refine (Tryz.strings_IndexByte _ _ _).mono ?_; rintro e w1 ⟨rfl, rfl⟩))
      · have hf : fits more.data.toList s[k] = true := by simp [fits]; left; assumption
        go_roundw
        case rel => exact ⟨k + 1, by omega, by go_num, all_next hkl hall1.out hf, trivial⟩
        case measure => simp [intOf]; omega
      · have hf : fits more.data.toList s[k] = false := by unfold fits; rw [Bool.or_eq_false_iff]; exact ⟨Bool.eq_false_iff.2 (by assumption), decide_eq_false (by omega)⟩
        go_ret
        exact ⟨by rw [all_stop hkl hf]; rfl, rfl⟩
      · have hf : fits more.data.toList s[k] = true := by simp [fits]; right; assumption
        go_roundw
        case rel => exact ⟨k + 1, by omega, by go_num, all_next hkl hall1.out hf, trivial⟩
        case measure => simp [intOf]; omega
    · obtain rfl : k = s.size := by omega
      have hall2 : s.data.toList.all (fits more.data.toList) = true := by
        have := hall1.out
        rwa [List.take_of_length_le (by rw [Array.length_toList]; exact Nat.le_refl _)] at this
      have hd : allB s more = (decide (1 ≤ s.size) && decide (s.size ≤ 31)) := by simp [allB, hall2]
      have hd1 := Lib.hid hd
      clear hall2 hd
      go_wp2_with fail
      all_goals go_ret
      all_goals (refine ⟨?_, rfl⟩; show Ending.returned (Value.bool _) = .returned (.bool _); rw [hd1.out]; congr 2; rw [Bool.eq_iff_iff]; simp; omega)
theorem allB_size {s more : ByteArray} (h : allB s more = true) : 0 < s.size ∧ s.size ≤ 31 := by
  simp [allB] at h
  omega
def cutAtB (s : ByteArray) : ByteArray × ByteArray × Bool := (⟨(Lib.cut s.data.toList [64]).1.toArray⟩, ⟨(Lib.cut s.data.toList [64]).2.1.toArray⟩, (Lib.cut s.data.toList [64]).2.2)
def first (s : ByteArray) : Int := ((s.data.toList.headD 0).toNat : Int)
theorem first_eq {s : ByteArray} (h : 0 < s.size) : first s = (s[0].toNat : Int) := by
  have := bytes_at h
  rw [← List.head?_eq_getElem?] at this
  simp only [first, List.headD_eq_head?_getD, this]
  rfl
theorem cut_at (s : ByteArray) (hs : s.size ≤ 1073741824) (w : World) (hw : Wd w) : Calls Tryz.prog 305 #[.string s, .string ⟨#[64]⟩] w fun e w' => e = .returned (.tuple #[.string (cutAtB s).1, .string (cutAtB s).2.1, .bool (cutAtB s).2.2]) ∧ Below w.heap.size w w' := by
  obtain ⟨m, hm⟩ := hw
  refine (Tryz.strings_Cut s ⟨#[64]⟩ m w (by omega) hm).mono ?_
  rintro e w1 ⟨rfl, n, rfl⟩
  exact ⟨rfl, bdrewN (Below.refl _ _) n⟩
/-- Nodes' names. -/
def nodeB (s : ByteArray) : Bool := allB (cutAtB s).1 ⟨#[]⟩ && (letter (first (cutAtB s).1) || decide (first (cutAtB s).1 = 95)) && (!(cutAtB s).2.2 || allB (cutAtB s).2.1 ⟨#[]⟩)
/-- Properties' names. -/
def propB (s : ByteArray) : Bool := allB s ⟨#[63, 35]⟩
theorem bsize (l : List UInt8) : (⟨l.toArray⟩ : ByteArray).size = l.length := by show l.toArray.size = _; exact List.size_toArray
theorem blen (s : ByteArray) : s.data.toList.length = s.size := Array.length_toList
theorem cutAtB_size (s : ByteArray) : (cutAtB s).1.size ≤ s.size ∧ (cutAtB s).2.1.size ≤ s.size := by
  have h := blen s
  simp only [cutAtB, Lib.cut]
  split
  · simp only [bsize, List.length_take, List.length_drop]; omega
  · simp only [bsize, List.length_nil]; omega
theorem node_walk (s : ByteArray) (hs : s.size ≤ 1073741824) (w : World) (hw : Wd w) : Calls Tryz.prog 252 #[.string s] w fun e w' => e = .returned (.bool (nodeB s)) ∧ Below w.heap.size w w' := by
  obtain ⟨z1, z2⟩ := cutAtB_size s
  obtain ⟨b, u, f, hc⟩ : ∃ b u f, cutAtB s = (b, u, f) := ⟨_, _, _, rfl⟩
  rw [hc] at z1 z2
  have hn : nodeB s = (allB b ⟨#[]⟩ && (letter (first b) || decide (first b = 95)) && (!f || allB u ⟨#[]⟩)) := by simp only [nodeB, hc]
  rw [hn]
  clear hn
  have hcut := cut_at s hs w hw
  rw [hc] at hcut
  clear hc
  obtain ⟨l, hl⟩ : ∃ l, l = allB b ⟨#[]⟩ := ⟨_, rfl⟩
  rw [← hl]
  have hl1 := Lib.hid hl
  have hz : l = true → 0 < b.size := fun h => (allB_size (hl ▸ h)).1
  clear hl
  by_cases hlt : l = true
  · subst hlt
    have hz := hz rfl
    have hf := first_eq hz
    go_enter Tryz.func252, Tryz.ntmps252
    go_wp2_with (first
      | (go_at_call 305; refine hcut.mono ?_; clear hcut; rintro e w1 ⟨rfl, hb1⟩)
      | (go_at_call 306; refine (all_walk _ _ (by omega) _).mono ?_; rintro e w1 ⟨rfl, rfl⟩; try rw [← hl1.out])
      | (go_at_call 307; refine (letter_walk _ _).mono ?_; rintro e w1 ⟨rfl, rfl⟩))
    all_goals go_ret
    all_goals (refine ⟨?_, by assumption⟩; show Ending.returned (Value.bool _) = .returned (.bool _); congr 2; rw [hf]; simp only [*]; try simp)
  · obtain rfl : l = false := by simpa using hlt
    clear hz hlt
    go_enter Tryz.func252, Tryz.ntmps252
    go_wp2_with (first
      | (go_at_call 305; refine hcut.mono ?_; clear hcut; rintro e w1 ⟨rfl, hb1⟩)
      | (go_at_call 306; refine (all_walk _ _ (by omega) _).mono ?_; rintro e w1 ⟨rfl, rfl⟩; try rw [← hl1.out]))
    all_goals go_ret
    all_goals (refine ⟨?_, by assumption⟩; rfl)
theorem prop_walk (s : ByteArray) (hs : s.size ≤ 1073741824) (w : World) : Calls Tryz.prog 255 #[.string s] w fun e w' => e = .returned (.bool (propB s)) ∧ w' = w := by
  go_enter Tryz.func255, Tryz.ntmps255
  go_wp2_with (first
    | (go_at_call 306; refine (all_walk _ _ (by omega) _).mono ?_; rintro e w1 ⟨rfl, rfl⟩))
  go_ret
  exact ⟨rfl, rfl⟩
end Go.Proofs.YtdfknlhfdbbogaaGreatDoor
