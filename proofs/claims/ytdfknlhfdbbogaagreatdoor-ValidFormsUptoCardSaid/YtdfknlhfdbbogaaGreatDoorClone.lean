/-
  Copies: bytes.Clone, slices.Clone of ints; a node's property; a node's copy. No condition.
-/
import Derived.Test.YtdfknlhfdbbogaaGreatDoorTree
namespace Go.Proofs.YtdfknlhfdbbogaaGreatDoor
open Go.RowKit
set_option linter.unusedSimpArgs false
set_option linter.unusedVariables false
theorem SlA.bounds {k : IntKind} {lo hi : Int} {w : World} {ok : Nat → Prop} {A : Option Addr} {xs : List Int} (h : SlA (tNum k lo hi) w ok A xs) : ∀ x ∈ xs, lo ≤ x ∧ x < hi := by
  intro x hx
  obtain ⟨j, hj⟩ := List.getElem?_of_mem hx
  obtain ⟨_, _, _, _, _, _, h1, h2⟩ := h.num_at hj
  exact ⟨h1, h2⟩
theorem reps_num {k : IntKind} {lo hi : Int} {w : World} {ok : Nat → Prop} {xs : List Int} (h : ∀ x ∈ xs, lo ≤ x ∧ x < hi) : Reps (tNum k lo hi) w ok xs (xs.map (Value.int k)) := by
  refine ⟨by simp [tNum], fun j x hx => ?_⟩
  have h1 := h x (List.mem_of_getElem? hx)
  refine ⟨?_, h1.1, h1.2⟩
  apply List.ext_getElem?
  intro i
  unfold chunk
  rw [List.getElem?_take, List.getElem?_drop]
  simp only [tNum, Nat.mul_one]
  rcases i with _ | i
  · simp [hx]
  · simp
theorem row_num {k : IntKind} {lo hi : Int} {e : TypeId} {w : World} {B : Nat} {v : Value} {xs : List Int} (h : ∀ x ∈ xs, lo ≤ x ∧ x < hi) (ho : w.ownsRow B e 1 v xs.length (xs.map (Value.int k))) : Row (tNum k lo hi) e w B v xs :=
  ⟨_, ho, fun k hk => (ho.lt k hk).1, reps_num h⟩
theorem SlA.byte_cells {k : IntKind} {lo hi : Int} {w : World} {ok : Nat → Prop} {b off : Nat} {xs : List Int} (h : SlA (tNum k lo hi) w ok (some ⟨b, off, none⟩) xs) : ∀ i, i < xs.length → w.cell? ⟨b, off + i, none⟩ = some (.int k (xs.getD i 0)) := by
  intro i hi
  obtain ⟨_, _, he, _, _, h1, _⟩ := h.num_at (List.getElem?_eq_getElem hi)
  cases he
  rw [List.getD_eq_getElem?_getD, List.getElem?_eq_getElem hi]
  exact h1
theorem bytesClone_walk (xs : List Int) (hx : xs.length ≤ 1073741824) (w : World) (ok : Nat → Prop) (v : Value) (hv : Sl tByte w ok v xs) :
    Calls Tryz.prog 274 #[v] w fun e w' => ∃ v', e = .returned v' ∧ Row tByte 5 w' w.heap.size v' xs ∧ Below w.heap.size w w' := by
  obtain ⟨A, c, rfl, hc, hl, ha⟩ := hv
  have hbd := ha.bounds
  rcases A with _ | a
  · have : xs = [] := Classical.byContradiction fun hn => by
      obtain ⟨_, _, h, _⟩ := ha.choose_spec.2 hn
      cases h
    subst this
    refine (Tryz.bytes_Clone_nil _ _ w).mono ?_
    rintro e w1 ⟨rfl, rfl⟩
    exact ⟨_, rfl, Own.nil, Below.refl _ _⟩
  · refine (Tryz.bytes_Clone_at a xs.length c xs w rfl (by omega) ?_).mono ?_
    · intro i hi
      obtain ⟨b, off, h, _⟩ := ha.choose_spec.2 (by rintro rfl; simp at hi)
      cases h
      have hadd : (⟨b, off, none⟩ : Addr).add i = ⟨b, off + i, none⟩ := by unfold Addr.add; split <;> simp_all
      rw [hadd]
      exact ha.byte_cells i hi
    · rintro e w1 ⟨v', rfl, ho, _, hb⟩
      exact ⟨v', rfl, row_num hbd ho, hb⟩
theorem intsClone_walk (xs : List Int) (hx : xs.length ≤ 1073741824) (w : World) (ok : Nat → Prop) (v : Value) (hv : Sl tInt w ok v xs) :
    Calls Tryz.prog 180 #[v] w fun e w' => ∃ v', e = .returned v' ∧ Row tInt 3 w' w.heap.size v' xs ∧ Below w.heap.size w w' := by
  obtain ⟨A, c, rfl, hc, hl, ha⟩ := hv
  have hbd := ha.bounds
  rcases A with _ | a
  · have : xs = [] := Classical.byContradiction fun hn => by
      obtain ⟨_, _, h, _⟩ := ha.choose_spec.2 hn
      cases h
    subst this
    refine (Tryz.slices_Clone_int_nil _ _ w).mono ?_
    rintro e w1 ⟨rfl, rfl⟩
    exact ⟨_, rfl, Own.nil, Below.refl _ _⟩
  · by_cases hn : xs = []
    · subst hn
      refine (Tryz.slices_Clone_int_zero a c w).mono ?_
      rintro e w1 ⟨v', rfl, ho, _, hb⟩
      exact ⟨v', rfl, row_num hbd ho, hb⟩
    · obtain ⟨b, off, h, _⟩ := ha.choose_spec.2 hn
      cases h
      refine (Tryz.slices_Clone_int b off xs.length c xs w (Nat.le_refl _) (by omega) ha.byte_cells).mono ?_
      rintro e w1 ⟨v', rfl, ho, _, hb⟩
      rw [List.take_length] at ho
      exact ⟨v', rfl, row_num hbd ho, hb⟩

theorem seq_true {a s : ByteArray} (h : (a.toList == s.toList) = true) : a = s := by
  rw [Go.ByteArray.toList_eq, Go.ByteArray.toList_eq] at h
  exact letters_inj (by simpa using h)
theorem seq_false {a s : ByteArray} (h : (a.toList == s.toList) = false) : a ≠ s := by
  rintro rfl
  simp at h
/-- A property's value. -/
def findP (s : ByteArray) : List Pr → Option (List Int)
  | [] => none
  | p :: r => if p.1 = s then some p.2 else findP s r
def Nd.find (n : Nd) (s : ByteArray) : Option (List Int) := findP s n.props
theorem findP_hit {s : ByteArray} {l : List Pr} {k : Nat} {p : Pr} (h : l[k]? = some p) (ha : ∀ q ∈ l.take k, q.1 ≠ s) (hp : p.1 = s) : findP s l = some p.2 := by
  induction l generalizing k with
  | nil => simp at h
  | cons a r ih =>
    rw [findP]
    rcases k with _ | k
    · simp at h
      subst h
      rw [if_pos hp]
    · rw [if_neg (ha a (by simp))]
      exact ih (by simpa using h) fun m hm => ha m (by simp [hm])
theorem findP_none {s : ByteArray} {l : List Pr} (ha : ∀ q ∈ l, q.1 ≠ s) : findP s l = none := by
  induction l with
  | nil => rfl
  | cons a r ih => rw [findP, if_neg (ha a (by simp))]; exact ih fun m hm => ha m (by simp [hm])
theorem findP_size {s : ByteArray} {l : List Pr} {b : List Int} (h : findP s l = some b) : b.length ≤ Nd.propsSize l := by
  induction l with
  | nil => cases h
  | cons a r ih =>
    rw [findP] at h
    split at h
    · injection h with h; subst h; simp only [Nd.propsSize]; omega
    · have := ih h; simp only [Nd.propsSize]; omega
theorem find_walk (n : Nd) (hsz : n.size ≤ 1073741824) (s : ByteArray) (w : World) (ok : Nat → Prop) (v : Value) (hv : NdV w ok v n) :
    Calls Tryz.prog 198 #[v, .string s] w fun e w' => ∃ v', e = .returned (.tuple #[v', .bool (n.find s).isSome]) ∧ Row tByte 5 w' w.heap.size v' ((n.find s).getD []) ∧ Below w.heap.size w w' := by
  obtain ⟨A2, c2, A, c, rfl, hc2, hl2, ha2, hc, hl, ha⟩ := hv.form
  have z1 := Nd.size_eq n
  obtain ⟨E, hE⟩ : ∃ E, E = n.find s := ⟨_, rfl⟩
  rw [← hE]
  have hE1 := Lib.hid hE
  clear hE
  go_enter Tryz.func198, Tryz.ntmps198
  go_wp2_with fail
  go_loopw [11] (fun i wr => ∃ k : Nat, k ≤ n.props.length ∧ i = .int .i64 k ∧ (∀ q ∈ n.props.take k, q.1 ≠ s) ∧ Below w.heap.size w wr) (fun i _ => n.props.length - (intOf i).toNat)
  case atStart => exact ⟨0, by omega, rfl, by simp, (by repeat (first | assumption | exact Below.refl _ _ | with_reducible refine bset ?_ (by simp) _ | with_reducible refine balloc ?_ _ | with_reducible refine bdrew ?_ | with_reducible refine bdrewN ?_ _ | with_reducible refine bstep ?_ (by assumption)))⟩
  case round =>
    obtain ⟨k, hk, rfl, hall, hb⟩ := hrel
    have hall1 := Lib.hid hall
    clear hall
    by_cases hkl : k < n.props.length
    · have hx : n.props[k]? = some n.props[k] := List.getElem?_eq_getElem hkl
      obtain ⟨b, off, A3, c3, rfl, hob, hlb2, hc0, hc1, hc3, hl3, ha3⟩ := (ha2.below hb).prop_at hx
      have hps := Nd.propsSize_mem (List.getElem_mem hkl)
      have hsl : Sl tByte wr ok (.slice A3 n.props[k].2.length c3) n.props[k].2 := ⟨A3, c3, rfl, hc3, hl3, ha3⟩
      go_wp2_with (first
        | (go_at_call 274; refine (bytesClone_walk _ (by omega) _ ok _ (hsl.below (by repeat (first | assumption | exact Below.refl _ _ | with_reducible refine bset ?_ (by simp) _ | with_reducible refine balloc ?_ _ | with_reducible refine bdrew ?_ | with_reducible refine bdrewN ?_ _ | with_reducible refine bstep ?_ (by assumption))))).mono ?_; rintro e w1 ⟨v1, rfl, hr1, hb1⟩))
      · have hq : n.props[k].1 = s := seq_true (by assumption)
        have hf : E = some n.props[k].2 := hE1.out.trans (findP_hit hx hall1.out hq)
        go_ret2
        rw [hf]
        exact ⟨_, rfl, hr1.mono (by have := hb.size; simp; omega) (fun k h _ => by have := hb.size; simp at h; omega), (by repeat (first | assumption | exact Below.refl _ _ | with_reducible refine bset ?_ (by simp) _ | with_reducible refine balloc ?_ _ | with_reducible refine bdrew ?_ | with_reducible refine bdrewN ?_ _ | with_reducible refine bstep ?_ (by assumption)))⟩
      · have hq : n.props[k].1 ≠ s := seq_false (by assumption)
        go_roundw
        case rel => exact ⟨k + 1, by omega, by go_num, all_snoc hx hall1.out hq, (by repeat (first | assumption | exact Below.refl _ _ | with_reducible refine bset ?_ (by simp) _ | with_reducible refine balloc ?_ _ | with_reducible refine bdrew ?_ | with_reducible refine bdrewN ?_ _ | with_reducible refine bstep ?_ (by assumption)))⟩
        case measure => simp [intOf]; omega
    · obtain rfl : k = n.props.length := by omega
      have hall2 := hall1.out
      rw [List.take_length] at hall2
      have hf : E = none := hE1.out.trans (findP_none hall2)
      clear hall2
      go_wp2_with fail
      go_ret2
      rw [hf]
      exact ⟨_, rfl, Own.nil, hb⟩
end Go.Proofs.YtdfknlhfdbbogaaGreatDoor
