/-
  tree: its functions, walked. No condition.
-/
import Derived.Test.YtdfknlhfdbbogaaGreatDoorNames
import Derived.Sort.OwnSorted
import Derived.Laws.StructEq
import Derived.Sort.KeysCollected
namespace Go.Proofs.YtdfknlhfdbbogaaGreatDoor
open Go.RowKit
set_option linter.unusedSimpArgs false
set_option linter.unusedVariables false
theorem count_walk (n : Nd) : n.size ≤ 1073741824 → ∀ (w : World) (ok : Nat → Prop) (v : Value), NdV w ok v n →
    Calls Tryz.prog 115 #[v] w fun e w' => e = .returned (.tuple #[.int .i64 n.nodes, .int .i64 n.nprops]) ∧ Below w.heap.size w w' := by
  induction n using Nd.ind with
  | h n ih =>
    intro hsz w ok v hv
    obtain ⟨A2, c2, A, c, rfl, hc2, hl2, ha2, hc, hl, ha⟩ := hv.form
    go_enter Tryz.func115, Tryz.ntmps115
    go_wp2_with fail
    go_quiet (fail)
    go_wp2_with fail
    go_loopw [4, 5, 16] (fun a b i wr => ∃ k : Nat, k ≤ n.kids.length ∧ i = .int .i64 k ∧ a = .int .i64 ((1 + Nd.nodesL (n.kids.take k) : Nat) : Int) ∧ b = .int .i64 ((n.props.length + Nd.npropsL (n.kids.take k) : Nat) : Int) ∧ Below w.heap.size w wr) (fun _ _ i _ => n.kids.length - (intOf i).toNat)
    case atStart => exact ⟨0, by omega, rfl, by simp [Nd.nodesL], by simp [Nd.npropsL], (by repeat (first | assumption | exact Below.refl _ _ | with_reducible refine bset ?_ (by simp) _ | with_reducible refine balloc ?_ _ | with_reducible refine bdrew ?_ | with_reducible refine bdrewN ?_ _ | with_reducible refine bstep ?_ (by assumption)))⟩
    case round =>
      obtain ⟨k, hk, rfl, rfl, rfl, hb⟩ := hrel
      by_cases hkl : k < n.kids.length
      · have hx : n.kids[k]? = some n.kids[k] := List.getElem?_eq_getElem hkl
        obtain ⟨b, off, A3, c3, A4, c4, rfl, hob, hlb, hc0, hc1, hc2, hnv⟩ := (ha.below hb).node_at hx
        have hks := Nd.kid_size (List.getElem_mem hkl)
        have e1 := Nd.take_snoc hx
        have n1 : Nd.nodesL (n.kids.take k) + n.kids[k].nodes = Nd.nodesL (n.kids.take (k + 1)) := by rw [e1, Nd.nodesL_append]; simp [Nd.nodesL]
        have n2 : Nd.npropsL (n.kids.take k) + n.kids[k].nprops = Nd.npropsL (n.kids.take (k + 1)) := by rw [e1, Nd.npropsL_append]; simp [Nd.npropsL]
        have b1 := Nd.nodes_le n.kids[k]
        have b2 := Nd.nprops_le n.kids[k]
        have b3 : Nd.nodesL (n.kids.take k) ≤ Nd.nodesL n.kids := by rw [← List.take_append_drop k n.kids, Nd.nodesL_append]; simp
        have b4 : Nd.npropsL (n.kids.take k) ≤ Nd.npropsL n.kids := by rw [← List.take_append_drop k n.kids, Nd.npropsL_append]; simp
        have b5 := Nd.nodes_le n
        have b6 := Nd.nprops_le n
        rw [Nd.nodes_eq] at b5
        rw [Nd.nprops_eq] at b6
        clear e1
        go_wp2_with (first | (go_at_call 115; refine (ih _ (List.getElem_mem hkl) (by omega) _ ok _ (NdV.below hnv (by repeat (first | assumption | exact Below.refl _ _ | with_reducible refine bset ?_ (by simp) _ | with_reducible refine balloc ?_ _ | with_reducible refine bdrew ?_ | with_reducible refine bdrewN ?_ _ | with_reducible refine bstep ?_ (by assumption))))).mono ?_; rintro e w1 ⟨rfl, hb1⟩))
        go_roundw
        case rel => exact ⟨k + 1, by omega, by go_num, by go_num, by go_num, (by repeat (first | assumption | exact Below.refl _ _ | with_reducible refine bset ?_ (by simp) _ | with_reducible refine balloc ?_ _ | with_reducible refine bdrew ?_ | with_reducible refine bdrewN ?_ _ | with_reducible refine bstep ?_ (by assumption)))⟩
        case measure => simp [intOf]; omega
      · go_wp2_with fail

        go_ret2
        obtain rfl : k = n.kids.length := by omega
        rw [List.take_length, Nd.nodes_eq n, Nd.nprops_eq n]
        exact ⟨rfl, hb⟩

theorem names_walk (n : Nd) (hsz : n.size ≤ 1073741824) (w : World) (ok : Nat → Prop) (v : Value) (hv : NdV w ok v n) :
    Calls Tryz.prog 251 #[v] w fun e w' => ∃ v1 v2, e = .returned (.tuple #[v1, v2]) ∧ Row tStr 9 w' w.heap.size v1 (n.props.map (·.1)) ∧ Row tStr 9 w' w.heap.size v2 (n.kids.map (·.name)) ∧ (∀ k, v1.ownBlock = some k → v2.ownBlock ≠ some k) ∧ Below w.heap.size w w' := by
  obtain ⟨A2, c2, A, c, rfl, hc2, hl2, ha2, hc, hl, ha⟩ := hv.form
  have z1 := Nd.size_eq n
  have z2 := Nd.propsSize_length n.props
  have z3 := Nd.sizes_length n.kids
  go_enter Tryz.func251, Tryz.ntmps251
  go_wp2_with fail
  go_loopw [4, 13] (fun a i wr => ∃ k : Nat, k ≤ n.props.length ∧ i = .int .i64 k ∧ Row tStr 9 wr (w.heap.size + 1) a ((n.props.take k).map (·.1)) ∧ wr.heap[w.heap.size]? = some (.cells #[.string n.name, .slice A2 n.props.length c2, .slice A n.kids.length c] 32 (0, 0)) ∧ Below w.heap.size w wr) (fun _ i _ => n.props.length - (intOf i).toNat)
  case atStart => exact ⟨0, by omega, rfl, Own.nil, blast _ _ _ rfl, (by repeat (first | assumption | exact Below.refl _ _ | with_reducible refine bset ?_ (by simp) _ | with_reducible refine balloc ?_ _ | with_reducible refine bdrew ?_ | with_reducible refine bdrewN ?_ _ | with_reducible refine bstep ?_ (by assumption)))⟩
  case round =>
    obtain ⟨k, hk, rfl, hrow, hbox, hb⟩ := hrel
    have hlb := blockLt hbox
    by_cases hkl : k < n.props.length
    · have hx : n.props[k]? = some n.props[k] := List.getElem?_eq_getElem hkl
      obtain ⟨b, off, A3, c3, rfl, hob, hlb2, hc0, hc1, hc3, hl3, ha3⟩ := (ha2.below hb).prop_at hx
      go_wp2_with (first | (at_builtin; refine wpList_row1 rfl elStr _ _ rfl (hrow.below (by repeat (first | assumption | exact Below.refl _ _ | with_reducible refine bset ?_ (by simp) _ | with_reducible refine balloc ?_ _ | with_reducible refine bdrew ?_ | with_reducible refine bdrewN ?_ _ | with_reducible refine bstep ?_ (by assumption)))) rfl rfl (by first | exact blast _ _ _ (by simp) | simp) rep_str (by simp; omega) (by simp; omega) ?_; intro g cap w1 hrow1 hg1 hat1 hlt1))
      go_roundw
      case rel => exact ⟨k + 1, by omega, by go_num, by rw [Nd.take_snoc hx, List.map_append]; rw [List.length_map, List.length_take, Nat.min_eq_left hk] at hrow1; exact hrow1, gblock (bblock hbox (by repeat (first | assumption | exact Below.refl _ _ | with_reducible refine bset ?_ (by simp) _ | with_reducible refine balloc ?_ _ | with_reducible refine bdrew ?_ | with_reducible refine bdrewN ?_ _ | with_reducible refine bstep ?_ (by assumption)))) hg1 (hrow.ne (by omega)), bgrown (by repeat (first | assumption | exact Below.refl _ _ | with_reducible refine bset ?_ (by simp) _ | with_reducible refine balloc ?_ _ | with_reducible refine bdrew ?_ | with_reducible refine bdrewN ?_ _ | with_reducible refine bstep ?_ (by assumption))) hg1 (hrow.base (by omega))⟩
      case measure => simp [intOf]; omega
    · obtain rfl : k = n.props.length := by omega
      rw [List.take_length] at hrow
      have hc0 := bcellAt hbox 2 rfl
      go_wp2_with fail
      go_loopw [5, 26] (fun a i wr => ∃ k : Nat, k ≤ n.kids.length ∧ i = .int .i64 k ∧ Row tStr 9 wr (w.heap.size + 1) u4 (n.props.map (·.1)) ∧ Row tStr 9 wr (w.heap.size + 1) a ((n.kids.take k).map (·.name)) ∧ (∀ k, u4.ownBlock = some k → a.ownBlock ≠ some k) ∧ Below w.heap.size w wr ∧ w.heap.size < wr.heap.size) (fun _ i _ => n.kids.length - (intOf i).toNat)
      case atStart => exact ⟨0, by omega, rfl, hrow, Own.nil, fun k _ => by simp [Value.ownBlock], hb, hlb⟩
      case round =>
        clear hc0 hb hlb hrow hbox
        obtain ⟨k, hk, rfl, hrow, hrow2, hdis, hb, hlb⟩ := hrel
        by_cases hkl : k < n.kids.length
        · have hx : n.kids[k]? = some n.kids[k] := List.getElem?_eq_getElem hkl
          obtain ⟨b, off, A3, c3, A4, c4, rfl, hob, hlb2, hc0, hc1, hc2, hnv⟩ := (ha.below hb).node_at hx
          go_wp2_with (first | (at_builtin; refine wpList_row1 rfl elStr _ _ rfl (hrow2.below (by repeat (first | assumption | exact Below.refl _ _ | with_reducible refine bset ?_ (by simp) _ | with_reducible refine balloc ?_ _ | with_reducible refine bdrew ?_ | with_reducible refine bdrewN ?_ _ | with_reducible refine bstep ?_ (by assumption)))) rfl rfl (by first | exact blast _ _ _ (by simp) | simp) rep_str (by simp; omega) (by simp; omega) ?_; intro g cap w1 hrow1 hg1 hat1 hlt1))
          go_roundw
          case rel => 
            refine ⟨k + 1, by omega, by go_num, hrow.flatG flat_str (by repeat (first | assumption | exact Below.refl _ _ | with_reducible refine bset ?_ (by simp) _ | with_reducible refine balloc ?_ _ | with_reducible refine bdrew ?_ | with_reducible refine bdrewN ?_ _ | with_reducible refine bstep ?_ (by assumption))) hg1 hdis, by rw [Nd.take_snoc hx, List.map_append]; rw [List.length_map, List.length_take, Nat.min_eq_left hk] at hrow1; exact hrow1, ?_, bgrown (by repeat (first | assumption | exact Below.refl _ _ | with_reducible refine bset ?_ (by simp) _ | with_reducible refine balloc ?_ _ | with_reducible refine bdrew ?_ | with_reducible refine bdrewN ?_ _ | with_reducible refine bstep ?_ (by assumption))) hg1 (hrow2.base (by omega)), by have := hg1.size; simp at this; omega⟩
            intro k1 h1 h2
            simp [Value.ownBlock] at h2
            subst h2
            rcases hat1 with h3 | h3
            · exact hdis _ h1 h3
            · have := (hrow.lt _ h1).2
              simp at h3
              omega
          case measure => simp [intOf]; omega
        · obtain rfl : k = n.kids.length := by omega
          rw [List.take_length] at hrow2
          go_wp2_with fail
          go_ret2
          exact ⟨_, _, rfl, hrow.mono (by omega) (fun k h _ => by omega), hrow2.mono (by omega) (fun k h _ => by omega), hdis, hb⟩
theorem any_next {α : Type} {xs : List α} {k : Nat} {x : α} {f : α → Bool} (h : xs[k]? = some x) (ha : (xs.take k).any f = false) (hf : f x = false) : (xs.take (k + 1)).any f = false := by
  rw [Nd.take_snoc h, List.any_append, ha]
  simp [hf]
theorem any_hit {α : Type} {xs : List α} {k : Nat} {x : α} {f : α → Bool} (h : xs[k]? = some x) (hf : f x = true) : xs.any f = true := List.any_eq_true.2 ⟨x, List.mem_of_getElem? h, hf⟩
/-- Is one not so? the closure that tree.check hands on. -/
theorem notProp_walk (s : ByteArray) (hs : s.size ≤ 1073741824) (w : World) : Calls Tryz.prog 254 #[.string s] w fun e w' => e = .returned (.bool (!propB s)) ∧ w' = w := by
  go_enter Tryz.func254, Tryz.ntmps254
  go_wp2_with (first
    | (go_at_call 255; refine (prop_walk _ (by omega) _).mono ?_; rintro e w1 ⟨rfl, rfl⟩))
  go_ret
  exact ⟨rfl, rfl⟩
theorem badProp_index (xs : List ByteArray) (hx' : ∀ s ∈ xs, s.size ≤ 1073741824) (w : World) (ok : Nat → Prop) (v : Value) (hv : Sl tStr w ok v xs) :
    Calls Tryz.prog 308 #[v, .func (.func 254) #[] #[]] w fun e w' => ∃ r, e = .returned (.int .i64 r) ∧ decide (0 ≤ r) = xs.any (fun s => !propB s) ∧ w' = w := by
  obtain ⟨A, c, rfl, hc, hl, ha⟩ := hv
  go_enter Tryz.func308, Tryz.ntmps308
  go_wp2_with fail
  go_loopw [8] (fun i wr => ∃ k : Nat, k ≤ xs.length ∧ i = .int .i64 k ∧ (xs.take k).any (fun s => !propB s) = false ∧ wr = w) (fun i _ => xs.length - (intOf i).toNat)
  case atStart => exact ⟨0, by omega, rfl, rfl, rfl⟩
  case round =>
    obtain ⟨k, hk, rfl, hall, rfl⟩ := hrel
    have hall1 := Lib.hid hall
    clear hall
    by_cases hkl : k < xs.length
    · have hx : xs[k]? = some xs[k] := List.getElem?_eq_getElem hkl
      obtain ⟨b, off, rfl, hob, hlb2, hc0⟩ := ha.str_at hx
      have hsz := hx' _ (List.mem_of_getElem? hx)
      go_wp2_with (first
        | (go_at_call 254; refine (notProp_walk _ (by omega) _).mono ?_; rintro e w1 ⟨rfl, rfl⟩))
      · go_ret
        exact ⟨_, rfl, by rw [any_hit hx (by assumption)]; exact decide_eq_true (by omega), rfl⟩
      · go_roundw
        case rel => exact ⟨k + 1, by omega, by go_num, any_next hx hall1.out (by assumption), trivial⟩
        case measure => simp [intOf]; omega
    · obtain rfl : k = xs.length := by omega
      go_wp2_with fail
      go_ret
      refine ⟨_, rfl, ?_, rfl⟩
      have := hall1.out
      rw [List.take_length] at this
      rw [this]
      rfl
theorem badProp_walk (xs : List ByteArray) (hx : ∀ s ∈ xs, s.size ≤ 1073741824) (w : World) (ok : Nat → Prop) (v : Value) (hv : Sl tStr w ok v xs) :
    Calls Tryz.prog 253 #[v, .func (.func 254) #[] #[]] w fun e w' => e = .returned (.bool (xs.any (fun s => !propB s))) ∧ w' = w := by
  have hi := badProp_index xs hx w ok v hv
  go_enter Tryz.func253, Tryz.ntmps253
  go_wp2_with (first | (go_at_call 308; refine hi.mono ?_; clear hi; rintro e w1 ⟨r, rfl, hr, rfl⟩; have hr1 := Lib.hid hr; clear hr))
  go_ret
  exact ⟨by rw [← hr1.out]; rfl, rfl⟩
open Go.Sort Go.Proofs
/-- Is one there twice? -/
def twiceB (xs : List ByteArray) : Bool := decide (¬ xs.Nodup)
def lettersOf (xs : List ByteArray) : List (List UInt8) := xs.map (·.data.toList)
theorem letters_inj {a b : ByteArray} (h : a.data.toList = b.data.toList) : a = b := by
  cases a with | mk a => cases b with | mk b => simpa using h
theorem letters_nodup (xs : List ByteArray) : (lettersOf xs).Nodup ↔ xs.Nodup := by
  unfold lettersOf List.Nodup
  rw [List.pairwise_map]
  exact ⟨fun h => h.imp fun hab e => hab (by rw [e]), fun h => h.imp fun hab e => hab (letters_inj e)⟩
theorem keeps_all {d : List (List UInt8)} (h : (Lib.compact d).length = d.length) : ∀ j, j < d.length → Lib.keeps d.toArray j = true := by
  unfold Lib.compact Lib.compactUpTo at h
  rw [List.length_map] at h
  have h2 : (List.range d.length).filter (Lib.keeps d.toArray) = List.range d.length := by
    apply List.filter_eq_self.2
    have := List.length_filter_eq_length_iff.1 (by rw [h, List.length_range] : ((List.range d.length).filter (Lib.keeps d.toArray)).length = (List.range d.length).length)
    exact this
  intro j hj
  exact List.filter_eq_self.1 h2 j (List.mem_range.2 hj)
theorem twice_law (l : List (List UInt8)) : decide ((Lib.compact (l.mergeSort fun x y => decide (x ≤ y))).length < l.length) = decide (¬ l.Nodup) := by
  have hp : (l.mergeSort fun x y => decide (x ≤ y)).Perm l := List.mergeSort_perm ..
  have hs : (l.mergeSort fun x y => decide (x ≤ y)).Pairwise (fun x y => decide (x ≤ y) = true) := by
    apply List.pairwise_mergeSort
    · intro a b c h1 h2
      simp only [decide_eq_true_eq] at *
      exact List.le_trans h1 h2
    · intro a b
      rcases List.le_total a b with h | h <;> simp [h]
  rw [← hp.length_eq]
  generalize l.mergeSort (fun x y => decide (x ≤ y)) = d at *
  rw [Bool.eq_iff_iff]
  simp only [decide_eq_true_eq]
  have hle := Lib.compact_length_le d
  have hn : d.Nodup ↔ l.Nodup := hp.nodup_iff
  rw [← hn]
  constructor
  · intro h hd
    have : Lib.compact d = d := by
      apply Lib.compact_all
      intro j hj
      rcases Nat.eq_zero_or_pos j with rfl | h0
      · exact Lib.keeps_lt_one _ _ (by decide)
      · apply Lib.keeps_pos
        rw [getElem!_pos _ _ (by simpa using hj), getElem!_pos _ _ (by simp; omega)]
        simp only [List.getElem_toArray]
        intro e
        have := List.pairwise_iff_getElem.1 hd (j - 1) j (by omega) hj (by omega)
        exact this e.symm
    rw [this] at h
    omega
  · intro h
    rcases Nat.lt_or_ge (Lib.compact d).length d.length with h1 | h1
    · exact h1
    · exfalso
      apply h
      have hk := keeps_all (by omega : (Lib.compact d).length = d.length)
      apply List.pairwise_iff_getElem.2
      intro i j hi hj hij e
      have h1 := hk j hj
      simp only [Lib.keeps, decide_eq_true_eq] at h1
      rcases h1 with h1 | h1
      · omega
      · apply h1
        rw [getElem!_pos _ _ (by simpa using hj), getElem!_pos _ _ (by simp; omega)]
        simp only [List.getElem_toArray]
        have a1 : d[j - 1] ≤ d[j] := by simpa using List.pairwise_iff_getElem.1 hs (j - 1) j (by omega) hj (by omega)
        have a2 : d[i] ≤ d[j - 1] := by
          rcases Nat.lt_or_ge i (j - 1) with h2 | h2
          · simpa using List.pairwise_iff_getElem.1 hs i (j - 1) hi (by omega) h2
          · have : i = j - 1 := by omega
            subst this
            exact List.le_refl _
        rw [e] at a2
        exact (List.le_antisymm a1 a2).symm
theorem reps_str {w : World} {ok : Nat → Prop} {xs : List ByteArray} {cells : List Value} (h : Reps tStr w ok xs cells) : cells = (lettersOf xs).map encStr := by
  have hl := h.1
  apply List.ext_getElem?
  intro j
  rcases Nat.lt_or_ge j xs.length with hj | hj
  · have hr : chunk tStr.sz j cells = [.string xs[j]] := h.2 j _ (List.getElem?_eq_getElem hj)
    have : cells[j * tStr.sz + 0]? = some (.string xs[j]) := chunk_get (sz := tStr.sz) (by rw [hr]; rfl)
    simp only [tStr, Nat.mul_one, Nat.add_zero] at this
    rw [this]
    simp [lettersOf, hj, encStr]
  · rw [List.getElem?_eq_none (by simp [tStr] at hl; omega), List.getElem?_eq_none (by simp [lettersOf]; omega)]
theorem twice_walk (xs : List ByteArray) (hx : xs.length ≤ 1073741824) (w : World) (B : Nat) (v : Value) (hv : Row tStr 9 w B v xs) :
    Calls Tryz.prog 256 #[v] w fun e w' => e = .returned (.bool (twiceB xs)) ∧ w.grownBy w' v.ownBlock := by
  obtain ⟨cells, hown, hk, hr⟩ := hv
  obtain rfl := reps_str hr
  have hlen : (lettersOf xs).length = xs.length := by simp [lettersOf]
  have law : twiceB xs = decide ((Lib.compact ((lettersOf xs).mergeSort fun x y => decide (x ≤ y))).length < xs.length) := by
    have h1 := twice_law (lettersOf xs)
    rw [hlen] at h1
    rw [h1]
    unfold twiceB
    rw [Bool.eq_iff_iff]
    simp only [decide_eq_true_eq, letters_nodup]
  rcases hown.2 with ⟨rfl, hn⟩ | ⟨g, cap, cur, rfl, hbase, hb, h1, h2, h3, h4⟩
  · obtain rfl : xs = [] := List.eq_nil_of_length_eq_zero hn
    go_enter Tryz.func256, Tryz.ntmps256
    go_wp2_with (first
      | (go_at_call 309; refine (Tryz.slices_Sort_string_none _ _ _).mono ?_; rintro e w1 ⟨rfl, rfl⟩)
      | (go_at_call 310; refine (Tryz.slices_Compact_string_empty _ _ _).mono ?_; rintro e w1 ⟨rfl, rfl⟩))
    go_ret
    exact ⟨rfl, gbelow _ (Below.refl _ _)⟩
  · rw [law]
    clear law
    have hS := Tryz.slices_Sort_string g 0 cap (lettersOf xs) w (holds_of_block hb (by simpa [tStr, hlen] using h4)) (blockLt hb) (by omega)
    rw [hlen] at hS
    obtain ⟨d, hd⟩ : ∃ d, d = (lettersOf xs).mergeSort fun x y => decide (x ≤ y) := ⟨_, rfl⟩
    have hdl : d.length = xs.length := by rw [hd, List.length_mergeSort, hlen]
    rw [← hd] at hS
    rw [← hd]
    have hC : ∀ n os, Calls Tryz.prog 310 #[.slice (some ⟨g, 0, none⟩) xs.length cap] (grow (putRow encStr (Sort.ahead w n) g 0 d.toArray) os) fun e w' => e = .returned (.slice (some ⟨g, 0, none⟩) (Lib.compact d).length cap) ∧ w.grownBy w' (some g) := by
      intro n os
      have hb2 := heap_sorted (n := n) (os := os) d.toArray hb
      have ht := take_putCells cur d (by rw [h3]; simp [tStr]; omega)
      have := Tryz.slices_Compact_string g 0 cap d _ (holds_of_block hb2 ht) (by omega) (by omega)
      rw [hdl] at this
      refine this.mono ?_
      rintro e w1 ⟨rfl, q, rfl⟩
      refine ⟨rfl, World.grownBy.trans (grownBy_sorted (n := n) (os := os) d.toArray) ?_⟩
      have := grownBy_sorted (w := grow (putRow encStr (Sort.ahead w n) g 0 d.toArray) os) (g := g) (n := q) (os := #[]) (Lib.compact d ++ List.replicate (xs.length - (Lib.compact d).length) []).toArray
      rwa [grow_empty] at this
    have hcl := Lib.compact_length_le d
    clear hd
    go_enter Tryz.func256, Tryz.ntmps256
    go_wp2_with (first
      | (go_at_call 309; refine hS.mono ?_; clear hS; rintro e w1 ⟨rfl, n, os, rfl⟩)
      | (go_at_call 310; refine (hC _ _).mono ?_; clear hC; rintro e w1 ⟨rfl, hg1⟩))
    go_ret
    exact ⟨rfl, hg1⟩
/-- What is wrong with a node, and those below it. -/
def headE (d : Nat) (n : Nd) : Int :=
  if (16 : Int) < d then 6 else if ((d : Int) = 1 ∧ n.name.toList.isEmpty = false) ∨ (1 < (d : Int) ∧ nodeB n.name = false) then 5 else if (n.props.map (·.1)).any (fun s => !propB s) then 5 else if twiceB (n.props.map (·.1)) = true ∨ twiceB (n.kids.map (·.name)) = true then 9 else 0
mutual
def checkN (d : Nat) : Nd → Int
  | .mk a p ks => if headE d (.mk a p ks) ≠ 0 then headE d (.mk a p ks) else checkL (d + 1) ks
def checkL (d : Nat) : List Nd → Int
  | [] => 0
  | k :: r => if checkN d k ≠ 0 then checkN d k else checkL d r
end
theorem checkN_eq (d : Nat) (n : Nd) : checkN d n = if headE d n ≠ 0 then headE d n else checkL (d + 1) n.kids := by cases n; rw [checkN, Nd.kids_mk]
theorem checkL_stop {d : Nat} {l : List Nd} {k : Nat} {n : Nd} (h : l[k]? = some n) (ha : ∀ m ∈ l.take k, checkN d m = 0) (hn : checkN d n ≠ 0) : checkL d l = checkN d n := by
  induction l generalizing k with
  | nil => simp at h
  | cons a r ih =>
    rw [checkL]
    rcases k with _ | k
    · simp at h
      subst h
      rw [if_pos hn]
    · rw [if_neg (by simp [ha a (by simp)])]
      exact ih (by simpa using h) fun m hm => ha m (by simp [hm])
theorem checkL_zero {d : Nat} {l : List Nd} (ha : ∀ m ∈ l, checkN d m = 0) : checkL d l = 0 := by
  induction l with
  | nil => rfl
  | cons a r ih => rw [checkL, if_neg (by simp [ha a (by simp)])]; exact ih fun m hm => ha m (by simp [hm])
theorem all_snoc {α : Type} {P : α → Prop} {l : List α} {k : Nat} {x : α} (h : l[k]? = some x) (ha : ∀ m ∈ l.take k, P m) (hx : P x) : ∀ m ∈ l.take (k + 1), P m := by
  rw [Nd.take_snoc h]
  intro m hm
  rcases List.mem_append.1 hm with hm | hm
  · exact ha m hm
  · rw [List.mem_singleton.1 hm]; exact hx
theorem props_small {n : Nd} (h : n.size ≤ 1073741824) : ∀ s ∈ n.props.map (·.1), s.size ≤ 1073741824 := by
  intro s hs
  obtain ⟨p, hp, rfl⟩ := List.mem_map.1 hs
  have := Nd.propsSize_mem hp
  have := Nd.size_eq n
  omega
theorem check_walk (n : Nd) : n.size ≤ 1073741824 → ∀ (d : Nat), 1 ≤ d → d ≤ 17 → ∀ (w : World) (ok : Nat → Prop) (v : Value), NdV w ok v n → Wd w →
    Calls Tryz.prog 150 #[v, .int .i64 d] w fun e w' => e = .returned (.int .i64 (checkN d n)) ∧ Below w.heap.size w w' := by
  induction n using Nd.ind with
  | h n ih =>
    intro hsz d hd1 hd2 w ok v hv hw
    obtain ⟨A2, c2, A, c, rfl, hc2, hl2, ha2, hc, hl, ha⟩ := hv.form
    have hps := props_small hsz
    have z1 := Nd.size_eq n
    have z2 := Nd.propsSize_length n.props
    have z3 := Nd.sizes_length n.kids
    have hlp : (n.props.map (·.1)).length ≤ 1073741824 := by rw [List.length_map]; omega
    have hlk : (n.kids.map (·.name)).length ≤ 1073741824 := by rw [List.length_map]; omega
    obtain ⟨ps, hpe⟩ : ∃ ps, ps = n.props.map (·.1) := ⟨_, rfl⟩
    obtain ⟨ks, hke⟩ : ∃ ks, ks = n.kids.map (·.name) := ⟨_, rfl⟩
    obtain ⟨E, hE⟩ : ∃ E, E = checkN d n := ⟨_, rfl⟩
    rw [← hE]
    rw [checkN_eq] at hE
    have hE1 := Lib.hid hE
    clear hE
    have hh : headE d n = if (16 : Int) < d then 6 else if ((d : Int) = 1 ∧ n.name.toList.isEmpty = false) ∨ (1 < (d : Int) ∧ nodeB n.name = false) then 5 else if ps.any (fun s => !propB s) then 5 else if twiceB ps = true ∨ twiceB ks = true then 9 else 0 := by rw [hpe, hke]; rfl
    rw [← hpe] at hps hlp
    rw [← hke] at hlk
    have hN := fun w ok v hv => names_walk n hsz w ok v hv
    simp only [← hpe, ← hke] at hN
    clear hpe hke
    have hh1 := Lib.hid hh
    have hns : n.name.size ≤ 1073741824 := by omega
    have hkl : n.kids.length ≤ 1073741824 := by omega
    clear hh z1 z2 z3
    go_enter Tryz.func150, Tryz.ntmps150
    go_wp2_with (first
      | (go_at_call 251; refine (hN _ ok _ (hv.below (by repeat (first | assumption | exact Below.refl _ _ | with_reducible refine bset ?_ (by simp) _ | with_reducible refine balloc ?_ _ | with_reducible refine bdrew ?_ | with_reducible refine bdrewN ?_ _ | with_reducible refine bstep ?_ (by assumption))))).mono ?_; rintro e w1 ⟨v1, v2, rfl, hr1, hr2, hdis, hb1⟩; have hbox := bblock (blast w _ _ rfl) hb1; have hc0 := bcellAt hbox 0 rfl; have hbw := bstep (balloc (brefl w) _) hb1)
      | (go_at_call 252; refine (node_walk _ (by omega) _ (hw.below (by repeat (first | assumption | exact Below.refl _ _ | with_reducible refine bset ?_ (by simp) _ | with_reducible refine balloc ?_ _ | with_reducible refine bdrew ?_ | with_reducible refine bdrewN ?_ _ | with_reducible refine bstep ?_ (by assumption))))).mono ?_; rintro e w2 ⟨rfl, hb2⟩)
      | (go_at_call 253; refine (badProp_walk ps hps _ _ _ (Own.sl (hr1.below (by repeat (first | assumption | exact Below.refl _ _ | with_reducible refine bset ?_ (by simp) _ | with_reducible refine balloc ?_ _ | with_reducible refine bdrew ?_ | with_reducible refine bdrewN ?_ _ | with_reducible refine bstep ?_ (by assumption)))))).mono ?_; rintro e w3 ⟨rfl, rfl⟩)
      | (go_at_call 256; refine (twice_walk ps hlp _ _ v1 (hr1.below (by repeat (first | assumption | exact Below.refl _ _ | with_reducible refine bset ?_ (by simp) _ | with_reducible refine balloc ?_ _ | with_reducible refine bdrew ?_ | with_reducible refine bdrewN ?_ _ | with_reducible refine bstep ?_ (by assumption))))).mono ?_; rintro e w4 ⟨rfl, hg4⟩; replace hr2 := hr2.flatG flat_str (by repeat (first | assumption | exact Below.refl _ _ | with_reducible refine bset ?_ (by simp) _ | with_reducible refine balloc ?_ _ | with_reducible refine bdrew ?_ | with_reducible refine bdrewN ?_ _ | with_reducible refine bstep ?_ (by assumption))) hg4 (fun k h1 h2 => hdis k h2 h1); replace hbox := gblock (bblock hbox (by repeat (first | assumption | exact Below.refl _ _ | with_reducible refine bset ?_ (by simp) _ | with_reducible refine balloc ?_ _ | with_reducible refine bdrew ?_ | with_reducible refine bdrewN ?_ _ | with_reducible refine bstep ?_ (by assumption)))) hg4 (hr1.ne (by simp)); replace hbw := bgrown (bstep hbw (by repeat (first | assumption | exact Below.refl _ _ | with_reducible refine bset ?_ (by simp) _ | with_reducible refine balloc ?_ _ | with_reducible refine bdrew ?_ | with_reducible refine bdrewN ?_ _ | with_reducible refine bstep ?_ (by assumption)))) hg4 (hr1.base (by simp)); have hlt4 := blockLt hbox; clear hr1 hdis hc0 hb1 hg4)
      | (go_at_call 256; refine (twice_walk ks hlk _ _ v2 hr2).mono ?_; rintro e w5 ⟨rfl, hg5⟩; replace hbox := gblock hbox hg5 (hr2.ne (by simp)); replace hbw := bgrown hbw hg5 (hr2.base (by simp)); have hc2 := bcellAt hbox 2 rfl; clear hr2 hg5))
    all_goals (first
      | (go_ret; refine ⟨?_, (by repeat (first | assumption | exact Below.refl _ _ | with_reducible refine bset ?_ (by simp) _ | with_reducible refine balloc ?_ _ | with_reducible refine bdrew ?_ | with_reducible refine bdrewN ?_ _ | with_reducible refine bstep ?_ (by assumption)))⟩; show Ending.returned (Value.int _ _) = .returned (.int _ _); congr 2; have h1 := hh1.out; have h2 := hE1.out; clear hh1 hE1 ih hN; grind)
      | skip)
    all_goals (
      have hd16 : d ≤ 16 := by omega
      have hE2 : E = checkL (d + 1) n.kids := by
        have h1 := hh1.out
        have h2 := hE1.out
        clear hh1 hE1 ih hN
        grind
      clear hh1 hE1 hN hbox hc2
      obtain ⟨d1, hd3⟩ : ∃ d1, d1 = d + 1 := ⟨_, rfl⟩
      have ih2 := fun k hk hs => ih k hk hs (d + 1) (by omega) (by omega)
      rw [← hd3] at hE2
      have ih2 : ∀ k ∈ n.kids, k.size ≤ 1073741824 → ∀ (w : World) (ok : Nat → Prop) (v : Value), NdV w ok v k → Wd w → ∀ D : Int, D = (d : Int) + 1 → Calls Tryz.prog 150 #[v, .int .i64 D] w fun e w' => e = .returned (.int .i64 (checkN d1 k)) ∧ Below w.heap.size w w' := by
        intro k hk hs w ok v h1 h2 D hD
        rw [hd3, hD]
        have := ih k hk hs (d + 1) (by omega) (by omega) w ok v h1 h2
        simpa only [Int.natCast_add, Int.cast_ofNat_Int] using this
      clear ih hd3
      (repeat (rename (@Eq Bool _ _) => hq; clear hq))
      have hE3 := Lib.hid hE2
      clear hE2
      go_loopw [47] (fun i wr => ∃ k : Nat, k ≤ n.kids.length ∧ i = .int .i64 k ∧ (∀ m ∈ n.kids.take k, checkN d1 m = 0) ∧ Below w.heap.size w wr) (fun i _ => n.kids.length - (intOf i).toNat)
      case atStart => exact ⟨0, by omega, rfl, by simp, hbw⟩
      case round =>
        clear hbw
        obtain ⟨k, hk, rfl, hall, hb⟩ := hrel
        have hall1 := Lib.hid hall
        clear hall
        by_cases hkl : k < n.kids.length
        · have hx : n.kids[k]? = some n.kids[k] := List.getElem?_eq_getElem hkl
          obtain ⟨b, off, A3, c3, A4, c4, rfl, hob, hlb, hc0, hc1, hc2, hnv⟩ := (ha.below hb).node_at hx
          have hks := Nd.kid_size (List.getElem_mem hkl)
          go_wp2_with (first | (go_at_call 150; refine (ih2 _ (List.getElem_mem hkl) (by omega) _ ok _ (hnv.below (by repeat (first | assumption | exact Below.refl _ _ | with_reducible refine bset ?_ (by simp) _ | with_reducible refine balloc ?_ _ | with_reducible refine bdrew ?_ | with_reducible refine bdrewN ?_ _ | with_reducible refine bstep ?_ (by assumption)))) (hw.below (by repeat (first | assumption | exact Below.refl _ _ | with_reducible refine bset ?_ (by simp) _ | with_reducible refine balloc ?_ _ | with_reducible refine bdrew ?_ | with_reducible refine bdrewN ?_ _ | with_reducible refine bstep ?_ (by assumption)))) _ (by omega)).mono ?_; rintro e w1 ⟨rfl, hb1⟩))
          · go_ret
            have h1 := checkL_stop hx hall1.out (by first | assumption | (intro h2; simp_all))
            exact ⟨by rw [hE3.out, h1]; rfl, (by repeat (first | assumption | exact Below.refl _ _ | with_reducible refine bset ?_ (by simp) _ | with_reducible refine balloc ?_ _ | with_reducible refine bdrew ?_ | with_reducible refine bdrewN ?_ _ | with_reducible refine bstep ?_ (by assumption)))⟩
          · go_roundw
            case rel => first | exact ⟨k + 1, by omega, by go_num, all_snoc hx hall1.out (by first | assumption | simp_all), (by repeat (first | assumption | exact Below.refl _ _ | with_reducible refine bset ?_ (by simp) _ | with_reducible refine balloc ?_ _ | with_reducible refine bdrew ?_ | with_reducible refine bdrewN ?_ _ | with_reducible refine bstep ?_ (by assumption)))⟩ | ((repeat apply Exists.intro); exact ⟨⟨k + 1, by omega, by go_num, all_snoc hx hall1.out (by first | assumption | simp_all), (by repeat (first | assumption | exact Below.refl _ _ | with_reducible refine bset ?_ (by simp) _ | with_reducible refine balloc ?_ _ | with_reducible refine bdrew ?_ | with_reducible refine bdrewN ?_ _ | with_reducible refine bstep ?_ (by assumption)))⟩, rfl⟩)
            case measure => simp [intOf]; omega
        · obtain rfl : k = n.kids.length := by omega
          have hall2 := hall1.out
          rw [List.take_length] at hall2
          have h1 := checkL_zero hall2
          have hE4 : E = 0 := hE3.out.trans h1
          clear hall2 h1
          go_wp2_with fail
          go_ret
          exact ⟨by rw [hE4]; rfl, by assumption⟩)
theorem SlA.res_at {w : World} {ok : Nat → Prop} {A : Option Addr} {xs : List (Int × Int)} {j : Nat} {x : Int × Int} (h : SlA tRes w ok A xs) (hx : xs[j]? = some x) : ∃ b off, A = some ⟨b, off, none⟩ ∧ ok b ∧ b < w.heap.size ∧
    w.cell? ⟨b, off + j * 2, none⟩ = some (.int .u64 x.1) ∧ w.cell? ⟨b, off + j * 2 + 1, none⟩ = some (.int .u64 x.2) ∧ 0 ≤ x.1 ∧ x.1 < 18446744073709551616 ∧ 0 ≤ x.2 ∧ x.2 < 18446744073709551616 := by
  obtain ⟨b, off, cs, rfl, hb, hlt, ⟨ds, es, rfl, ⟨rfl, h1, h2⟩, rfl, h3, h4⟩, hc⟩ := h.at hx
  exact ⟨b, off, rfl, hb, hlt, hc 0 _ rfl, hc 1 _ rfl, h1, h2, h3, h4⟩
theorem eqRes (a b c d : Int) (w : World) : (binOp .eql 130 (.agg #[.int .u64 a, .int .u64 b]) (.agg #[.int .u64 c, .int .u64 d])).run Tryz.prog w = .ok (.bool (a == c && b == d)) w := by
  have hS : Tryz.prog.underlying 130 = some (.struct (Tryz.prog.fieldsOf 130)) := by kernel_rfl
  have hp : Tryz.prog.stoodInHeld 130 = false := by kernel_rfl
  rw [run_eql_struct, show (10000 : Nat) = 9999 + 1 from rfl, run_equalIn_agg w 9999 130 _ _ hS hp]
  simp only [Program.fieldsOf, Tryz.underlying130]
  go_simp
  by_cases h1 : a = c <;> by_cases h2 : b = d <;> simp [h1, h2]
theorem guardRes : Tryz.prog.eqGuardType Tryz.prog.depth 130 = false := by kernel_rfl
def isNone (r : Int × Int) : Bool := decide (r.1 = 0 ∧ r.2 = 0)
set_option maxRecDepth 100000 in
theorem resIndex_walk (xs : List (Int × Int)) (w : World) (ok : Nat → Prop) (v : Value) (hv : Sl tRes w ok v xs) :
    Calls Tryz.prog 257 #[v, .agg #[.int .u64 0, .int .u64 0]] w fun e w' => ∃ r, e = .returned (.int .i64 r) ∧ decide (0 ≤ r) = xs.any isNone ∧ Below w.heap.size w w' := by
  obtain ⟨A, c, rfl, hc, hl, ha⟩ := hv
  have he := eqRes
  have hgd := guardRes
  go_enter Tryz.func257, Tryz.ntmps257
  go_wp2_with fail
  go_loopw [8] (fun i wr => ∃ k : Nat, k ≤ xs.length ∧ i = .int .i64 k ∧ (xs.take k).any isNone = false ∧ wr.heap[w.heap.size]? = some (.cells #[.int .u64 0, .int .u64 0] 130 (0, 0)) ∧ Below w.heap.size w wr) (fun i _ => xs.length - (intOf i).toNat)
  case atStart => exact ⟨0, by omega, rfl, rfl, blast _ _ _ rfl, (by repeat (first | assumption | exact Below.refl _ _ | with_reducible refine bset ?_ (by simp) _ | with_reducible refine balloc ?_ _ | with_reducible refine bdrew ?_ | with_reducible refine bdrewN ?_ _ | with_reducible refine bstep ?_ (by assumption)))⟩
  case round =>
    obtain ⟨k, hk, rfl, hall, hbox, hb⟩ := hrel
    have hall1 := Lib.hid hall
    clear hall
    by_cases hkl : k < xs.length
    · have hx : xs[k]? = some xs[k] := List.getElem?_eq_getElem hkl
      obtain ⟨b, off, rfl, hob, hlb2, hc0, hc1, h1, h2, h3, h4⟩ := (ha.below hb).res_at hx
      obtain ⟨p, q, hpq⟩ : ∃ p q, xs[k] = (p, q) := ⟨_, _, rfl⟩
      rw [hpq] at hc0 hc1 hx
      simp only at hc0 hc1
      clear hpq h1 h2 h3 h4
      have hd0 := bcellAt hbox 0 rfl
      have hd1 := bcellAt hbox 1 rfl
      go_wp2_with fail
      go_quiet (fail)
      go_wp2_with fail
      · have hf : isNone (p, q) = true := by
          have h : (0 == p) = true ∧ (0 == q) = true := by assumption
          simp only [beq_iff_eq] at h
          simp [isNone, ← h.1, ← h.2]
        go_ret
        exact ⟨_, rfl, by rw [any_hit hx hf]; exact decide_eq_true (by omega), bdrewN hb _⟩
      · have hf : isNone (p, q) = false := by
          have h : (0 == p) = false ∨ (0 == q) = false := by assumption
          simp only [beq_eq_false_iff_ne] at h
          simp only [isNone, decide_eq_false_iff_not]
          omega
        go_roundw
        case rel => exact ⟨k + 1, by omega, by go_num, any_next hx hall1.out hf, hbox, bdrewN hb _⟩
        case measure => simp [intOf]; omega
    · obtain rfl : k = xs.length := by omega
      go_wp2_with fail
      go_ret
      refine ⟨_, rfl, ?_, hb⟩
      have := hall1.out
      rw [List.take_length] at this
      rw [this]
      rfl
theorem resContains_walk (xs : List (Int × Int)) (w : World) (ok : Nat → Prop) (v : Value) (hv : Sl tRes w ok v xs) :
    Calls Tryz.prog 151 #[v, .agg #[.int .u64 0, .int .u64 0]] w fun e w' => e = .returned (.bool (xs.any isNone)) ∧ Below w.heap.size w w' := by
  have hi := fun w1 (h : Below w.heap.size w w1) => resIndex_walk xs w1 ok v (hv.below h)
  go_enter Tryz.func151, Tryz.ntmps151
  go_wp2_with (first | (go_at_call 257; refine (hi _ (by repeat (first | assumption | exact Below.refl _ _ | with_reducible refine bset ?_ (by simp) _ | with_reducible refine balloc ?_ _ | with_reducible refine bdrew ?_ | with_reducible refine bdrewN ?_ _ | with_reducible refine bstep ?_ (by assumption)))).mono ?_; clear hi; rintro e w1 ⟨r, rfl, hr, hb1⟩; have hr1 := Lib.hid hr; clear hr))
  go_ret
  exact ⟨by rw [← hr1.out]; rfl, (by repeat (first | assumption | exact Below.refl _ _ | with_reducible refine bset ?_ (by simp) _ | with_reducible refine balloc ?_ _ | with_reducible refine bdrew ?_ | with_reducible refine bdrewN ?_ _ | with_reducible refine bstep ?_ (by assumption)))⟩
/-- What is wrong with a tree. -/
def checkT (t : Tr) : Int :=
  if checkN 1 t.root ≠ 0 then checkN 1 t.root else if 4096 < t.root.nodes ∨ 8192 < t.root.nprops ∨ 64 < t.res.length ∨ t.res.any isNone = true then 7 else 0
theorem checkT_a {t : Tr} (h : (checkN 1 t.root != 0) = true) : checkT t = checkN 1 t.root := by unfold checkT; rw [if_pos (by simpa using h)]
theorem checkT_b {t : Tr} (h : (checkN 1 t.root != 0) = false) (h2 : ((((4096 : Int) < t.root.nodes) ∨ (8192 : Int) < t.root.nprops) ∨ (64 : Int) < t.res.length) ∨ t.res.any isNone = true) : checkT t = 7 := by
  unfold checkT
  rw [if_neg (by simpa using h), if_pos]
  rcases h2 with ((h2 | h2) | h2) | h2
  · left; omega
  · right; left; omega
  · right; right; left; omega
  · right; right; right; exact h2
theorem checkT_c {t : Tr} (h : (checkN 1 t.root != 0) = false) (h2 : ((((t.root.nodes : Int) ≤ 4096) ∧ (t.root.nprops : Int) ≤ 8192) ∧ (t.res.length : Int) ≤ 64) ∧ t.res.any isNone = false) : checkT t = 0 := by
  unfold checkT
  rw [if_neg (by simpa using h), if_neg]
  rintro (h3 | h3 | h3 | h3)
  · omega
  · omega
  · omega
  · rw [h2.2] at h3; cases h3
theorem TrV.root {w : World} {ok : Nat → Prop} {t : Tr} {vp vk : Value} (h2 : Sl tPr w ok vp t.root.props) (h3 : Sl tNd w ok vk t.root.kids) : NdV w ok (.agg #[.string t.root.name, vp, vk]) t.root := ⟨vp, vk, rfl, h2, h3⟩
theorem checkT_walk (t : Tr) (hsz : t.root.size ≤ 1073741824) (w : World) (ok : Nat → Prop) (v : Value) (hv : TrV w ok v t) (hw : Wd w) :
    Calls Tryz.prog 67 #[v] w fun e w' => e = .returned (.int .i64 (checkT t)) ∧ Below w.heap.size w w' := by
  obtain ⟨vr, vp, vk, rfl, h0, h00, h1, h2, h3⟩ := hv
  have hn := TrV.root (t := t) h2 h3
  obtain ⟨A1, c1, rfl, hc1, hl1, ha1⟩ := h1
  obtain ⟨A2, c2, rfl, hc2, hl2, ha2⟩ := h2
  obtain ⟨A3, c3, rfl, hc3, hl3, ha3⟩ := h3
  have hs : Sl tRes w ok (.slice A1 t.res.length c1) t.res := ⟨A1, c1, rfl, hc1, hl1, ha1⟩
  obtain ⟨E, hE⟩ : ∃ E, E = checkT t := ⟨_, rfl⟩
  rw [← hE]
  have hE1 := Lib.hid hE
  clear hE
  go_enter Tryz.func67, Tryz.ntmps67
  go_wp2_with (first
    | (go_at_call 150; refine (check_walk t.root hsz 1 (by decide) (by decide) _ ok _ (hn.below (by repeat (first | assumption | exact Below.refl _ _ | with_reducible refine bset ?_ (by simp) _ | with_reducible refine balloc ?_ _ | with_reducible refine bdrew ?_ | with_reducible refine bdrewN ?_ _ | with_reducible refine bstep ?_ (by assumption)))) (hw.below (by repeat (first | assumption | exact Below.refl _ _ | with_reducible refine bset ?_ (by simp) _ | with_reducible refine balloc ?_ _ | with_reducible refine bdrew ?_ | with_reducible refine bdrewN ?_ _ | with_reducible refine bstep ?_ (by assumption))))).mono ?_; rintro e w1 ⟨rfl, hb1⟩; have hbox := bblock (blast w _ _ rfl) hb1; have hbw := bstep (balloc (brefl w) _) hb1; have d1 := bcellAt hbox 1 rfl; have d2 := bcellAt hbox 2 rfl; have d3 := bcellAt hbox 3 rfl; have d4 := bcellAt hbox 4 rfl)
    | (go_at_call 115; refine (count_walk t.root hsz _ ok _ (hn.below (by repeat (first | assumption | exact Below.refl _ _ | with_reducible refine bset ?_ (by simp) _ | with_reducible refine balloc ?_ _ | with_reducible refine bdrew ?_ | with_reducible refine bdrewN ?_ _ | with_reducible refine bstep ?_ (by assumption))))).mono ?_; rintro e w2 ⟨rfl, hb2⟩; replace hbox := bblock hbox hb2; replace hbw := bstep hbw hb2; replace d1 := bcellAt hbox 1 rfl)
    | (go_at_call 151; refine (resContains_walk t.res _ ok _ (hs.below (by repeat (first | assumption | exact Below.refl _ _ | with_reducible refine bset ?_ (by simp) _ | with_reducible refine balloc ?_ _ | with_reducible refine bdrew ?_ | with_reducible refine bdrewN ?_ _ | with_reducible refine bstep ?_ (by assumption))))).mono ?_; rintro e w3 ⟨rfl, hb3⟩))
  all_goals (first
    | (go_ret; refine ⟨?_, (by repeat (first | assumption | exact Below.refl _ _ | with_reducible refine bset ?_ (by simp) _ | with_reducible refine balloc ?_ _ | with_reducible refine bdrew ?_ | with_reducible refine bdrewN ?_ _ | with_reducible refine bstep ?_ (by assumption)))⟩; show Ending.returned (Value.int _ _) = .returned (.int _ _); congr 2; rw [hE1.out]; first | exact (checkT_a (by assumption)).symm | exact (checkT_b (by assumption) (by first | assumption | (left; right; assumption) | (left; left; right; assumption) | (left; left; left; assumption))).symm | exact (checkT_c (by assumption) (by assumption)).symm)
    )
end Go.Proofs.YtdfknlhfdbbogaaGreatDoor
