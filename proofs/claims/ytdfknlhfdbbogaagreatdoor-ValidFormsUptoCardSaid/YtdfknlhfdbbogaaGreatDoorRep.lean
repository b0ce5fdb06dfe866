/-
  How lists, structs and trees read in memory: readings that stay under whatever leaves their blocks alone; rows of a call's own. No condition.
-/
import Derived.Test.YtdfknlhfdbbogaaGreatDoorBase
namespace Go.Proofs.YtdfknlhfdbbogaaGreatDoor
open Go.RowKit
set_option linter.unusedSimpArgs false
set_option linter.unusedVariables false

/-- How a value of Lean's reads: its cells; the blocks that it leads to are such as 'ok' lets in. -/
structure Ty (α : Type) where
  sz : Nat
  pos : 0 < sz
  rep : World → (Nat → Prop) → α → List Value → Prop
  len : ∀ {w ok x cs}, rep w ok x cs → cs.length = sz
  one : ∀ {w ok x cs}, rep w ok x cs → ∀ u ∈ cs, u.oneCell' = true
  move : ∀ {w w1 : World} {ok x cs}, rep w ok x cs → (∀ k, ok k → k < w.heap.size → w1.heap[k]? = w.heap[k]?) → rep w1 ok x cs
  mono : ∀ {w : World} {ok ok' : Nat → Prop} {x cs}, rep w ok x cs → (∀ k, ok k → k < w.heap.size → ok' k) → rep w ok' x cs

/-- The cells of element j. -/
def chunk (sz j : Nat) (cells : List Value) : List Value := (cells.drop (j * sz)).take sz
theorem chunk_get {sz j i : Nat} {cells : List Value} {u : Value} (h : (chunk sz j cells)[i]? = some u) : cells[j * sz + i]? = some u := by
  unfold chunk at h
  rw [List.getElem?_take] at h
  split at h
  · rwa [List.getElem?_drop] at h
  · cases h
theorem chunk_left {sz j n : Nat} {cells ds : List Value} (hl : cells.length = n * sz) (hj : j < n) : chunk sz j (cells ++ ds) = chunk sz j cells := by
  have h1 : (j + 1) * sz ≤ n * sz := Nat.mul_le_mul_right _ hj
  rw [Nat.add_mul, Nat.one_mul] at h1
  unfold chunk
  rw [List.drop_append_of_le_length (by omega), List.take_append_of_le_length (by rw [List.length_drop]; omega)]
theorem chunk_right {sz j n : Nat} {cells ds : List Value} (hl : cells.length = n * sz) : chunk sz (n + j) (cells ++ ds) = chunk sz j ds := by
  unfold chunk
  rw [Nat.add_mul, ← hl, List.drop_append]
  have : List.drop (cells.length + j * sz) cells = [] := List.drop_eq_nil_of_le (by omega)
  rw [this, List.nil_append]
  congr 2
  omega
theorem chunk_all {sz : Nat} {cs : List Value} (h : cs.length = sz) : chunk sz 0 cs = cs := by
  unfold chunk
  rw [Nat.zero_mul, List.drop_zero, List.take_of_length_le (by omega)]

section
variable {α : Type} {T : Ty α} {w w1 : World} {ok ok' : Nat → Prop} {xs ys : List α} {cells ds : List Value}
/-- The elements' cells, one behind the other. -/
def Reps (T : Ty α) (w : World) (ok : Nat → Prop) (xs : List α) (cells : List Value) : Prop :=
  cells.length = xs.length * T.sz ∧ ∀ j x, xs[j]? = some x → T.rep w ok x (chunk T.sz j cells)
theorem Reps.nil : Reps T w ok [] [] := ⟨by simp, fun j x h => by simp at h⟩
theorem Reps.move (h : Reps T w ok xs cells) (hm : ∀ k, ok k → k < w.heap.size → w1.heap[k]? = w.heap[k]?) : Reps T w1 ok xs cells :=
  ⟨h.1, fun j x hx => T.move (h.2 j x hx) hm⟩
theorem Reps.mono (h : Reps T w ok xs cells) (hm : ∀ k, ok k → k < w.heap.size → ok' k) : Reps T w ok' xs cells :=
  ⟨h.1, fun j x hx => T.mono (h.2 j x hx) hm⟩
theorem Reps.append (h : Reps T w ok xs cells) (k : Reps T w ok ys ds) : Reps T w ok (xs ++ ys) (cells ++ ds) := by
  refine ⟨by rw [List.length_append, List.length_append, Nat.add_mul, h.1, k.1], fun j x hx => ?_⟩
  rcases Nat.lt_or_ge j xs.length with hj | hj
  · rw [chunk_left h.1 hj]
    rw [List.getElem?_append_left hj] at hx
    exact h.2 j x hx
  · rw [List.getElem?_append_right hj] at hx
    have := chunk_right (sz := T.sz) (j := j - xs.length) (ds := ds) h.1
    rw [show xs.length + (j - xs.length) = j by omega] at this
    rw [this]
    exact k.2 _ x hx
theorem Reps.single {x : α} {cs : List Value} (h : T.rep w ok x cs) : Reps T w ok [x] cs := by
  refine ⟨by simp [T.len h], fun j y hy => ?_⟩
  rcases j with _ | j
  · simp at hy
    subst hy
    rw [chunk_all (T.len h)]
    exact h
  · simp at hy
theorem Reps.snoc {x : α} {cs : List Value} (h : Reps T w ok xs cells) (k : T.rep w ok x cs) : Reps T w ok (xs ++ [x]) (cells ++ cs) := h.append (Reps.single k)
theorem Reps.one (h : Reps T w ok xs cells) : ∀ u ∈ cells, u.oneCell' = true := by
  intro u hu
  obtain ⟨i, hi, rfl⟩ := List.mem_iff_getElem.1 hu
  have hp := T.pos
  have hl := h.1
  have hj : i / T.sz < xs.length := by
    rw [Nat.div_lt_iff_lt_mul hp]
    omega
  have hr := h.2 (i / T.sz) _ (List.getElem?_eq_getElem hj)
  have hm := Nat.mod_lt i hp
  have he := Nat.div_add_mod i T.sz
  have hc : (chunk T.sz (i / T.sz) cells)[i % T.sz]? = some cells[i] := by
    unfold chunk
    rw [List.getElem?_take, if_pos hm, List.getElem?_drop]
    have : i / T.sz * T.sz + i % T.sz = i := by rw [Nat.mul_comm]; exact he
    rw [this]
    exact List.getElem?_eq_getElem hi
  exact T.one hr _ (List.mem_of_getElem? hc)

/-- Where a slice's elements stand. -/
def SlA (T : Ty α) (w : World) (ok : Nat → Prop) (A : Option Addr) (xs : List α) : Prop :=
  ∃ cells, Reps T w ok xs cells ∧ (xs ≠ [] → ∃ b off, A = some ⟨b, off, none⟩ ∧ ok b ∧ b < w.heap.size ∧ ∀ j u, cells[j]? = some u → w.cell? ⟨b, off + j, none⟩ = some u)
/-- A slice that is read. -/
def Sl (T : Ty α) (w : World) (ok : Nat → Prop) (v : Value) (xs : List α) : Prop :=
  ∃ A c, v = .slice A xs.length c ∧ xs.length ≤ c ∧ xs.length ≤ 9223372036854775807 ∧ SlA T w ok A xs
theorem SlA.at {A : Option Addr} (h : SlA T w ok A xs) {j : Nat} {x : α} (hx : xs[j]? = some x) :
    ∃ b off cs, A = some ⟨b, off, none⟩ ∧ ok b ∧ b < w.heap.size ∧ T.rep w ok x cs ∧ ∀ i u, cs[i]? = some u → w.cell? ⟨b, off + (j * T.sz + i), none⟩ = some u := by
  obtain ⟨cells, hr, hc⟩ := h
  obtain ⟨b, off, rfl, hb, hlt, hcell⟩ := hc (by rintro rfl; simp at hx)
  exact ⟨b, off, _, rfl, hb, hlt, hr.2 j x hx, fun i u hu => hcell _ _ (chunk_get hu)⟩
theorem SlA.move {A : Option Addr} (h : SlA T w ok A xs) (hm : ∀ k, ok k → k < w.heap.size → w1.heap[k]? = w.heap[k]?) : SlA T w1 ok A xs := by
  obtain ⟨cells, hr, hc⟩ := h
  refine ⟨cells, hr.move hm, fun hn => ?_⟩
  obtain ⟨b, off, rfl, hb, hlt, hcell⟩ := hc hn
  have he := hm b hb hlt
  refine ⟨b, off, rfl, hb, ?_, fun j u hu => ?_⟩
  · have : (w1.heap[b]?).isSome := by rw [he]; simp [hlt]
    simpa using this
  · exact (World.cell?_of_block (a := ⟨b, off + j, none⟩) he).trans (hcell j u hu)
theorem SlA.mono {A : Option Addr} (h : SlA T w ok A xs) (hm : ∀ k, ok k → k < w.heap.size → ok' k) : SlA T w ok' A xs := by
  obtain ⟨cells, hr, hc⟩ := h
  refine ⟨cells, hr.mono hm, fun hn => ?_⟩
  obtain ⟨b, off, rfl, hb, hlt, hcell⟩ := hc hn
  exact ⟨b, off, rfl, hm b hb hlt, hlt, hcell⟩
theorem Sl.move {v : Value} (h : Sl T w ok v xs) (hm : ∀ k, ok k → k < w.heap.size → w1.heap[k]? = w.heap[k]?) : Sl T w1 ok v xs := by
  obtain ⟨A, c, rfl, hc, hl, ha⟩ := h
  exact ⟨A, c, rfl, hc, hl, ha.move hm⟩
theorem Sl.mono {v : Value} (h : Sl T w ok v xs) (hm : ∀ k, ok k → k < w.heap.size → ok' k) : Sl T w ok' v xs := by
  obtain ⟨A, c, rfl, hc, hl, ha⟩ := h
  exact ⟨A, c, rfl, hc, hl, ha.mono hm⟩
theorem SlA.below {A : Option Addr} (h : SlA T w ok A xs) (hb : Below w.heap.size w w1) : SlA T w1 ok A xs := h.move fun k _ hk => hb.block k hk
theorem Sl.below {v : Value} (h : Sl T w ok v xs) (hb : Below w.heap.size w w1) : Sl T w1 ok v xs := h.move fun k _ hk => hb.block k hk
theorem Sl.nil (c : Nat) (A : Option Addr) : Sl T w ok (.slice A 0 c) [] := ⟨A, c, rfl, by simp, by simp, [], Reps.nil, fun h => absurd rfl h⟩

/-- A row of the call's own: elements of type e; what they lead to is not the row itself. -/
def Own (T : Ty α) (e : TypeId) (w : World) (base : Nat) (ok : Nat → Prop) (v : Value) (xs : List α) : Prop :=
  ∃ cells, w.ownsRow base e T.sz v xs.length cells ∧ (∀ k, v.ownBlock = some k → ok k) ∧ Reps T w (fun k => ok k ∧ some k ≠ v.ownBlock) xs cells
variable {e : TypeId} {base base' : Nat} {v : Value}
theorem Own.nil : Own T e w base ok (.slice none 0 0) [] := ⟨[], World.ownsRow_nil _ _ _ _, fun k hk => by simp [Value.ownBlock] at hk, Reps.nil⟩
theorem Own.lt (h : Own T e w base ok v xs) : ∀ k, v.ownBlock = some k → base ≤ k ∧ k < w.heap.size := by
  obtain ⟨cells, h, _⟩ := h
  exact h.lt
theorem ownsRow_move {size n : Nat} (h : w.ownsRow base e size v n cells) (hm : ∀ k, v.ownBlock = some k → w1.heap[k]? = w.heap[k]?) : w1.ownsRow base e size v n cells := by
  obtain ⟨h1, h2⟩ := h
  refine ⟨h1, ?_⟩
  rcases h2 with h2 | ⟨g, cap, cur, rfl, hg, hh, r⟩
  · exact .inl h2
  · exact .inr ⟨g, cap, cur, rfl, hg, (hm g (by simp [Value.ownBlock])).trans hh, r⟩
theorem ownsRow_lower {size n : Nat} (h : w.ownsRow base e size v n cells) (hb : base' ≤ base) : w.ownsRow base' e size v n cells := by
  obtain ⟨h1, h2⟩ := h
  refine ⟨h1, ?_⟩
  rcases h2 with h2 | ⟨g, cap, cur, rfl, hg, r⟩
  · exact .inl h2
  · exact .inr ⟨g, cap, cur, rfl, Nat.le_trans hb hg, r⟩
theorem Own.move (h : Own T e w base ok v xs) (hm : ∀ k, ok k → k < w.heap.size → w1.heap[k]? = w.heap[k]?) : Own T e w1 base ok v xs := by
  obtain ⟨cells, ho, hk, hr⟩ := h
  exact ⟨cells, ownsRow_move ho (fun k he => hm k (hk k he) (ho.lt k he).2), hk, hr.move fun k hk => hm k hk.1⟩
theorem Own.below (h : Own T e w base ok v xs) (hb : Below w.heap.size w w1) : Own T e w1 base ok v xs := h.move fun k _ hk => hb.block k hk
theorem Own.mono (h : Own T e w base ok v xs) (hb : base' ≤ base) (hm : ∀ k, ok k → k < w.heap.size → ok' k) : Own T e w base' ok' v xs := by
  obtain ⟨cells, ho, hk, hr⟩ := h
  exact ⟨cells, ownsRow_lower ho hb, fun k he => hm k (hk k he) (ho.lt k he).2, hr.mono fun k hk hlt => ⟨hm k hk.1 hlt, hk.2⟩⟩
theorem Own.sl (h : Own T e w base ok v xs) : Sl T w ok v xs := by
  obtain ⟨cells, ho, hk, hr⟩ := h
  have hlt := ho.lt
  rcases ho.2 with ⟨rfl, hn⟩ | ⟨g, cap, cur, rfl, hb, hg, h1, h2, h3, h4⟩
  · obtain rfl : xs = [] := List.eq_nil_of_length_eq_zero hn
    exact Sl.nil _ _
  · refine ⟨_, cap, rfl, h1, Nat.le_trans h1 (by simpa [maxLen] using h2), cells, hr.mono fun k h _ => h.1, fun _ => ⟨g, 0, rfl, hk g (by simp [Value.ownBlock]), (hlt g (by simp [Value.ownBlock])).2, fun j u hu => ?_⟩⟩
    have hj := (List.getElem?_eq_some_iff.1 hu).1
    rw [ho.1] at hj
    rw [Nat.zero_add, ho.cellAt j hj]
    exact hu
/-- Behind an append to v at W. -/
theorem Own.after {W : World} {v' : Value} {n : Nat} {ncells : List Value} (hr : Reps T W (fun k => ok k ∧ some k ≠ v.ownBlock) xs ncells) (hok : ∀ k, v.ownBlock = some k → ok k)
    (hown : w1.ownsRow base e T.sz v' n ncells) (hn : n = xs.length) (hg : W.grownBy w1 v.ownBlock) (hat : v'.ownBlock = v.ownBlock ∨ ∃ b, v'.ownBlock = some b ∧ W.heap.size ≤ b) (hfresh : ∀ k, W.heap.size ≤ k → ok k) : Own T e w1 base ok v' xs := by
  subst hn
  refine ⟨ncells, hown, fun k hk => ?_, (hr.mono (ok' := fun k => (ok k ∧ some k ≠ v'.ownBlock) ∧ some k ≠ v.ownBlock ∧ k < W.heap.size) fun k hk hlt => ⟨⟨hk.1, ?_⟩, hk.2, hlt⟩).move (fun k hk hlt => hg.block k hlt hk.2.1) |>.mono fun k hk _ => hk.1⟩
  · rcases hat with h | ⟨b, h, hb⟩
    · exact hok k (by rw [← h]; exact hk)
    · rw [h] at hk
      injection hk with hk
      exact hfresh k (by omega)
  · rcases hat with h | ⟨b, h, hb⟩
    · rw [h]; exact hk.2
    · rw [h]
      intro he
      injection he with he
      omega
end
end Go.Proofs.YtdfknlhfdbbogaaGreatDoor
