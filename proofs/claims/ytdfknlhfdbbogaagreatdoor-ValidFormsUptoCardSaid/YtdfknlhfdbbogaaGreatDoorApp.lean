/-
  append onto a row of the call's own, said in the readings' words: at a plain region, and at a step of a region that draws. No condition.
-/
import Derived.Test.YtdfknlhfdbbogaaGreatDoorTys
namespace Go.Proofs.YtdfknlhfdbbogaaGreatDoor
open Go.RowKit
set_option linter.unusedSimpArgs false
set_option linter.unusedVariables false

/-- A row of the call's own: all that it leads to was made from block B on. -/
abbrev Row {α : Type} (T : Ty α) (e : TypeId) (w : World) (B : Nat) (v : Value) (xs : List α) : Prop := Own T e w B (B ≤ ·) v xs
theorem bgrown {w W W' : World} {row : Option Nat} (h : Below w.heap.size w W) (hg : W.grownBy W' row) (hr : ∀ k, row = some k → w.heap.size ≤ k) : Below w.heap.size w W' := h.grown hg h.size hr
/-- What is known of the program's element type. -/
structure El {α : Type} (T : Ty α) (t e : TypeId) (bytes : Nat) : Prop where
  under : Tryz.prog.underlying t = some (.slice e)
  info : ∃ i z, Tryz.prog.info? e = some i ∧ i.zero = some z ∧ i.size = T.sz ∧ i.bytes = bytes ∧ z.cells.size = T.sz
theorem El.mk' {α : Type} {T : Ty α} {t e : TypeId} {bytes : Nat} {z : Value} (h : Tryz.prog.underlying t = some (.slice e)) (hi : (Tryz.prog.info? e).map (fun i => (i.zero, i.size, i.bytes)) = some (some z, T.sz, bytes)) (hz : z.cells.size = T.sz) : El T t e bytes := by
  obtain ⟨i, h1, h2, h3, h4⟩ := info_parts hi
  exact ⟨h, i, z, h1, h2, h3, h4, hz⟩

section
variable {α : Type} {T : Ty α} {t e : TypeId} {bytes : Nat}
/-- At the operation: one more, laid in a block of its own. -/
theorem wp_row1 {w : World} {o : Oper} {a : Act} {K : Act → World → Prop} {Q : Exit → Act → World → Prop} (E : El T t e bytes) (s x : Operand)
    (ho : o.op = .call { callee := .builtin .append, args := #[s, x], argTypes := #[t, t] }) {B : Nat} {v : Value} {xs : List α} (hrow : Row T e w B v xs) (hs : a.eval s = v)
    {b c : Nat} {y : α} {cs : List Value} {fr : Nat × Nat} {bt : TypeId} (hx : a.eval x = .slice (some ⟨b, 0, none⟩) 1 c) (hb : w.heap[b]? = some (.cells cs.toArray bt fr)) (hr : T.rep w (fun k => B ≤ k ∧ some k ≠ v.ownBlock) y cs)
    (hsz : (xs.length + 1) * (bytes + 1) ≤ 140737488351232) (hB : B ≤ w.heap.size)
    (h : ∀ g cap w', Row T e w' B (.slice (some ⟨g, 0, none⟩) (xs.length + 1) cap) (xs ++ [y]) → w.grownBy w' v.ownBlock → (v.ownBlock = some g ∨ g = w.heap.size) → g < w'.heap.size → K (a.put o.dst (.slice (some ⟨g, 0, none⟩) (xs.length + 1) cap)) w') : o.wp Tryz.prog a w K Q := by
  obtain ⟨i, z, hi, hz, h1, h2, h3⟩ := E.info
  obtain ⟨cells, hown, hk, hreps⟩ := hrow
  have hs2 : (xs.length + 1) + (xs.length + 1) * bytes ≤ 140737488351232 := by rw [Nat.mul_add] at hsz; omega
  refine wp_append_lies (P := Tryz.prog) w s x t ho B e i z T.sz bytes E.under hi hz h1 h2 h3 T.pos v xs.length cells hs hown ⟨b, 0, none⟩ 1 c cs hx (by rw [T.len hr, Nat.one_mul]) (World.news_of_block hb) (T.one hr) (by decide) (by unfold maxLen; omega) (by omega) hB _ rfl ?_
  intro g cap w' ho' hg hat hlt
  refine h g cap w' (Own.after (W := w) (hreps.snoc hr) hk ho' (by simp) hg ?_ fun k hk => Nat.le_trans hB hk) hg hat hlt
  rcases hat with hat | rfl
  · exact .inl hat.symm
  · exact .inr ⟨_, rfl, Nat.le_refl _⟩
/-- At a plain region's list. -/
theorem wpList_row1 {w : World} {ops : Array Oper} {rest : List Oper} {o : Oper} {a : Act} {Q : Exit → Act → World → Prop} (hgd : o.guard = none) (E : El T t e bytes) (s x : Operand)
    (ho : o.op = .call { callee := .builtin .append, args := #[s, x], argTypes := #[t, t] }) {B : Nat} {v : Value} {xs : List α} (hrow : Row T e w B v xs) (hs : a.eval s = v)
    {b c : Nat} {y : α} {cs : List Value} {fr : Nat × Nat} {bt : TypeId} (hx : a.eval x = .slice (some ⟨b, 0, none⟩) 1 c) (hb : w.heap[b]? = some (.cells cs.toArray bt fr)) (hr : T.rep w (fun k => B ≤ k ∧ some k ≠ v.ownBlock) y cs)
    (hsz : (xs.length + 1) * (bytes + 1) ≤ 140737488351232) (hB : B ≤ w.heap.size)
    (h : ∀ g cap w', Row T e w' B (.slice (some ⟨g, 0, none⟩) (xs.length + 1) cap) (xs ++ [y]) → w.grownBy w' v.ownBlock → (v.ownBlock = some g ∨ g = w.heap.size) → g < w'.heap.size → wpList Tryz.prog ops Q rest (a.put o.dst (.slice (some ⟨g, 0, none⟩) (xs.length + 1) cap)) w') : wpList Tryz.prog ops Q (o :: rest) a w :=
  wpList_plain hgd fun _ hK => wp_row1 E s x ho hrow hs hx hb hr hsz hB fun g cap w' h2 h3 h4 h5 => hK _ _ (h g cap w' h2 h3 h4 h5)
/-- At a step of a region that draws. -/
theorem step_row1 {w : World} {ops : Array Oper} {o : Oper} {a : Act} {K : Act → World → Prop} {Q : Exit → Act → World → Prop} {Z : Prop} (hgd : o.guard = none) (E : El T t e bytes) (s x : Operand)
    (ho : o.op = .call { callee := .builtin .append, args := #[s, x], argTypes := #[t, t] }) {B : Nat} {v : Value} {xs : List α} (hrow : Row T e w B v xs) (hs : a.eval s = v)
    {b c : Nat} {y : α} {cs : List Value} {fr : Nat × Nat} {bt : TypeId} (hx : a.eval x = .slice (some ⟨b, 0, none⟩) 1 c) (hb : w.heap[b]? = some (.cells cs.toArray bt fr)) (hr : T.rep w (fun k => B ≤ k ∧ some k ≠ v.ownBlock) y cs)
    (hsz : (xs.length + 1) * (bytes + 1) ≤ 140737488351232) (hB : B ≤ w.heap.size)
    (h : ∀ g cap w', Row T e w' B (.slice (some ⟨g, 0, none⟩) (xs.length + 1) cap) (xs ++ [y]) → w.grownBy w' v.ownBlock → (v.ownBlock = some g ∨ g = w.heap.size) → g < w'.heap.size → K (a.put o.dst (.slice (some ⟨g, 0, none⟩) (xs.length + 1) cap)) w') :
    if Region.wanted o (yielded ops a.tmps) = true then Oper.wp Tryz.prog o a w K Q else Z := by
  have hw : Region.wanted o (yielded ops a.tmps) = true := by simp [Region.wanted, hgd]
  rw [if_pos hw]
  exact wp_row1 E s x ho hrow hs hx hb hr hsz hB h
end
/-- The row's own block, and what stands beside it. -/
theorem Own.form {α : Type} {T : Ty α} {e : TypeId} {w : World} {B : Nat} {ok : Nat → Prop} {v : Value} {xs : List α} (h : Own T e w B ok v xs) : ∃ A c, v = .slice A xs.length c ∧ xs.length ≤ c ∧ xs.length ≤ 9223372036854775807 ∧ SlA T w ok A xs := h.sl
theorem Own.base {α : Type} {T : Ty α} {e : TypeId} {w : World} {B : Nat} {ok : Nat → Prop} {v : Value} {xs : List α} (h : Own T e w B ok v xs) {n : Nat} (hn : n ≤ B) : ∀ k, v.ownBlock = some k → n ≤ k := fun k hk => Nat.le_trans hn (h.lt k hk).1

theorem Own.ne {α : Type} {T : Ty α} {e : TypeId} {w : World} {B : Nat} {ok : Nat → Prop} {v : Value} {xs : List α} (h : Own T e w B ok v xs) {k : Nat} (hk : k < B) : some k ≠ v.ownBlock := fun he => by have := (h.lt k he.symm).1; omega

/-- Elements that lead to no block. -/
def Flat {α : Type} (T : Ty α) : Prop := ∀ (w w' : World) (ok ok' : Nat → Prop) x cs, T.rep w ok x cs → T.rep w' ok' x cs
theorem flat_num {k : IntKind} {lo hi : Int} : Flat (tNum k lo hi) := fun _ _ _ _ _ _ h => h
theorem flat_str : Flat tStr := fun _ _ _ _ _ _ h => h
theorem flat_pair {α β : Type} {T : Ty α} {U : Ty β} (h : Flat T) (k : Flat U) : Flat (tPair T U) := fun w w' ok ok' x cs ⟨ds, es, e, h1, h2⟩ => ⟨ds, es, e, h _ _ _ _ _ _ h1, k _ _ _ _ _ _ h2⟩
theorem Own.flat {α : Type} {T : Ty α} {e : TypeId} {w w1 : World} {B : Nat} {ok : Nat → Prop} {v : Value} {xs : List α} (hf : Flat T) (h : Own T e w B ok v xs) (hm : ∀ k, v.ownBlock = some k → w1.heap[k]? = w.heap[k]?) : Own T e w1 B ok v xs := by
  obtain ⟨cells, ho, hk, hr⟩ := h
  exact ⟨cells, ownsRow_move ho hm, hk, hr.1, fun j x hx => hf _ _ _ _ _ _ (hr.2 j x hx)⟩
theorem Own.flatG {α : Type} {T : Ty α} {e : TypeId} {w W w1 : World} {B : Nat} {ok : Nat → Prop} {v : Value} {xs : List α} {row : Option Nat} (hf : Flat T) (h : Own T e w B ok v xs) (hb : Below w.heap.size w W) (hg : W.grownBy w1 row) (hne : ∀ k, v.ownBlock = some k → row ≠ some k) : Own T e w1 B ok v xs :=
  h.flat hf fun k hk => (hg.block k (Nat.lt_of_lt_of_le (h.lt k hk).2 hb.size) fun e => hne k hk e.symm).trans (hb.block k (h.lt k hk).2)

/-! ### The program's rows -/
theorem elStr : El tStr 41 9 16 := El.mk' (z := .string ⟨#[]⟩) Tryz.underlying41 (by kernel_rfl) rfl
theorem elByte : El tByte 57 5 1 := El.mk' (z := .int .u8 0) Tryz.underlying57 (by kernel_rfl) rfl
theorem elInt : El tInt 79 3 8 := El.mk' (z := .int .i64 0) Tryz.underlying79 (by kernel_rfl) rfl
theorem elInts : El (tSl tInt) 131 79 24 := El.mk' (z := .slice none 0 0) Tryz.underlying131 (by kernel_rfl) rfl
theorem elPr : El tPr 29 260 40 := El.mk' (z := .agg #[.string ⟨#[]⟩, .slice none 0 0]) Tryz.underlying29 (by kernel_rfl) rfl
theorem elNd : El tNd 30 32 64 := El.mk' (z := .agg #[.string ⟨#[]⟩, .slice none 0 0, .slice none 0 0]) Tryz.underlying30 (by kernel_rfl) rfl
end Go.Proofs.YtdfknlhfdbbogaaGreatDoor
