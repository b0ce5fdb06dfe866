/-
  region: cells' counts, a node's windows. No condition.
-/
import Derived.Test.YtdfknlhfdbbogaaGreatDoorRegion
namespace Go.Proofs.YtdfknlhfdbbogaaGreatDoor
open Go.RowKit
set_option linter.unusedSimpArgs false
set_option linter.unusedVariables false
theorem findP_bytes {w : World} {ok : Nat → Prop} {A : Option Addr} {l : List Pr} (h : SlA tPr w ok A l) {s : ByteArray} {b : List Int} (hf : findP s l = some b) : ∀ x ∈ b, 0 ≤ x ∧ x < 256 := by
  have H : ∀ p ∈ l, ∀ x ∈ p.2, 0 ≤ x ∧ x < 256 := by
    intro p hp
    obtain ⟨j, hj⟩ := List.getElem?_of_mem hp
    obtain ⟨_, _, _, _, _, _, _, _, _, _, _, hs⟩ := h.prop_at hj
    exact hs.bounds
  clear h
  induction l with
  | nil => cases hf
  | cons a r ih =>
    rw [findP] at hf
    split at hf
    · injection hf with hf; subst hf; exact H a (by simp)
    · exact ih hf fun p hp => H p (by simp [hp])
theorem one_lt {w : World} {ok : Nat → Prop} {v : Value} {n : Nd} (hv : NdV w ok v n) (s : ByteArray) : (oneN n s).1 < 4294967296 := by
  obtain ⟨A2, c2, A, c, rfl, hc2, hl2, ha2, hc, hl, ha⟩ := hv.form
  unfold oneN
  cases hf : n.find s with
  | none => decide
  | some b =>
    by_cases h4 : b.length = 4
    · simp only [if_pos h4]
      have := numN_lt b (findP_bytes ha2 hf)
      rw [h4] at this
      exact this
    · simp only [if_neg h4]
      decide
theorem find_size {n : Nd} (hsz : n.size ≤ 1073741824) {s : ByteArray} {b : List Int} (h : n.find s = some b) : b.length ≤ 1073741824 := by
  have := findP_size h
  have := Nd.size_eq n
  omega
theorem count317_walk (n : Nd) (hsz : n.size ≤ 1073741824) (s : ByteArray) (wo : Int) (w : World) (ok : Nat → Prop) (v : Value) (hv : NdV w ok v n) :
    Calls Tryz.prog 317 #[v, .string s, .int .i64 wo] w fun e w' => e = .returned (.tuple #[.int .i64 (countM n s wo).1, .int .i64 (countM n s wo).2]) ∧ Below w.heap.size w w' := by
  have hone := fun w1 (h : Below w.heap.size w w1) => one_walk n hsz s w1 ok _ (hv.below h)
  have hlt := one_lt hv s
  obtain ⟨A2, c2, A, c, rfl, hc2, hl2, ha2, hc, hl, ha⟩ := hv.form
  have hd : countM n s wo = if (oneN n s).2.2 ≠ 0 ∨ 2 < (oneN n s).1 then (0, 10) else if (oneN n s).2.1 = false then (wo, 0) else (((oneN n s).1 : Int), 0) := rfl
  rw [hd]
  clear hd
  obtain ⟨x, f, e0, ho⟩ : ∃ x f e0, oneN n s = (x, f, e0) := ⟨_, _, _, rfl⟩
  rw [ho] at hone hlt ⊢
  simp only at hone hlt ⊢
  clear ho
  by_cases h1 : e0 ≠ 0 ∨ 2 < x
  · rw [if_pos h1]
    by_cases h2 : e0 = 0
    · have h3 : (2 : Int) < x := by omega
      subst h2
      clear h1
      go_enter Tryz.func317, Tryz.ntmps317
      go_wp2_with (first | (go_at_call 258; refine (hone _ (by repeat (first | assumption | exact Below.refl _ _ | with_reducible refine bset ?_ (by simp) _ | with_reducible refine balloc ?_ _ | with_reducible refine bdrew ?_ | with_reducible refine bdrewN ?_ _ | with_reducible refine bstep ?_ (by assumption)))).mono ?_; rintro e w1 ⟨rfl, hb1⟩))
      go_ret2
      exact ⟨rfl, (by repeat (first | assumption | exact Below.refl _ _ | with_reducible refine bset ?_ (by simp) _ | with_reducible refine balloc ?_ _ | with_reducible refine bdrew ?_ | with_reducible refine bdrewN ?_ _ | with_reducible refine bstep ?_ (by assumption)))⟩
    · have h3 : (e0 != 0) = true := by rw [bne_iff_ne]; exact h2
      clear h1 h2
      go_enter Tryz.func317, Tryz.ntmps317
      go_wp2_with (first | (go_at_call 258; refine (hone _ (by repeat (first | assumption | exact Below.refl _ _ | with_reducible refine bset ?_ (by simp) _ | with_reducible refine balloc ?_ _ | with_reducible refine bdrew ?_ | with_reducible refine bdrewN ?_ _ | with_reducible refine bstep ?_ (by assumption)))).mono ?_; rintro e w1 ⟨rfl, hb1⟩))
      go_ret2
      exact ⟨rfl, (by repeat (first | assumption | exact Below.refl _ _ | with_reducible refine bset ?_ (by simp) _ | with_reducible refine balloc ?_ _ | with_reducible refine bdrew ?_ | with_reducible refine bdrewN ?_ _ | with_reducible refine bstep ?_ (by assumption)))⟩
  · rw [if_neg h1]
    have h2 : e0 = 0 := Classical.byContradiction fun h => h1 (.inl h)
    have h3 : (x : Int) ≤ 2 := by omega
    subst h2
    clear h1
    cases f
    all_goals
      go_enter Tryz.func317, Tryz.ntmps317
      go_wp2_with (first | (go_at_call 258; refine (hone _ (by repeat (first | assumption | exact Below.refl _ _ | with_reducible refine bset ?_ (by simp) _ | with_reducible refine balloc ?_ _ | with_reducible refine bdrew ?_ | with_reducible refine bdrewN ?_ _ | with_reducible refine bstep ?_ (by assumption)))).mono ?_; rintro e w1 ⟨rfl, hb1⟩))
      go_ret2
      exact ⟨rfl, (by repeat (first | assumption | exact Below.refl _ _ | with_reducible refine bset ?_ (by simp) _ | with_reducible refine balloc ?_ _ | with_reducible refine bdrew ?_ | with_reducible refine bdrewN ?_ _ | with_reducible refine bstep ?_ (by assumption)))⟩
theorem counts_walk (n : Nd) (hsz : n.size ≤ 1073741824) (w : World) (ok : Nat → Prop) (v : Value) (hv : NdV w ok v n) :
    Calls Tryz.prog 277 #[v] w fun e w' => e = .returned (.tuple #[.int .i64 (countsM n).1, .int .i64 (countsM n).2.1, .int .i64 (countsM n).2.2]) ∧ Below w.heap.size w w' := by
  have h1 := fun w1 (h : Below w.heap.size w w1) => count317_walk n hsz acells 2 w1 ok _ (hv.below h)
  have h2 := fun w1 (h : Below w.heap.size w w1) => count317_walk n hsz scells 1 w1 ok _ (hv.below h)
  have e1 : acells = ⟨#[35, 97, 100, 100, 114, 101, 115, 115, 45, 99, 101, 108, 108, 115]⟩ := rfl
  have e2 : scells = ⟨#[35, 115, 105, 122, 101, 45, 99, 101, 108, 108, 115]⟩ := rfl
  obtain ⟨A2, c2, A, c, rfl, hc2, hl2, ha2, hc, hl, ha⟩ := hv.form
  have hd : countsM n = if (countM n acells 2).2 ≠ 0 then (0, 0, (countM n acells 2).2) else if (countM n scells 1).2 ≠ 0 then (0, 0, (countM n scells 1).2) else ((countM n acells 2).1, (countM n scells 1).1, 0) := rfl
  rw [hd]
  clear hd
  obtain ⟨x, d, hx⟩ : ∃ x d, countM n acells 2 = (x, d) := ⟨_, _, rfl⟩
  obtain ⟨y, f, hy⟩ : ∃ y f, countM n scells 1 = (y, f) := ⟨_, _, rfl⟩
  rw [hx] at h1 ⊢
  rw [hy] at h2 ⊢
  rw [e1] at h1
  rw [e2] at h2
  simp only at h1 h2 ⊢
  clear hx hy e1 e2
  by_cases g1 : d = 0
  · rw [if_neg (by simp [g1])]
    subst g1
    by_cases g2 : f = 0
    · rw [if_neg (by simp [g2])]
      subst g2
      go_enter Tryz.func277, Tryz.ntmps277
      go_wp2_with (first
        | (go_at_call 317; (with_reducible refine (h1 _ ?_).mono ?_); exact (by repeat (first | assumption | exact Below.refl _ _ | with_reducible refine bset ?_ (by simp) _ | with_reducible refine balloc ?_ _ | with_reducible refine bdrew ?_ | with_reducible refine bdrewN ?_ _ | with_reducible refine bstep ?_ (by assumption))); rintro e w1 ⟨rfl, hb1⟩; have hbox := bblock (blast w _ _ rfl) hb1; have d0 := bcellAt (v := .string n.name) hbox 0 rfl; have d1 := bcellAt hbox 1 rfl; have d2 := bcellAt hbox 2 rfl; have hbw := bstep (balloc (brefl w) _) hb1)
        | (go_at_call 317; (with_reducible refine (h2 _ ?_).mono ?_); exact (by repeat (first | assumption | exact Below.refl _ _ | with_reducible refine bset ?_ (by simp) _ | with_reducible refine balloc ?_ _ | with_reducible refine bdrew ?_ | with_reducible refine bdrewN ?_ _ | with_reducible refine bstep ?_ (by assumption))); rintro e w2 ⟨rfl, hb2⟩))
      go_ret3
      exact ⟨rfl, (by repeat (first | assumption | exact Below.refl _ _ | with_reducible refine bset ?_ (by simp) _ | with_reducible refine balloc ?_ _ | with_reducible refine bdrew ?_ | with_reducible refine bdrewN ?_ _ | with_reducible refine bstep ?_ (by assumption)))⟩
    · rw [if_pos g2]
      have g3 : (f != 0) = true := by rw [bne_iff_ne]; exact g2
      go_enter Tryz.func277, Tryz.ntmps277
      go_wp2_with (first
        | (go_at_call 317; (with_reducible refine (h1 _ ?_).mono ?_); exact (by repeat (first | assumption | exact Below.refl _ _ | with_reducible refine bset ?_ (by simp) _ | with_reducible refine balloc ?_ _ | with_reducible refine bdrew ?_ | with_reducible refine bdrewN ?_ _ | with_reducible refine bstep ?_ (by assumption))); rintro e w1 ⟨rfl, hb1⟩; have hbox := bblock (blast w _ _ rfl) hb1; have d0 := bcellAt (v := .string n.name) hbox 0 rfl; have d1 := bcellAt hbox 1 rfl; have d2 := bcellAt hbox 2 rfl; have hbw := bstep (balloc (brefl w) _) hb1)
        | (go_at_call 317; (with_reducible refine (h2 _ ?_).mono ?_); exact (by repeat (first | assumption | exact Below.refl _ _ | with_reducible refine bset ?_ (by simp) _ | with_reducible refine balloc ?_ _ | with_reducible refine bdrew ?_ | with_reducible refine bdrewN ?_ _ | with_reducible refine bstep ?_ (by assumption))); rintro e w2 ⟨rfl, hb2⟩))
      go_ret3
      exact ⟨rfl, (by repeat (first | assumption | exact Below.refl _ _ | with_reducible refine bset ?_ (by simp) _ | with_reducible refine balloc ?_ _ | with_reducible refine bdrew ?_ | with_reducible refine bdrewN ?_ _ | with_reducible refine bstep ?_ (by assumption)))⟩
  · rw [if_pos g1]
    have g3 : (d != 0) = true := by rw [bne_iff_ne]; exact g1
    go_enter Tryz.func277, Tryz.ntmps277
    go_wp2_with (first
      | (go_at_call 317; (with_reducible refine (h1 _ ?_).mono ?_); exact (by repeat (first | assumption | exact Below.refl _ _ | with_reducible refine bset ?_ (by simp) _ | with_reducible refine balloc ?_ _ | with_reducible refine bdrew ?_ | with_reducible refine bdrewN ?_ _ | with_reducible refine bstep ?_ (by assumption))); rintro e w1 ⟨rfl, hb1⟩))
    go_ret3
    exact ⟨rfl, (by repeat (first | assumption | exact Below.refl _ _ | with_reducible refine bset ?_ (by simp) _ | with_reducible refine balloc ?_ _ | with_reducible refine bdrew ?_ | with_reducible refine bdrewN ?_ _ | with_reducible refine bstep ?_ (by assumption)))⟩
theorem countM_le {n : Nd} {s : ByteArray} {wo : Int} (h0 : 0 ≤ wo) (h2 : wo ≤ 2) : 0 ≤ (countM n s wo).1 ∧ (countM n s wo).1 ≤ 2 := by
  unfold countM
  split
  · simp
  · rename_i h
    split
    · exact ⟨h0, h2⟩
    · simp only; omega
theorem countsM_le (n : Nd) : 0 ≤ (countsM n).1 ∧ (countsM n).1 ≤ 2 ∧ 0 ≤ (countsM n).2.1 ∧ (countsM n).2.1 ≤ 2 := by
  have h1 := countM_le (n := n) (s := acells) (wo := 2) (by decide) (by decide)
  have h2 := countM_le (n := n) (s := scells) (wo := 1) (by decide) (by decide)
  unfold countsM
  split
  · simp
  · split
    · simp
    · exact ⟨h1.1, h1.2, h2.1, h2.2⟩
/-- A part of a slice, as the model spells it. -/
theorem Sl.cutIf {α : Type} {T : Ty α} (h1 : T.sz = 1) {w : World} {ok : Nat → Prop} {A : Option Addr} {c : Nat} {xs : List α} (h : SlA T w ok A xs) (hc : xs.length ≤ c) (hl : xs.length ≤ 9223372036854775807) (lo n : Nat) (hln : lo + n ≤ xs.length) :
    Sl T w ok (.slice (if c = lo then A else A.map (·.add lo)) n (c - lo)) ((xs.drop lo).take n) := by
  by_cases hcl : c = lo
  · rw [if_pos hcl]
    have hn : n = 0 := by omega
    subst hn
    rw [List.take_zero]
    exact Sl.nil _ _
  · rw [if_neg hcl]
    exact Sl.cut h1 h hc hl lo n hln
def slLen : Value → Nat
  | .slice _ n _ => n
  | _ => 0
abbrev tWin : Ty Win := tPair tU64 tU64
theorem elWin : El tWin 297 322 16 := El.mk' (z := .agg #[.int .u64 0, .int .u64 0]) Tryz.underlying297 (by kernel_rfl) rfl
theorem rep_win {w : World} {ok : Nat → Prop} {a b : Int} (ha : U64 a) (hb : U64 b) : tWin.rep w ok (a, b) [.int .u64 a, .int .u64 b] := by
  obtain ⟨h1, h2⟩ := ha
  obtain ⟨h3, h4⟩ := hb
  exact ⟨[_], [_], rfl, ⟨rfl, h1, by omega⟩, rfl, h3, by omega⟩
theorem wideN_u64 (l : List Int) (h : ∀ x ∈ l, 0 ≤ x ∧ x < 4294967296) (h1 : l.length ≤ 2) : U64 (wideN l) := by
  rcases l with _ | ⟨a, _ | ⟨b, _ | ⟨c, r⟩⟩⟩
  · exact ⟨by decide, by decide⟩
  · have := h a (by simp); exact ⟨by simp [wideN]; omega, by simp [wideN]; omega⟩
  · have := h a (by simp); have := h b (by simp); exact ⟨by simp [wideN]; omega, by simp [wideN]; omega⟩
  · simp at h1
theorem regW_length (a s : Nat) (cells : List Int) : (regW a s cells).length = cells.length / (a + s) := by simp [regW]
theorem regW_get {a s k : Nat} {cells : List Int} (h : k < cells.length / (a + s)) : (regW a s cells)[k]? = some (wideN ((cells.drop (k * (a + s))).take a), wideN (((cells.drop (k * (a + s))).drop a).take s)) := by
  simp [regW, h, List.drop_drop]
theorem cells4_bounds {b : List Int} (h : ∀ x ∈ b, 0 ≤ x ∧ x < 256) : ∀ x ∈ cells4 b, 0 ≤ x ∧ x < 4294967296 := by
  intro x hx
  obtain ⟨i, hi, rfl⟩ := List.mem_map.1 hx
  have := numN_lt ((b.drop (4 * i)).take 4) fun y hy => h y (List.mem_of_mem_drop (List.mem_of_mem_take hy))
  have h4 : ((b.drop (4 * i)).take 4).length ≤ 4 := List.length_take_le _ _
  have := Nat.lt_of_lt_of_le this (Nat.pow_le_pow_right (by decide : 0 < 256) h4)
  simp at this
  omega
theorem U64.of_lt {x : Int} (h0 : 0 ≤ x) (h : x < 18446744073709551616) : U64 x := ⟨h0, by omega⟩
end Go.Proofs.YtdfknlhfdbbogaaGreatDoor
