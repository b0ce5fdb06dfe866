/-
  Maps that serve as sets: map[uint32]bool. No condition.
-/
import Derived.Test.YtdfknlhfdbbogaaGreatDoorProps
import Derived.Maps.OwnOps
import Derived.Maps.OwnSet
import Derived.Maps.Keyed
namespace Go.Proofs.YtdfknlhfdbbogaaGreatDoor
open Go.RowKit
set_option linter.unusedSimpArgs false
set_option linter.unusedVariables false
/-- Block b holds a map of at most n entries in which just the numbers of S are true. -/
def SetU (w : World) (b n : Nat) (S : Int → Bool) : Prop := ∃ D : DataW Unit, w.ownsMap Tryz.prog 27 (plainElem Tryz.prog 4) b n D ∧ ∀ x, 0 ≤ x → x < 4294967296 → D.atKey (.int .u32 x) (.lit (.bool false)) = .lit (.bool (S x))
theorem keyed27 : Maps.Keyed Tryz.prog 27 := Maps.int_keyed Tryz.underlying27
theorem zero4 (w : World) : (zeroValue 4).run Tryz.prog w = .ok (.bool false) w := by
  have h4 := Tryz.underlying4
  have hz : Tryz.t4.zero = some (.bool false) := by kernel_rfl
  simp [zeroValue, h4, go_sem, hz]
theorem key27 {x : Int} (h0 : 0 ≤ x) (h1 : x < 4294967296) : keyOf Tryz.prog 27 (.int .u32 x) = some (.int .u32 x) := Maps.keyOf_int_mk Tryz.underlying27 (by simp [Lit.wf, IntKind.min, IntKind.max, IntKind.bits, IntKind.signed]; omega)
theorem SetU.lt {w : World} {b n : Nat} {S : Int → Bool} (h : SetU w b n S) : b < w.heap.size := by obtain ⟨D, h, _⟩ := h; exact h.lt
theorem SetU.look {w : World} {b n : Nat} {S : Int → Bool} (h : SetU w b n S) {x : Int} (h0 : 0 ≤ x) (h1 : x < 4294967296) : (Instr.lookup 282 (.map (some b)) (.int .u32 x) false).run Tryz.prog w = .ok (.bool (S x)) w := by
  obtain ⟨D, h, hS⟩ := h
  obtain ⟨v, ps, hr, hv⟩ := h.lookup keyed27 Tryz.underlying282 (zero4 w) (plainElem_bool Tryz.underlying4 false) (key27 h0 h1)
  rw [hS x h0 h1] at hv
  have h4 := Tryz.underlying4
  have hvv : v = .bool (S x) := by
    cases v <;> simp [plainElem, h4] at hv
    rw [hv.1]
  rw [hr, hvv]
theorem SetU.kept {w w' : World} {b n : Nat} {S : Int → Bool} {row : Option Nat} (h : SetU w b n S) (hg : w.grownBy w' row) (hne : some b ≠ row) : SetU w' b n S := by
  obtain ⟨D, h, hS⟩ := h
  exact ⟨D, h.kept hg hne, hS⟩
theorem SetU.below {w w' : World} {b n : Nat} {S : Int → Bool} (h : SetU w b n S) (hb : Below w.heap.size w w') : SetU w' b n S := h.kept (gbelow none hb) (by simp)
theorem SetU.made (w : World) : SetU (w.alloc (.map #[] 0)) w.heap.size 0 (fun _ => false) := ⟨_, World.ownsMap_made _ _ _ _, fun x h0 h1 => rfl⟩
theorem SetU.put {w : World} {b n : Nat} {S : Int → Bool} {D : DataW Unit} (h : w.ownsMap Tryz.prog 27 (plainElem Tryz.prog 4) b n D) (hS : ∀ x, 0 ≤ x → x < 4294967296 → D.atKey (.int .u32 x) (.lit (.bool false)) = .lit (.bool (S x)))
    {w' : World} {x : Int} (h0 : 0 ≤ x) (h1 : x < 4294967296) (h' : w'.ownsMap Tryz.prog 27 (plainElem Tryz.prog 4) b (n + 1) (D.put (.int .u32 x) (.lit (.bool true)))) : SetU w' b (n + 1) (fun y => decide (y = x) || S y) := by
  refine ⟨_, h', fun y hy0 hy1 => ?_⟩
  by_cases hxy : y = x
  · subst hxy
    rw [Maps.atKey_put_same h.isMap (by simp [WideAt.IsKeyLit])]
    simp
  · rw [Maps.atKey_put_other (by simp [hxy]), hS y hy0 hy1]
    simp [hxy]
end Go.Proofs.YtdfknlhfdbbogaaGreatDoor
