/-
  slices.IndexFunc and slices.ContainsFunc at structs, for whatever predicate the closure computes. No condition.
-/
import Derived.Test.YtdfknlhfdbbogaaGreatDoorEnabled
namespace Go.Proofs.YtdfknlhfdbbogaaGreatDoor
open Go.RowKit
set_option linter.unusedSimpArgs false
set_option linter.unusedVariables false
/-- Lines that the look keeps: whose, to which. -/
abbrev Wl := List Int × Ln
abbrev tWl : Ty Wl := tPair (tSl tInt) tLn
theorem elWl : El tWl 150 403 56 := El.mk' (z := .agg #[.slice none 0 0, .slice none 0 0, .int .u32 0]) Tryz.underlying150 (by kernel_rfl) rfl
theorem rep_wl {w : World} {ok : Nat → Prop} {x : Int} {pl ql : List Int} {u v : Value} (h1 : 0 ≤ x) (h2 : x < 4294967296) (h : Sl tInt w ok u pl) (h' : Sl tInt w ok v ql) : tWl.rep w ok (pl, ql, x) [u, v, .int .u32 x] := ⟨[_], [_, _], rfl, rep_sl h, rep_ln h1 h2 h'⟩
theorem SlA.wl_at {w : World} {ok : Nat → Prop} {A : Option Addr} {xs : List Wl} {j : Nat} {x : Wl} (h : SlA tWl w ok A xs) (hx : xs[j]? = some x) : ∃ b off A1 c1 A2 c2, A = some ⟨b, off, none⟩ ∧ ok b ∧ b < w.heap.size ∧
    w.cell? ⟨b, off + j * 3, none⟩ = some (.slice A1 x.1.length c1) ∧ w.cell? ⟨b, off + j * 3 + 1, none⟩ = some (.slice A2 x.2.1.length c2) ∧ w.cell? ⟨b, off + j * 3 + 2, none⟩ = some (.int .u32 x.2.2) ∧ 0 ≤ x.2.2 ∧ x.2.2 < 4294967296 ∧ Sl tInt w ok (.slice A1 x.1.length c1) x.1 ∧ Sl tInt w ok (.slice A2 x.2.1.length c2) x.2.1 := by
  obtain ⟨b, off, cs, rfl, hb, hlt, ⟨ds, es, rfl, ⟨u, rfl, A1, c1, rfl, h1, h2, h3⟩, ds2, es2, rfl, ⟨v, rfl, A2, c2, rfl, k1, k2, k3⟩, rfl, h5, h6⟩, hc⟩ := h.at hx
  exact ⟨b, off, A1, c1, A2, c2, rfl, hb, hlt, hc 0 _ rfl, hc 1 _ rfl, hc 2 _ rfl, h5, h6, ⟨A1, c1, rfl, h1, h2, h3⟩, ⟨A2, c2, rfl, k1, k2, k3⟩⟩
theorem any_none {α : Type} {xs : List α} {k : Nat} {p : α → Bool} (hk : k = xs.length) (h : (xs.take k).any p = false) : decide ((0 : Int) ≤ -1) = xs.any p := by
  subst hk
  rw [List.take_length] at h
  rw [h]
  rfl
/-- Lines. -/
theorem ln_index (xs : List Ln) (w : World) (ok : Nat → Prop) (v : Value) (hv : Sl tLn w ok v xs) (p : Ln → Bool)
    (hp : ∀ (W : World) (x : Ln) (A1 : Option Addr) (c1 : Nat), Below w.heap.size w W → x ∈ xs → 0 ≤ x.2 → x.2 < 4294967296 → Sl tInt W ok (.slice A1 x.1.length c1) x.1 → Calls Tryz.prog 313 #[.agg #[.slice A1 x.1.length c1, .int .u32 x.2]] W fun e w' => e = .returned (.bool (p x)) ∧ Below W.heap.size W w') :
    Calls Tryz.prog 335 #[v, .func (.func 313) #[] #[]] w fun e w' => ∃ r, e = .returned (.int .i64 r) ∧ decide (0 ≤ r) = xs.any p ∧ Below w.heap.size w w' := by
  obtain ⟨A, c, rfl, hc, hl, ha⟩ := hv
  go_enter Tryz.func335, Tryz.ntmps335
  go_wp2_with fail
  go_loopw [8] (fun i wr => ∃ k : Nat, k ≤ xs.length ∧ i = .int .i64 k ∧ (xs.take k).any p = false ∧ Below w.heap.size w wr) (fun i _ => xs.length - (intOf i).toNat)
  case atStart => exact ⟨0, by omega, rfl, rfl, brefl w⟩
  case round =>
    obtain ⟨k, hk, rfl, hall, hb⟩ := hrel
    have hall1 := Lib.hid hall
    clear hall
    by_cases hkl : k < xs.length
    · have hx : xs[k]? = some xs[k] := List.getElem?_eq_getElem hkl
      obtain ⟨x, hxe⟩ : ∃ x, x = xs[k] := ⟨_, rfl⟩
      rw [← hxe] at hx
      clear hxe
      obtain ⟨b, off, A1, c1, rfl, hob, hlb, r0, r1, hx0, hx1, hsx⟩ := (ha.below hb).ln_at hx
      have hpx := hp wr x A1 c1 hb (List.mem_of_getElem? hx) hx0 hx1 hsx
      clear hp
      obtain ⟨y, hq⟩ : ∃ y, y = p x := ⟨_, rfl⟩
      rw [← hq] at hpx
      have HX := Lib.hid hx
      have HQ := Lib.hid hq
      clear hq hx
      cases y
      · go_wp2_with (first
          | (go_at_call 313; refine hpx.mono ?_; clear hpx; rintro e w1 ⟨rfl, hb1⟩))
        go_roundw
        case rel => exact ⟨k + 1, by omega, by go_num, any_next HX.out hall1.out HQ.out.symm, bstep hb hb1⟩
        case measure => simp [intOf]; omega
      · go_wp2_with (first
          | (go_at_call 313; refine hpx.mono ?_; clear hpx; rintro e w1 ⟨rfl, hb1⟩))
        go_ret
        exact ⟨_, rfl, by rw [any_hit HX.out HQ.out.symm]; exact decide_eq_true (by omega), bstep hb hb1⟩
    · go_wp2_with fail
      go_ret
      exact ⟨_, rfl, any_none (by omega) hall1.out, hb⟩
theorem ln_contains (xs : List Ln) (w : World) (ok : Nat → Prop) (v : Value) (hv : Sl tLn w ok v xs) (p : Ln → Bool)
    (hp : ∀ (W : World) (x : Ln) (A1 : Option Addr) (c1 : Nat), Below w.heap.size w W → x ∈ xs → 0 ≤ x.2 → x.2 < 4294967296 → Sl tInt W ok (.slice A1 x.1.length c1) x.1 → Calls Tryz.prog 313 #[.agg #[.slice A1 x.1.length c1, .int .u32 x.2]] W fun e w' => e = .returned (.bool (p x)) ∧ Below W.heap.size W w') :
    Calls Tryz.prog 312 #[v, .func (.func 313) #[] #[]] w fun e w' => e = .returned (.bool (xs.any p)) ∧ Below w.heap.size w w' := by
  have hi := ln_index xs w ok v hv p hp
  go_enter Tryz.func312, Tryz.ntmps312
  go_wp2_with (first | (go_at_call 335; refine hi.mono ?_; clear hi; rintro e w1 ⟨r, rfl, hr, hb1⟩; have hr1 := Lib.hid hr; clear hr))
  go_ret
  exact ⟨by rw [← hr1.out]; rfl, hb1⟩
/-- Ranges. -/
theorem rng_index (xs : List Rng) (w : World) (ok : Nat → Prop) (v : Value) (hv : Sl tRng w ok v xs) (p : Rng → Bool)
    (hp : ∀ (W : World) (x : Rng), Below w.heap.size w W → x ∈ xs → U64 x.1 → U64 x.2.1 → U64 x.2.2 → Calls Tryz.prog 261 #[.agg #[.int .u64 x.1, .int .u64 x.2.1, .int .u64 x.2.2]] W fun e w' => e = .returned (.bool (p x)) ∧ Below W.heap.size W w') :
    Calls Tryz.prog 311 #[v, .func (.func 261) #[] #[]] w fun e w' => ∃ r, e = .returned (.int .i64 r) ∧ decide (0 ≤ r) = xs.any p ∧ Below w.heap.size w w' := by
  obtain ⟨A, c, rfl, hc, hl, ha⟩ := hv
  go_enter Tryz.func311, Tryz.ntmps311
  go_wp2_with fail
  go_loopw [8] (fun i wr => ∃ k : Nat, k ≤ xs.length ∧ i = .int .i64 k ∧ (xs.take k).any p = false ∧ Below w.heap.size w wr) (fun i _ => xs.length - (intOf i).toNat)
  case atStart => exact ⟨0, by omega, rfl, rfl, brefl w⟩
  case round =>
    obtain ⟨k, hk, rfl, hall, hb⟩ := hrel
    have hall1 := Lib.hid hall
    clear hall
    by_cases hkl : k < xs.length
    · have hx : xs[k]? = some xs[k] := List.getElem?_eq_getElem hkl
      obtain ⟨x, hxe⟩ : ∃ x, x = xs[k] := ⟨_, rfl⟩
      rw [← hxe] at hx
      clear hxe
      obtain ⟨b, off, rfl, hob, hlb, r0, r1, r2, u0, u1, u2⟩ := (ha.below hb).rng_at hx
      have hpx := hp wr x hb (List.mem_of_getElem? hx) u0 u1 u2
      clear hp
      obtain ⟨y, hq⟩ : ∃ y, y = p x := ⟨_, rfl⟩
      rw [← hq] at hpx
      have HX := Lib.hid hx
      have HQ := Lib.hid hq
      clear hq hx
      cases y
      · go_wp2_with (first
          | (go_at_call 261; refine hpx.mono ?_; clear hpx; rintro e w1 ⟨rfl, hb1⟩))
        go_roundw
        case rel => exact ⟨k + 1, by omega, by go_num, any_next HX.out hall1.out HQ.out.symm, bstep hb hb1⟩
        case measure => simp [intOf]; omega
      · go_wp2_with (first
          | (go_at_call 261; refine hpx.mono ?_; clear hpx; rintro e w1 ⟨rfl, hb1⟩))
        go_ret
        exact ⟨_, rfl, by rw [any_hit HX.out HQ.out.symm]; exact decide_eq_true (by omega), bstep hb hb1⟩
    · go_wp2_with fail
      go_ret
      exact ⟨_, rfl, any_none (by omega) hall1.out, hb⟩
theorem rng_contains (xs : List Rng) (w : World) (ok : Nat → Prop) (v : Value) (hv : Sl tRng w ok v xs) (p : Rng → Bool)
    (hp : ∀ (W : World) (x : Rng), Below w.heap.size w W → x ∈ xs → U64 x.1 → U64 x.2.1 → U64 x.2.2 → Calls Tryz.prog 261 #[.agg #[.int .u64 x.1, .int .u64 x.2.1, .int .u64 x.2.2]] W fun e w' => e = .returned (.bool (p x)) ∧ Below W.heap.size W w') :
    Calls Tryz.prog 260 #[v, .func (.func 261) #[] #[]] w fun e w' => e = .returned (.bool (xs.any p)) ∧ Below w.heap.size w w' := by
  have hi := rng_index xs w ok v hv p hp
  go_enter Tryz.func260, Tryz.ntmps260
  go_wp2_with (first | (go_at_call 311; refine hi.mono ?_; clear hi; rintro e w1 ⟨r, rfl, hr, hb1⟩; have hr1 := Lib.hid hr; clear hr))
  go_ret
  exact ⟨by rw [← hr1.out]; rfl, hb1⟩
/-- Windows. -/
theorem win_index (xs : List Win) (w : World) (ok : Nat → Prop) (v : Value) (hv : Sl tWin w ok v xs) (p : Win → Bool) (B : Nat)
    (hp : ∀ (W : World) (x : Win), Below w.heap.size w W → x ∈ xs → U64 x.1 → U64 x.2 → Calls Tryz.prog 265 #[.agg #[.int .u64 x.1, .int .u64 x.2], .pointer (some ⟨B, 0, none⟩)] W fun e w' => e = .returned (.bool (p x)) ∧ Below W.heap.size W w') :
    Calls Tryz.prog 314 #[v, .func (.func 265) #[] #[.pointer (some ⟨B, 0, none⟩)]] w fun e w' => ∃ r, e = .returned (.int .i64 r) ∧ decide (0 ≤ r) = xs.any p ∧ Below w.heap.size w w' := by
  obtain ⟨A, c, rfl, hc, hl, ha⟩ := hv
  go_enter Tryz.func314, Tryz.ntmps314
  go_wp2_with fail
  go_loopw [8] (fun i wr => ∃ k : Nat, k ≤ xs.length ∧ i = .int .i64 k ∧ (xs.take k).any p = false ∧ Below w.heap.size w wr) (fun i _ => xs.length - (intOf i).toNat)
  case atStart => exact ⟨0, by omega, rfl, rfl, brefl w⟩
  case round =>
    obtain ⟨k, hk, rfl, hall, hb⟩ := hrel
    have hall1 := Lib.hid hall
    clear hall
    by_cases hkl : k < xs.length
    · have hx : xs[k]? = some xs[k] := List.getElem?_eq_getElem hkl
      obtain ⟨x, hxe⟩ : ∃ x, x = xs[k] := ⟨_, rfl⟩
      rw [← hxe] at hx
      clear hxe
      obtain ⟨b, off, rfl, hob, hlb, r0, r1, u0, u1, u2, u3⟩ := (ha.below hb).res_at hx
      have hpx := hp wr x hb (List.mem_of_getElem? hx) (U64.of_lt u0 u1) (U64.of_lt u2 u3)
      clear hp
      obtain ⟨y, hq⟩ : ∃ y, y = p x := ⟨_, rfl⟩
      rw [← hq] at hpx
      have HX := Lib.hid hx
      have HQ := Lib.hid hq
      clear hq hx
      cases y
      · go_wp2_with (first
          | (go_at_call 265; refine hpx.mono ?_; clear hpx; rintro e w1 ⟨rfl, hb1⟩))
        go_roundw
        case rel => exact ⟨k + 1, by omega, by go_num, any_next HX.out hall1.out HQ.out.symm, bstep hb hb1⟩
        case measure => simp [intOf]; omega
      · go_wp2_with (first
          | (go_at_call 265; refine hpx.mono ?_; clear hpx; rintro e w1 ⟨rfl, hb1⟩))
        go_ret
        exact ⟨_, rfl, by rw [any_hit HX.out HQ.out.symm]; exact decide_eq_true (by omega), bstep hb hb1⟩
    · go_wp2_with fail
      go_ret
      exact ⟨_, rfl, any_none (by omega) hall1.out, hb⟩
theorem win_contains (xs : List Win) (w : World) (ok : Nat → Prop) (v : Value) (hv : Sl tWin w ok v xs) (p : Win → Bool) (B : Nat)
    (hp : ∀ (W : World) (x : Win), Below w.heap.size w W → x ∈ xs → U64 x.1 → U64 x.2 → Calls Tryz.prog 265 #[.agg #[.int .u64 x.1, .int .u64 x.2], .pointer (some ⟨B, 0, none⟩)] W fun e w' => e = .returned (.bool (p x)) ∧ Below W.heap.size W w') :
    Calls Tryz.prog 264 #[v, .func (.func 265) #[] #[.pointer (some ⟨B, 0, none⟩)]] w fun e w' => e = .returned (.bool (xs.any p)) ∧ Below w.heap.size w w' := by
  have hi := win_index xs w ok v hv p B hp
  go_enter Tryz.func264, Tryz.ntmps264
  go_wp2_with (first | (go_at_call 314; refine hi.mono ?_; clear hi; rintro e w1 ⟨r, rfl, hr, hb1⟩; have hr1 := Lib.hid hr; clear hr))
  go_ret
  exact ⟨by rw [← hr1.out]; rfl, hb1⟩
/-- Lines of somebody. -/
theorem wl_index (xs : List Wl) (w : World) (ok : Nat → Prop) (v : Value) (hv : Sl tWl w ok v xs) (p : Wl → Bool) (B : Nat)
    (hp : ∀ (W : World) (x : Wl) (A1 : Option Addr) (c1 : Nat) (A2 : Option Addr) (c2 : Nat), Below w.heap.size w W → x ∈ xs → 0 ≤ x.2.2 → x.2.2 < 4294967296 → Sl tInt W ok (.slice A1 x.1.length c1) x.1 → Sl tInt W ok (.slice A2 x.2.1.length c2) x.2.1 → Calls Tryz.prog 268 #[.agg #[.slice A1 x.1.length c1, .slice A2 x.2.1.length c2, .int .u32 x.2.2], .pointer (some ⟨B, 0, none⟩)] W fun e w' => e = .returned (.bool (p x)) ∧ Below W.heap.size W w') :
    Calls Tryz.prog 316 #[v, .func (.func 268) #[] #[.pointer (some ⟨B, 0, none⟩)]] w fun e w' => ∃ r, e = .returned (.int .i64 r) ∧ decide (0 ≤ r) = xs.any p ∧ Below w.heap.size w w' := by
  obtain ⟨A, c, rfl, hc, hl, ha⟩ := hv
  go_enter Tryz.func316, Tryz.ntmps316
  go_wp2_with fail
  go_loopw [8] (fun i wr => ∃ k : Nat, k ≤ xs.length ∧ i = .int .i64 k ∧ (xs.take k).any p = false ∧ Below w.heap.size w wr) (fun i _ => xs.length - (intOf i).toNat)
  case atStart => exact ⟨0, by omega, rfl, rfl, brefl w⟩
  case round =>
    obtain ⟨k, hk, rfl, hall, hb⟩ := hrel
    have hall1 := Lib.hid hall
    clear hall
    by_cases hkl : k < xs.length
    · have hx : xs[k]? = some xs[k] := List.getElem?_eq_getElem hkl
      obtain ⟨x, hxe⟩ : ∃ x, x = xs[k] := ⟨_, rfl⟩
      rw [← hxe] at hx
      clear hxe
      obtain ⟨b, off, A1, c1, A2, c2, rfl, hob, hlb, r0, r1, r2, hx0, hx1, hsx, hsy⟩ := (ha.below hb).wl_at hx
      have hpx := hp wr x A1 c1 A2 c2 hb (List.mem_of_getElem? hx) hx0 hx1 hsx hsy
      clear hp
      obtain ⟨y, hq⟩ : ∃ y, y = p x := ⟨_, rfl⟩
      rw [← hq] at hpx
      have HX := Lib.hid hx
      have HQ := Lib.hid hq
      clear hq hx
      cases y
      · go_wp2_with (first
          | (go_at_call 268; refine hpx.mono ?_; clear hpx; rintro e w1 ⟨rfl, hb1⟩))
        go_roundw
        case rel => exact ⟨k + 1, by omega, by go_num, any_next HX.out hall1.out HQ.out.symm, bstep hb hb1⟩
        case measure => simp [intOf]; omega
      · go_wp2_with (first
          | (go_at_call 268; refine hpx.mono ?_; clear hpx; rintro e w1 ⟨rfl, hb1⟩))
        go_ret
        exact ⟨_, rfl, by rw [any_hit HX.out HQ.out.symm]; exact decide_eq_true (by omega), bstep hb hb1⟩
    · go_wp2_with fail
      go_ret
      exact ⟨_, rfl, any_none (by omega) hall1.out, hb⟩
theorem wl_contains (xs : List Wl) (w : World) (ok : Nat → Prop) (v : Value) (hv : Sl tWl w ok v xs) (p : Wl → Bool) (B : Nat)
    (hp : ∀ (W : World) (x : Wl) (A1 : Option Addr) (c1 : Nat) (A2 : Option Addr) (c2 : Nat), Below w.heap.size w W → x ∈ xs → 0 ≤ x.2.2 → x.2.2 < 4294967296 → Sl tInt W ok (.slice A1 x.1.length c1) x.1 → Sl tInt W ok (.slice A2 x.2.1.length c2) x.2.1 → Calls Tryz.prog 268 #[.agg #[.slice A1 x.1.length c1, .slice A2 x.2.1.length c2, .int .u32 x.2.2], .pointer (some ⟨B, 0, none⟩)] W fun e w' => e = .returned (.bool (p x)) ∧ Below W.heap.size W w') :
    Calls Tryz.prog 267 #[v, .func (.func 268) #[] #[.pointer (some ⟨B, 0, none⟩)]] w fun e w' => e = .returned (.bool (xs.any p)) ∧ Below w.heap.size w w' := by
  have hi := wl_index xs w ok v hv p B hp
  go_enter Tryz.func267, Tryz.ntmps267
  go_wp2_with (first | (go_at_call 316; refine hi.mono ?_; clear hi; rintro e w1 ⟨r, rfl, hr, hb1⟩; have hr1 := Lib.hid hr; clear hr))
  go_ret
  exact ⟨by rw [← hr1.out]; rfl, hb1⟩
end Go.Proofs.YtdfknlhfdbbogaaGreatDoor
