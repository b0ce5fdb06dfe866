/-
  xlate.Ranges: a node's ranges. No condition.
-/
import Derived.Test.YtdfknlhfdbbogaaGreatDoorReg
namespace Go.Proofs.YtdfknlhfdbbogaaGreatDoor
open Go.RowKit
set_option linter.unusedSimpArgs false
set_option linter.unusedVariables false
theorem mod_cast4 (L a c s : Nat) : ((L : Int) % (4 * ((a : Int) + c + s))) = ((L % (4 * (a + c + s)) : Nat) : Int) := by simp
theorem cut_tail (b : List Int) (m : Nat) (hm : 1 ≤ m) : ∀ k, k < (cells4 b).length / m → ((cells4 b).drop (k * m)).length = (cells4 b).length - k * m ∧ m ≤ (cells4 b).length - k * m := by
  intro k hk
  refine ⟨by simp, ?_⟩
  have h1 : (k + 1) * m ≤ (cells4 b).length := Nat.le_trans (Nat.mul_le_mul_right _ hk) (Nat.div_mul_le_self _ _)
  rw [Nat.add_mul, Nat.one_mul] at h1
  omega
theorem cut_end (b : List Int) (m : Nat) (hm : 1 ≤ m) (hdiv : b.length % (4 * m) = 0) : (cells4 b).length - (cells4 b).length / m * m = 0 := by
  rw [cells4_length]
  have h1 : b.length = 4 * m * (b.length / (4 * m)) := by have := Nat.div_add_mod b.length (4 * m); omega
  obtain ⟨q, hq⟩ : ∃ q, q = b.length / (4 * m) := ⟨_, rfl⟩
  rw [← hq] at h1
  have h2 : b.length / 4 = m * q := by rw [h1, Nat.mul_assoc]; exact Nat.mul_div_cancel_left _ (by decide)
  rw [h2, Nat.mul_div_cancel_left _ (by omega), Nat.mul_comm]
  omega
abbrev tRng : Ty Rng := tPair tU64 (tPair tU64 tU64)
theorem elRng : El tRng 323 326 24 := El.mk' (z := .agg #[.int .u64 0, .int .u64 0, .int .u64 0]) Tryz.underlying323 (by kernel_rfl) rfl
theorem rep_rng {w : World} {ok : Nat → Prop} {a b c : Int} (ha : U64 a) (hb : U64 b) (hc : U64 c) : tRng.rep w ok (a, b, c) [.int .u64 a, .int .u64 b, .int .u64 c] := by
  obtain ⟨h1, h2⟩ := ha
  exact ⟨[_], [_, _], rfl, ⟨rfl, h1, by omega⟩, rep_win hb hc⟩
theorem rngW_length (a b s : Nat) (cells : List Int) : (rngW a b s cells).length = cells.length / (a + b + s) := by simp [rngW]
theorem rngW_get {a b s k : Nat} {cells : List Int} (h : k < cells.length / (a + b + s)) : (rngW a b s cells)[k]? = some (wideN ((cells.drop (k * (a + b + s))).take a), wideN (((cells.drop (k * (a + b + s))).drop a).take b), wideN (((cells.drop (k * (a + b + s))).drop (a + b)).take s)) := by
  unfold rngW
  rw [List.getElem?_map, List.getElem?_range h]
  simp only [Option.map_some, List.drop_drop, Nat.add_assoc]
/-- The one range that is all addresses but the last. -/
theorem sl_whole (w w0 : World) (h : w0.heap.size ≤ w.heap.size) : Sl tRng (w.alloc (.cells #[.int .u64 0, .int .u64 0, .int .u64 18446744073709551615] 326)) (w0.heap.size ≤ ·) (.slice (some ⟨w.heap.size, 0, none⟩) 1 1) [(0, 0, big - 1)] := by
  refine ⟨_, _, rfl, Nat.le_refl _, by decide, [.int .u64 0, .int .u64 0, .int .u64 18446744073709551615], Reps.single (rep_rng ⟨by decide, by decide⟩ ⟨by decide, by decide⟩ ⟨by decide, by decide⟩), fun _ => ⟨_, _, rfl, h, by simp, fun j u hu => ?_⟩⟩
  exact bcellAt (blast _ _ _ rfl) _ (by simpa using hu)
set_option maxRecDepth 100000 in
set_option maxHeartbeats 2000000 in
theorem ranges_walk (p n : Nd) (hp : p.size ≤ 1073741824) (hsz : n.size ≤ 1073741824) (w : World) (okp okn : Nat → Prop) (vp v : Value) (hvp : NdV w okp vp p) (hv : NdV w okn v n) :
    Calls Tryz.prog 183 #[vp, v] w fun e w' => ∃ v', e = .returned (.tuple #[v', .bool (rangesM p n).2.1, .int .i64 (rangesM p n).2.2]) ∧ Sl tRng w' (w.heap.size ≤ ·) v' (rangesM p n).1 ∧ Below w.heap.size w w' := by
  have hfind := fun w1 (h : Below w.heap.size w w1) => find_walk n hsz rangesS w1 okn _ (hv.below h)
  have e1 : rangesS = ⟨#[114, 97, 110, 103, 101, 115]⟩ := rfl
  have hcn := fun w1 (h : Below w.heap.size w w1) => counts_walk n hsz w1 okn _ (hv.below h)
  have hcp := fun w1 (h : Below w.heap.size w w1) => counts_walk p hp w1 okp _ (hvp.below h)
  have hcle := countsM_le p
  have hcle2 := countsM_le n
  have hfs : ∀ b, n.find rangesS = some b → b.length ≤ 1073741824 ∧ ∀ x ∈ b, 0 ≤ x ∧ x < 256 := fun b h => ⟨find_size hsz h, by obtain ⟨_, _, _, _, _, _, _, h2, _, _, _⟩ := hv.form; exact findP_bytes h2 h⟩
  obtain ⟨A1, c1, B1, d1, rfl, _, _, _, _, _, _⟩ := hvp.form
  obtain ⟨A2, c2, B2, d2, rfl, _, _, _, _, _, _⟩ := hv.form
  have hd : rangesM p n = match n.find rangesS with
    | none => ([], false, 0)
    | some b =>
      if (countsM n).2.2 ≠ 0 then ([], false, (countsM n).2.2)
      else if (countsM p).2.2 ≠ 0 then ([], false, (countsM p).2.2)
      else if (countsM n).1 = 0 ∨ (countsM p).1 = 0 ∨ b.length % (4 * ((countsM n).1.toNat + (countsM p).1.toNat + (countsM n).2.1.toNat)) ≠ 0 then ([], false, 10)
      else if b = [] then ([(0, 0, big - 1)], true, 0)
      else (rngW (countsM n).1.toNat (countsM p).1.toNat (countsM n).2.1.toNat (cells4 b), true, 0) := rfl
  rw [hd]
  clear hd
  obtain ⟨a, s, e0, hc⟩ : ∃ a s e0, countsM n = (a, s, e0) := ⟨_, _, _, rfl⟩
  obtain ⟨c, t, f0', hc'⟩ : ∃ c t f0', countsM p = (c, t, f0') := ⟨_, _, _, rfl⟩
  rw [hc] at hcn hcle2 ⊢
  rw [hc'] at hcp hcle ⊢
  simp only at hcn hcp hcle hcle2 ⊢
  clear hc hc'
  obtain ⟨c0, c2', t0, t2⟩ := hcle
  obtain ⟨a0, a2, s0, s2⟩ := hcle2
  obtain ⟨a, rfl⟩ := Int.eq_ofNat_of_zero_le a0
  obtain ⟨s, rfl⟩ := Int.eq_ofNat_of_zero_le s0
  obtain ⟨c, rfl⟩ := Int.eq_ofNat_of_zero_le c0
  have a2 : a ≤ 2 := by omega
  have s2 : s ≤ 2 := by omega
  have c2' : c ≤ 2 := by omega
  cases hf : n.find rangesS with
  | none =>
    simp only [hf, Option.isSome_none, Option.getD_none] at hfind
    simp only [e1] at hfind
    clear hfs hf e1
    go_enter Tryz.func183, Tryz.ntmps183
    go_wp2_with (first
      | (go_at_call 198; refine (hfind _ (by repeat (first | assumption | exact Below.refl _ _ | with_reducible refine bset ?_ (by simp) _ | with_reducible refine balloc ?_ _ | with_reducible refine bdrew ?_ | with_reducible refine bdrewN ?_ _ | with_reducible refine bstep ?_ (by assumption)))).mono ?_; clear hfind; rintro e w1 ⟨v1, rfl, hr1, hb1⟩; have hs1 := hr1.sl; obtain ⟨A5, c5, rfl, hA5⟩ := hr1.form; clear hA5 hr1; have hbox := bblock (blast (w.alloc _) _ (w.heap.size + 1) (by simp)) hb1; have f0 := bcellAt hbox 0 rfl; have f1 := bcellAt hbox 1 rfl; have f2 := bcellAt hbox 2 rfl; have hboxp := bblock (bblock_alloc (blast w _ _ rfl) _) hb1; have p0 := bcellAt hboxp 0 rfl; have p1 := bcellAt hboxp 1 rfl; have p2 := bcellAt hboxp 2 rfl; have hbw := bstep (balloc (balloc (brefl w) _) _) hb1))
    go_ret3
    exact ⟨_, rfl, Sl.nil 0 none, (by repeat (first | assumption | exact Below.refl _ _ | with_reducible refine bset ?_ (by simp) _ | with_reducible refine balloc ?_ _ | with_reducible refine bdrew ?_ | with_reducible refine bdrewN ?_ _ | with_reducible refine bstep ?_ (by assumption)))⟩
  | some b =>
    obtain ⟨hb, hbd⟩ := hfs b hf
    simp only [hf, Option.isSome_some, Option.getD_some] at hfind
    simp only [e1] at hfind
    simp only [Int.toNat_natCast]
    clear hfs hf e1
    by_cases g1 : e0 = 0
    · subst g1
      rw [if_neg (by simp)]
      by_cases g1 : f0' = 0
      · subst g1
        rw [if_neg (by simp)]
        by_cases g2 : (a : Int) = 0 ∨ (c : Int) = 0 ∨ b.length % (4 * (a + c + s)) ≠ 0
        · rw [if_pos g2]
          by_cases g3 : a = 0
          · subst g3
            clear g2
            go_enter Tryz.func183, Tryz.ntmps183
            go_wp2_with (first
              | (go_at_call 198; refine (hfind _ (by repeat (first | assumption | exact Below.refl _ _ | with_reducible refine bset ?_ (by simp) _ | with_reducible refine balloc ?_ _ | with_reducible refine bdrew ?_ | with_reducible refine bdrewN ?_ _ | with_reducible refine bstep ?_ (by assumption)))).mono ?_; clear hfind; rintro e w1 ⟨v1, rfl, hr1, hb1⟩; have hs1 := hr1.sl; obtain ⟨A5, c5, rfl, hA5⟩ := hr1.form; clear hA5 hr1; have hbox := bblock (blast (w.alloc _) _ (w.heap.size + 1) (by simp)) hb1; have f0 := bcellAt hbox 0 rfl; have f1 := bcellAt hbox 1 rfl; have f2 := bcellAt hbox 2 rfl; have hboxp := bblock (bblock_alloc (blast w _ _ rfl) _) hb1; have p0 := bcellAt hboxp 0 rfl; have p1 := bcellAt hboxp 1 rfl; have p2 := bcellAt hboxp 2 rfl; have hbw := bstep (balloc (balloc (brefl w) _) _) hb1)
              | (go_at_call 277; (with_reducible refine (hcn _ ?_).mono ?_); exact (by repeat (first | assumption | exact Below.refl _ _ | with_reducible refine bset ?_ (by simp) _ | with_reducible refine balloc ?_ _ | with_reducible refine bdrew ?_ | with_reducible refine bdrewN ?_ _ | with_reducible refine bstep ?_ (by assumption))); clear hcn; rintro e w2 ⟨rfl, hb2⟩; replace hboxp := bblock hboxp hb2; replace p0 := bcellAt hboxp 0 rfl; replace p1 := bcellAt hboxp 1 rfl; replace p2 := bcellAt hboxp 2 rfl; have hbw2 := bstep hbw hb2)
              | (go_at_call 277; (with_reducible refine (hcp _ ?_).mono ?_); exact (by repeat (first | assumption | exact Below.refl _ _ | with_reducible refine bset ?_ (by simp) _ | with_reducible refine balloc ?_ _ | with_reducible refine bdrew ?_ | with_reducible refine bdrewN ?_ _ | with_reducible refine bstep ?_ (by assumption))); clear hcp; rintro e w3 ⟨rfl, hb3⟩; have hbw3 := bstep hbw2 hb3))
            go_ret3
            exact ⟨_, rfl, Sl.nil 0 none, (by repeat (first | assumption | exact Below.refl _ _ | with_reducible refine bset ?_ (by simp) _ | with_reducible refine balloc ?_ _ | with_reducible refine bdrew ?_ | with_reducible refine bdrewN ?_ _ | with_reducible refine bstep ?_ (by assumption)))⟩
          · have q1 : ((a : Int) == 0) = false := by rw [beq_eq_false_iff_ne]; omega
            by_cases g5 : c = 0
            · subst g5
              clear g2
              go_enter Tryz.func183, Tryz.ntmps183
              go_wp2_with (first
                | (go_at_call 198; refine (hfind _ (by repeat (first | assumption | exact Below.refl _ _ | with_reducible refine bset ?_ (by simp) _ | with_reducible refine balloc ?_ _ | with_reducible refine bdrew ?_ | with_reducible refine bdrewN ?_ _ | with_reducible refine bstep ?_ (by assumption)))).mono ?_; clear hfind; rintro e w1 ⟨v1, rfl, hr1, hb1⟩; have hs1 := hr1.sl; obtain ⟨A5, c5, rfl, hA5⟩ := hr1.form; clear hA5 hr1; have hbox := bblock (blast (w.alloc _) _ (w.heap.size + 1) (by simp)) hb1; have f0 := bcellAt hbox 0 rfl; have f1 := bcellAt hbox 1 rfl; have f2 := bcellAt hbox 2 rfl; have hboxp := bblock (bblock_alloc (blast w _ _ rfl) _) hb1; have p0 := bcellAt hboxp 0 rfl; have p1 := bcellAt hboxp 1 rfl; have p2 := bcellAt hboxp 2 rfl; have hbw := bstep (balloc (balloc (brefl w) _) _) hb1)
                | (go_at_call 277; (with_reducible refine (hcn _ ?_).mono ?_); exact (by repeat (first | assumption | exact Below.refl _ _ | with_reducible refine bset ?_ (by simp) _ | with_reducible refine balloc ?_ _ | with_reducible refine bdrew ?_ | with_reducible refine bdrewN ?_ _ | with_reducible refine bstep ?_ (by assumption))); clear hcn; rintro e w2 ⟨rfl, hb2⟩; replace hboxp := bblock hboxp hb2; replace p0 := bcellAt hboxp 0 rfl; replace p1 := bcellAt hboxp 1 rfl; replace p2 := bcellAt hboxp 2 rfl; have hbw2 := bstep hbw hb2)
                | (go_at_call 277; (with_reducible refine (hcp _ ?_).mono ?_); exact (by repeat (first | assumption | exact Below.refl _ _ | with_reducible refine bset ?_ (by simp) _ | with_reducible refine balloc ?_ _ | with_reducible refine bdrew ?_ | with_reducible refine bdrewN ?_ _ | with_reducible refine bstep ?_ (by assumption))); clear hcp; rintro e w3 ⟨rfl, hb3⟩; have hbw3 := bstep hbw2 hb3))
              go_ret3
              exact ⟨_, rfl, Sl.nil 0 none, (by repeat (first | assumption | exact Below.refl _ _ | with_reducible refine bset ?_ (by simp) _ | with_reducible refine balloc ?_ _ | with_reducible refine bdrew ?_ | with_reducible refine bdrewN ?_ _ | with_reducible refine bstep ?_ (by assumption)))⟩
            · have g4 : b.length % (4 * (a + c + s)) ≠ 0 := by rcases g2 with h | h | h; omega; omega; exact h
              have q3 : ((c : Int) == 0) = false := by rw [beq_eq_false_iff_ne]; omega
              have q2 : (((b.length : Int) % (4 * ((a : Int) + c + s))) != 0) = true := by rw [bne_iff_ne, mod_cast4]; exact Int.natCast_ne_zero.2 g4
              have l1 : 1 ≤ a := by omega
              clear g2 g3 g4 g5
              go_enter Tryz.func183, Tryz.ntmps183
              go_wp2_with (first
                | (go_at_call 198; refine (hfind _ (by repeat (first | assumption | exact Below.refl _ _ | with_reducible refine bset ?_ (by simp) _ | with_reducible refine balloc ?_ _ | with_reducible refine bdrew ?_ | with_reducible refine bdrewN ?_ _ | with_reducible refine bstep ?_ (by assumption)))).mono ?_; clear hfind; rintro e w1 ⟨v1, rfl, hr1, hb1⟩; have hs1 := hr1.sl; obtain ⟨A5, c5, rfl, hA5⟩ := hr1.form; clear hA5 hr1; have hbox := bblock (blast (w.alloc _) _ (w.heap.size + 1) (by simp)) hb1; have f0 := bcellAt hbox 0 rfl; have f1 := bcellAt hbox 1 rfl; have f2 := bcellAt hbox 2 rfl; have hboxp := bblock (bblock_alloc (blast w _ _ rfl) _) hb1; have p0 := bcellAt hboxp 0 rfl; have p1 := bcellAt hboxp 1 rfl; have p2 := bcellAt hboxp 2 rfl; have hbw := bstep (balloc (balloc (brefl w) _) _) hb1)
                | (go_at_call 277; (with_reducible refine (hcn _ ?_).mono ?_); exact (by repeat (first | assumption | exact Below.refl _ _ | with_reducible refine bset ?_ (by simp) _ | with_reducible refine balloc ?_ _ | with_reducible refine bdrew ?_ | with_reducible refine bdrewN ?_ _ | with_reducible refine bstep ?_ (by assumption))); clear hcn; rintro e w2 ⟨rfl, hb2⟩; replace hboxp := bblock hboxp hb2; replace p0 := bcellAt hboxp 0 rfl; replace p1 := bcellAt hboxp 1 rfl; replace p2 := bcellAt hboxp 2 rfl; have hbw2 := bstep hbw hb2)
                | (go_at_call 277; (with_reducible refine (hcp _ ?_).mono ?_); exact (by repeat (first | assumption | exact Below.refl _ _ | with_reducible refine bset ?_ (by simp) _ | with_reducible refine balloc ?_ _ | with_reducible refine bdrew ?_ | with_reducible refine bdrewN ?_ _ | with_reducible refine bstep ?_ (by assumption))); clear hcp; rintro e w3 ⟨rfl, hb3⟩; have hbw3 := bstep hbw2 hb3))
              go_ret3
              exact ⟨_, rfl, Sl.nil 0 none, (by repeat (first | assumption | exact Below.refl _ _ | with_reducible refine bset ?_ (by simp) _ | with_reducible refine balloc ?_ _ | with_reducible refine bdrew ?_ | with_reducible refine bdrewN ?_ _ | with_reducible refine bstep ?_ (by assumption)))⟩
        · rw [if_neg g2]
          have l1 : 1 ≤ a := by omega
          have l2 : 1 ≤ c := by omega
          have g4 : b.length % (4 * (a + c + s)) = 0 := Classical.byContradiction fun h => g2 (.inr (.inr h))
          have q1 : ((a : Int) == 0) = false := by rw [beq_eq_false_iff_ne]; omega
          have q3 : ((c : Int) == 0) = false := by rw [beq_eq_false_iff_ne]; omega
          have q2 : (((b.length : Int) % (4 * ((a : Int) + c + s))) != 0) = false := by rw [bne_eq_false_iff_eq, mod_cast4, g4]; rfl
          clear g2
          by_cases g6 : b = []
          · rw [if_pos g6]
            have q4 : ((b.length : Int) == 0) = true := by rw [g6]; rfl
            clear g4 g6
            go_enter Tryz.func183, Tryz.ntmps183
            go_wp2_with (first
              | (go_at_call 198; refine (hfind _ (by repeat (first | assumption | exact Below.refl _ _ | with_reducible refine bset ?_ (by simp) _ | with_reducible refine balloc ?_ _ | with_reducible refine bdrew ?_ | with_reducible refine bdrewN ?_ _ | with_reducible refine bstep ?_ (by assumption)))).mono ?_; clear hfind; rintro e w1 ⟨v1, rfl, hr1, hb1⟩; have hs1 := hr1.sl; obtain ⟨A5, c5, rfl, hA5⟩ := hr1.form; clear hA5 hr1; have hbox := bblock (blast (w.alloc _) _ (w.heap.size + 1) (by simp)) hb1; have f0 := bcellAt hbox 0 rfl; have f1 := bcellAt hbox 1 rfl; have f2 := bcellAt hbox 2 rfl; have hboxp := bblock (bblock_alloc (blast w _ _ rfl) _) hb1; have p0 := bcellAt hboxp 0 rfl; have p1 := bcellAt hboxp 1 rfl; have p2 := bcellAt hboxp 2 rfl; have hbw := bstep (balloc (balloc (brefl w) _) _) hb1)
              | (go_at_call 277; (with_reducible refine (hcn _ ?_).mono ?_); exact (by repeat (first | assumption | exact Below.refl _ _ | with_reducible refine bset ?_ (by simp) _ | with_reducible refine balloc ?_ _ | with_reducible refine bdrew ?_ | with_reducible refine bdrewN ?_ _ | with_reducible refine bstep ?_ (by assumption))); clear hcn; rintro e w2 ⟨rfl, hb2⟩; replace hboxp := bblock hboxp hb2; replace p0 := bcellAt hboxp 0 rfl; replace p1 := bcellAt hboxp 1 rfl; replace p2 := bcellAt hboxp 2 rfl; have hbw2 := bstep hbw hb2)
              | (go_at_call 277; (with_reducible refine (hcp _ ?_).mono ?_); exact (by repeat (first | assumption | exact Below.refl _ _ | with_reducible refine bset ?_ (by simp) _ | with_reducible refine balloc ?_ _ | with_reducible refine bdrew ?_ | with_reducible refine bdrewN ?_ _ | with_reducible refine bstep ?_ (by assumption))); clear hcp; rintro e w3 ⟨rfl, hb3⟩; have hbw3 := bstep hbw2 hb3))
            go_ret3
            exact ⟨_, rfl, sl_whole _ _ (by have := hbw3.size; omega), (by repeat (first | assumption | exact Below.refl _ _ | with_reducible refine bset ?_ (by simp) _ | with_reducible refine balloc ?_ _ | with_reducible refine bdrew ?_ | with_reducible refine bdrewN ?_ _ | with_reducible refine bstep ?_ (by assumption)))⟩
          · rw [if_neg g6]
            have hblen : 0 < b.length := by rcases b with _ | _; exact absurd rfl g6; simp
            have q4 : ((b.length : Int) == 0) = false := by rw [beq_eq_false_iff_ne]; omega
            have htail := cut_tail b (a + c + s) (by omega)
            have hend := cut_end b (a + c + s) (by omega) g4
            have hc4 := cells4_bounds hbd
            have hcm : cellsM b = (cells4 b, 0) := by
              unfold cellsM
              rw [if_neg]
              intro h
              apply h
              have h3 : 4 * (a + c + s) ∣ b.length := Nat.dvd_of_mod_eq_zero g4
              exact Nat.mod_eq_zero_of_dvd (Nat.dvd_trans (Nat.dvd_mul_right 4 (a + c + s)) h3)
            have hcells := fun w1 ok v hv => cells_walk b hb w1 ok v hv
            rw [hcm] at hcells
            have hcl : (cells4 b).length ≤ 268435456 := by rw [cells4_length]; omega
            have HT := Lib.hid htail
            have HE := Lib.hid hend
            obtain ⟨cs, hcs⟩ : ∃ cs, cs = cells4 b := ⟨_, rfl⟩
            rw [← hcs] at HT HE hc4 hcells hcl ⊢
            obtain ⟨q, hq⟩ : ∃ q, q = cs.length / (a + c + s) := ⟨_, rfl⟩
            have hqle : q ≤ cs.length := by rw [hq]; exact Nat.div_le_self _ _
            rw [← hq] at HT HE
            have hget := fun k (h : k < q) => rngW_get (a := a) (b := c) (s := s) (k := k) (cells := cs) (by rw [← hq]; exact h)
            have hrl : (rngW a c s cs).length = q := by rw [rngW_length, ← hq]
            have HRL := Lib.hid hrl
            clear g4 g6 htail hend hcm hcs hq hrl
            simp only at hcells
            go_enter Tryz.func183, Tryz.ntmps183
            go_wp2_with (first
              | (go_at_call 198; refine (hfind _ (by repeat (first | assumption | exact Below.refl _ _ | with_reducible refine bset ?_ (by simp) _ | with_reducible refine balloc ?_ _ | with_reducible refine bdrew ?_ | with_reducible refine bdrewN ?_ _ | with_reducible refine bstep ?_ (by assumption)))).mono ?_; clear hfind; rintro e w1 ⟨v1, rfl, hr1, hb1⟩; have hs1 := hr1.sl; obtain ⟨A5, c5, rfl, hA5⟩ := hr1.form; clear hA5 hr1; have hbox := bblock (blast (w.alloc _) _ (w.heap.size + 1) (by simp)) hb1; have f0 := bcellAt hbox 0 rfl; have f1 := bcellAt hbox 1 rfl; have f2 := bcellAt hbox 2 rfl; have hboxp := bblock (bblock_alloc (blast w _ _ rfl) _) hb1; have p0 := bcellAt hboxp 0 rfl; have p1 := bcellAt hboxp 1 rfl; have p2 := bcellAt hboxp 2 rfl; have hbw := bstep (balloc (balloc (brefl w) _) _) hb1)
              | (go_at_call 277; (with_reducible refine (hcn _ ?_).mono ?_); exact (by repeat (first | assumption | exact Below.refl _ _ | with_reducible refine bset ?_ (by simp) _ | with_reducible refine balloc ?_ _ | with_reducible refine bdrew ?_ | with_reducible refine bdrewN ?_ _ | with_reducible refine bstep ?_ (by assumption))); clear hcn; rintro e w2 ⟨rfl, hb2⟩; replace hboxp := bblock hboxp hb2; replace p0 := bcellAt hboxp 0 rfl; replace p1 := bcellAt hboxp 1 rfl; replace p2 := bcellAt hboxp 2 rfl; have hbw2 := bstep hbw hb2)
              | (go_at_call 277; (with_reducible refine (hcp _ ?_).mono ?_); exact (by repeat (first | assumption | exact Below.refl _ _ | with_reducible refine bset ?_ (by simp) _ | with_reducible refine balloc ?_ _ | with_reducible refine bdrew ?_ | with_reducible refine bdrewN ?_ _ | with_reducible refine bstep ?_ (by assumption))); clear hcp; rintro e w3 ⟨rfl, hb3⟩; have hbw3 := bstep hbw2 hb3)
              | (go_at_call 278; refine (hcells _ _ _ (hs1.below (bstep hb2 hb3))).mono ?_; clear hcells; rintro e w4 ⟨v4, rfl, hr4, hb4⟩; obtain ⟨A6, c6, rfl, hc6, hl6, ha6⟩ := hr4.form; have hbw4 := bstep hbw3 hb4; clear hr4 hs1))
            
            have ha7 : SlA tU32 w4 (· < w4.heap.size) A6 cs := ha6.mono fun k h h2 => h2
            have hws := hbw4.size
            obtain ⟨S3, hS3⟩ : ∃ S3, S3 = w4.heap.size := ⟨_, rfl⟩
            rw [← hS3] at ha7 hws
            have hS4 : S3 ≤ w4.heap.size := by omega
            clear ha6 q1 q2 q3 q4 hbox f0 f1 f2 hboxp p0 p1 p2
            go_loopw [14, 16] (fun cc l wr => ∃ (k n : Nat) (A' : Option Addr) (c' : Nat), k ≤ q ∧ n = cs.length - k * (a + c + s) ∧ cc = .slice A' n c' ∧ n ≤ c' ∧ SlA tU32 wr (· < S3) A' (cs.drop (k * (a + c + s))) ∧ Row tRng 326 wr S3 l ((rngW a c s cs).take k) ∧ S3 ≤ wr.heap.size ∧ Below w.heap.size w wr) (fun c _ _ => slLen c)
            case atStart => exact ⟨0, cs.length, A6, c6, by omega, by simp, rfl, hc6, by simpa using ha7, Own.nil, hS4, hbw4⟩
            case round =>
              clear ha7 hbw4 hb4 hbw3 hb3 hbw2 hb2 hbw hb1 hS3 hS4
              obtain ⟨k, m, A7, c7, hk, hm, rfl, hc7, ha7, hrow, hsz3, hb⟩ := hrel
              by_cases hkl : k < q
              · obtain ⟨ht1, ht2⟩ := HT.out k hkl
                rw [← hm] at ht1 ht2
                have hg := hget k hkl
                obtain ⟨rest, hrest⟩ : ∃ rest, rest = cs.drop (k * (a + c + s)) := ⟨_, rfl⟩
                have hrb : ∀ x ∈ rest, 0 ≤ x ∧ x < 4294967296 := fun x h => hc4 x (List.mem_of_mem_drop (by rw [← hrest]; exact h))
                have hdrop : cs.drop ((k + 1) * (a + c + s)) = rest.drop (a + c + s) := by rw [hrest, List.drop_drop, Nat.add_mul, Nat.one_mul]
                rw [← hrest] at ha7 ht1 hg
                have hml : m ≤ 268435456 := by omega
                have hm0 : 0 < m := by omega
                have hW1 := fun w1 v h => wide_walk (rest.take a) (by rw [List.length_take]; omega) w1 (· < S3) v h
                have hW2 := fun w1 v h => wide_walk ((rest.drop a).take c) (by rw [List.length_take]; omega) w1 (· < S3) v h
                have hW3 := fun w1 v h => wide_walk ((rest.drop (a + c)).take s) (by rw [List.length_take]; omega) w1 (· < S3) v h
                have hC1 := fun w1 (h : Below wr.heap.size wr w1) => Sl.cut0 (T := tU32) rfl (ha7.below h) (c := c7) (by omega) (by omega) a (by omega)
                have hC2 := fun w1 (h : Below wr.heap.size wr w1) => Sl.cut (T := tU32) rfl (ha7.below h) (c := c7) (by omega) (by omega) a c (by omega)
                have hC4 := fun w1 (h : Below wr.heap.size wr w1) => Sl.cutIf (T := tU32) rfl (ha7.below h) (c := c7) (by omega) (by omega) (a + c) s (by omega)
                have hC3 := fun (w1 : World) (h : ∀ k, k < S3 → w1.heap[k]? = wr.heap[k]?) => Sl.cutIf (T := tU32) rfl (ha7.move fun k hk _ => h k hk) (c := c7) (by omega) (by omega) (a + c + s) (m - (a + c + s)) (by omega)
                have hu1 := wideN_u64 (rest.take a) (fun x h => hrb x (List.mem_of_mem_take h)) (by rw [List.length_take]; omega)
                have hu2 := wideN_u64 ((rest.drop a).take c) (fun x h => hrb x (List.mem_of_mem_drop (List.mem_of_mem_take h))) (by rw [List.length_take]; omega)
                have hu3 := wideN_u64 ((rest.drop (a + c)).take s) (fun x h => hrb x (List.mem_of_mem_drop (List.mem_of_mem_take h))) (by rw [List.length_take]; omega)
                obtain ⟨x1, hx1⟩ : ∃ x1, x1 = wideN (rest.take a) := ⟨_, rfl⟩
                obtain ⟨x2, hx2⟩ : ∃ x2, x2 = wideN ((rest.drop a).take c) := ⟨_, rfl⟩
                obtain ⟨x3, hx3⟩ : ∃ x3, x3 = wideN ((rest.drop (a + c)).take s) := ⟨_, rfl⟩
                simp only [← hx1] at hW1 hg hu1
                simp only [← hx2] at hW2 hg hu2
                simp only [← hx3] at hW3 hg hu3
                have HG := Lib.hid hg
                have HD := Lib.hid hdrop
                have HM := Lib.hid hm
                have H1 := Lib.hid ht1
                have HC1 := Lib.hid hC1
                have HC2 := Lib.hid hC2
                have HC3 := Lib.hid hC3
                have HC4 := Lib.hid hC4
                clear hx1 hx2 hx3 hg hdrop hm hrest ht1 hC1 hC2 hC3 hC4 hget HT hc4 hrb
                go_wp2_with (first
                  | (go_at_call 279; (refine (hW1 _ _ ?_).mono ?_); exact HC1.out _ (by repeat (first | assumption | exact Below.refl _ _ | with_reducible refine bset ?_ (by simp) _ | with_reducible refine balloc ?_ _ | with_reducible refine bdrew ?_ | with_reducible refine bdrewN ?_ _ | with_reducible refine bstep ?_ (by assumption))); clear hW1; rintro e w5 ⟨rfl, hw5⟩; replace hw5 := hw5.symm; subst hw5)
                  | (go_at_call 279; (refine (hW2 _ _ ?_).mono ?_); exact HC2.out _ (by repeat (first | assumption | exact Below.refl _ _ | with_reducible refine bset ?_ (by simp) _ | with_reducible refine balloc ?_ _ | with_reducible refine bdrew ?_ | with_reducible refine bdrewN ?_ _ | with_reducible refine bstep ?_ (by assumption))); clear hW2; rintro e w6 ⟨rfl, hw6⟩; replace hw6 := hw6.symm; subst hw6)
                  | (go_at_call 279; (refine (hW3 _ _ ?_).mono ?_); exact HC4.out _ (by repeat (first | assumption | exact Below.refl _ _ | with_reducible refine bset ?_ (by simp) _ | with_reducible refine balloc ?_ _ | with_reducible refine bdrew ?_ | with_reducible refine bdrewN ?_ _ | with_reducible refine bstep ?_ (by assumption))); clear hW3; rintro e w7 ⟨rfl, hw7⟩; replace hw7 := hw7.symm; subst hw7)
                  | (at_builtin; refine wpList_row1 rfl elRng _ _ rfl (hrow.below (by repeat (first | assumption | exact Below.refl _ _ | with_reducible refine bset ?_ (by simp) _ | with_reducible refine balloc ?_ _ | with_reducible refine bdrew ?_ | with_reducible refine bdrewN ?_ _ | with_reducible refine bstep ?_ (by assumption)))) rfl rfl (by first | exact blast _ _ _ (by simp) | simp) (rep_rng hu1 hu2 hu3) (by rw [List.length_take, HRL.out]; omega) (by have := hb.size; simp; omega) ?_; intro g cap w1 hrow1 hg1 hat1 hlt1))
                obtain ⟨A8, c8, he8, h81, h82, h83⟩ := HC3.out w1 (fun k hk => (hg1.block k (by simp; omega) (fun e => by have := (hrow.lt k e.symm).1; omega)).trans ((balloc (brefl wr) _).block k (by omega)))
                injection he8 with i1 i2 i3
                subst i1 i3
                have htk : (rest.drop (a + c + s)).take (m - (a + c + s)) = rest.drop (a + c + s) := List.take_of_length_le (by rw [List.length_drop, H1.out]; omega)
                rw [htk] at h83 h81
                rw [← HD.out] at h83
                rw [List.length_take, HRL.out, Nat.min_eq_left hk] at hrow1
                rw [← Nd.take_snoc HG.out] at hrow1
                go_roundw
                case rel => exact ⟨k + 1, m - (a + c + s), _, _, by omega, by have := HM.out; rw [Nat.add_mul, Nat.one_mul]; omega, rfl, by rw [List.length_drop, H1.out] at h81; exact h81, h83, by rw [HRL.out, Nat.min_eq_left hk]; exact hrow1, by have := hg1.size; simp at this; omega, bgrown (by repeat (first | assumption | exact Below.refl _ _ | with_reducible refine bset ?_ (by simp) _ | with_reducible refine balloc ?_ _ | with_reducible refine bdrew ?_ | with_reducible refine bdrewN ?_ _ | with_reducible refine bstep ?_ (by assumption))) hg1 (hrow.base (by omega))⟩
                case measure => simp only [slLen]; omega
              · obtain rfl : k = q := by omega
                have hm0 : m = 0 := by rw [hm]; exact HE.out
                subst hm0
                rw [List.take_of_length_le (by rw [HRL.out]; omega)] at hrow
                clear hget HT hc4 hm
                go_wp2_with fail
                go_ret3
                exact ⟨_, rfl, hrow.sl.mono (fun k h _ => Nat.le_trans hws h), hb⟩
      · rw [if_pos g1]
        have g3 : (f0' != 0) = true := by rw [bne_iff_ne]; exact g1
        go_enter Tryz.func183, Tryz.ntmps183
        go_wp2_with (first
          | (go_at_call 198; refine (hfind _ (by repeat (first | assumption | exact Below.refl _ _ | with_reducible refine bset ?_ (by simp) _ | with_reducible refine balloc ?_ _ | with_reducible refine bdrew ?_ | with_reducible refine bdrewN ?_ _ | with_reducible refine bstep ?_ (by assumption)))).mono ?_; clear hfind; rintro e w1 ⟨v1, rfl, hr1, hb1⟩; have hs1 := hr1.sl; obtain ⟨A5, c5, rfl, hA5⟩ := hr1.form; clear hA5 hr1; have hbox := bblock (blast (w.alloc _) _ (w.heap.size + 1) (by simp)) hb1; have f0 := bcellAt hbox 0 rfl; have f1 := bcellAt hbox 1 rfl; have f2 := bcellAt hbox 2 rfl; have hboxp := bblock (bblock_alloc (blast w _ _ rfl) _) hb1; have p0 := bcellAt hboxp 0 rfl; have p1 := bcellAt hboxp 1 rfl; have p2 := bcellAt hboxp 2 rfl; have hbw := bstep (balloc (balloc (brefl w) _) _) hb1)
          | (go_at_call 277; (with_reducible refine (hcn _ ?_).mono ?_); exact (by repeat (first | assumption | exact Below.refl _ _ | with_reducible refine bset ?_ (by simp) _ | with_reducible refine balloc ?_ _ | with_reducible refine bdrew ?_ | with_reducible refine bdrewN ?_ _ | with_reducible refine bstep ?_ (by assumption))); clear hcn; rintro e w2 ⟨rfl, hb2⟩; replace hboxp := bblock hboxp hb2; replace p0 := bcellAt hboxp 0 rfl; replace p1 := bcellAt hboxp 1 rfl; replace p2 := bcellAt hboxp 2 rfl; have hbw2 := bstep hbw hb2)
          | (go_at_call 277; (with_reducible refine (hcp _ ?_).mono ?_); exact (by repeat (first | assumption | exact Below.refl _ _ | with_reducible refine bset ?_ (by simp) _ | with_reducible refine balloc ?_ _ | with_reducible refine bdrew ?_ | with_reducible refine bdrewN ?_ _ | with_reducible refine bstep ?_ (by assumption))); clear hcp; rintro e w3 ⟨rfl, hb3⟩; have hbw3 := bstep hbw2 hb3))
        go_ret3
        exact ⟨_, rfl, Sl.nil 0 none, (by repeat (first | assumption | exact Below.refl _ _ | with_reducible refine bset ?_ (by simp) _ | with_reducible refine balloc ?_ _ | with_reducible refine bdrew ?_ | with_reducible refine bdrewN ?_ _ | with_reducible refine bstep ?_ (by assumption)))⟩
    · rw [if_pos g1]
      have g3 : (e0 != 0) = true := by rw [bne_iff_ne]; exact g1
      go_enter Tryz.func183, Tryz.ntmps183
      go_wp2_with (first
        | (go_at_call 198; refine (hfind _ (by repeat (first | assumption | exact Below.refl _ _ | with_reducible refine bset ?_ (by simp) _ | with_reducible refine balloc ?_ _ | with_reducible refine bdrew ?_ | with_reducible refine bdrewN ?_ _ | with_reducible refine bstep ?_ (by assumption)))).mono ?_; clear hfind; rintro e w1 ⟨v1, rfl, hr1, hb1⟩; have hs1 := hr1.sl; obtain ⟨A5, c5, rfl, hA5⟩ := hr1.form; clear hA5 hr1; have hbox := bblock (blast (w.alloc _) _ (w.heap.size + 1) (by simp)) hb1; have f0 := bcellAt hbox 0 rfl; have f1 := bcellAt hbox 1 rfl; have f2 := bcellAt hbox 2 rfl; have hboxp := bblock (bblock_alloc (blast w _ _ rfl) _) hb1; have p0 := bcellAt hboxp 0 rfl; have p1 := bcellAt hboxp 1 rfl; have p2 := bcellAt hboxp 2 rfl; have hbw := bstep (balloc (balloc (brefl w) _) _) hb1)
        | (go_at_call 277; (with_reducible refine (hcn _ ?_).mono ?_); exact (by repeat (first | assumption | exact Below.refl _ _ | with_reducible refine bset ?_ (by simp) _ | with_reducible refine balloc ?_ _ | with_reducible refine bdrew ?_ | with_reducible refine bdrewN ?_ _ | with_reducible refine bstep ?_ (by assumption))); clear hcn; rintro e w2 ⟨rfl, hb2⟩; replace hboxp := bblock hboxp hb2; replace p0 := bcellAt hboxp 0 rfl; replace p1 := bcellAt hboxp 1 rfl; replace p2 := bcellAt hboxp 2 rfl; have hbw2 := bstep hbw hb2)
        | (go_at_call 277; (with_reducible refine (hcp _ ?_).mono ?_); exact (by repeat (first | assumption | exact Below.refl _ _ | with_reducible refine bset ?_ (by simp) _ | with_reducible refine balloc ?_ _ | with_reducible refine bdrew ?_ | with_reducible refine bdrewN ?_ _ | with_reducible refine bstep ?_ (by assumption))); clear hcp; rintro e w3 ⟨rfl, hb3⟩; have hbw3 := bstep hbw2 hb3))
      go_ret3
      exact ⟨_, rfl, Sl.nil 0 none, (by repeat (first | assumption | exact Below.refl _ _ | with_reducible refine bset ?_ (by simp) _ | with_reducible refine balloc ?_ _ | with_reducible refine bdrew ?_ | with_reducible refine bdrewN ?_ _ | with_reducible refine bstep ?_ (by assumption)))⟩
end Go.Proofs.YtdfknlhfdbbogaaGreatDoor
