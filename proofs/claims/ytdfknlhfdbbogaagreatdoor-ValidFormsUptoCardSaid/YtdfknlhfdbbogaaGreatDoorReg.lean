/-
  region.Reg: a node's windows. No condition.
-/
import Derived.Test.YtdfknlhfdbbogaaGreatDoorRegion2
namespace Go.Proofs.YtdfknlhfdbbogaaGreatDoor
open Go.RowKit
set_option linter.unusedSimpArgs false
set_option linter.unusedVariables false
theorem mod_cast3 (L a s : Nat) : ((L : Int) % (4 * ((a : Int) + s))) = ((L % (4 * (a + s)) : Nat) : Int) := by simp
theorem Sl.cut0 {α : Type} {T : Ty α} (h1 : T.sz = 1) {w : World} {ok : Nat → Prop} {A : Option Addr} {c : Nat} {xs : List α} (h : SlA T w ok A xs) (hc : xs.length ≤ c) (hl : xs.length ≤ 9223372036854775807) (n : Nat) (hln : n ≤ xs.length) :
    Sl T w ok (.slice A n c) (xs.take n) := by
  have := Sl.cut h1 h hc hl 0 n (by omega)
  rwa [List.drop_zero, map_add_zero, Nat.sub_zero] at this
theorem reg_tail (b : List Int) (hbd : ∀ x ∈ b, 0 ≤ x ∧ x < 256) (a s : Nat) (ha1 : 1 ≤ a) (ha2 : a ≤ 2) (hs : s ≤ 2) (hdiv : b.length % (4 * (a + s)) = 0) (hb : b.length ≤ 1073741824) :
    ∀ k, k < (cells4 b).length / (a + s) → ((cells4 b).drop (k * (a + s))).length = (cells4 b).length - k * (a + s) ∧ a + s ≤ (cells4 b).length - k * (a + s) := by
  intro k hk
  refine ⟨by simp, ?_⟩
  have h1 : (k + 1) * (a + s) ≤ (cells4 b).length := Nat.le_trans (Nat.mul_le_mul_right _ hk) (Nat.div_mul_le_self _ _)
  rw [Nat.add_mul, Nat.one_mul] at h1
  omega
theorem reg_end (b : List Int) (a s : Nat) (ha1 : 1 ≤ a) (hdiv : b.length % (4 * (a + s)) = 0) : (cells4 b).length - (cells4 b).length / (a + s) * (a + s) = 0 := by
  rw [cells4_length]
  have h1 : b.length = 4 * (a + s) * (b.length / (4 * (a + s))) := by have := Nat.div_add_mod b.length (4 * (a + s)); omega
  obtain ⟨q, hq⟩ : ∃ q, q = b.length / (4 * (a + s)) := ⟨_, rfl⟩
  rw [← hq] at h1
  have h2 : b.length / 4 = (a + s) * q := by rw [h1, Nat.mul_assoc]; exact Nat.mul_div_cancel_left _ (by decide)
  rw [h2, Nat.mul_div_cancel_left _ (by omega), Nat.mul_comm]
  omega
set_option maxRecDepth 100000 in
set_option maxHeartbeats 1000000 in
theorem reg_walk (p n : Nd) (hp : p.size ≤ 1073741824) (hsz : n.size ≤ 1073741824) (w : World) (okp okn : Nat → Prop) (vp v : Value) (hvp : NdV w okp vp p) (hv : NdV w okn v n) :
    Calls Tryz.prog 182 #[vp, v] w fun e w' => ∃ v', e = .returned (.tuple #[v', .int .i64 (regM p n).2]) ∧ Row tWin 322 w' w.heap.size v' (regM p n).1 ∧ Below w.heap.size w w' := by
  have hfind := fun w1 (h : Below w.heap.size w w1) => find_walk n hsz regS w1 okn _ (hv.below h)
  have e1 : regS = ⟨#[114, 101, 103]⟩ := rfl
  have hcounts := fun w1 (h : Below w.heap.size w w1) => counts_walk p hp w1 okp _ (hvp.below h)
  have hcle := countsM_le p
  have hfs : ∀ b, n.find regS = some b → b.length ≤ 1073741824 ∧ ∀ x ∈ b, 0 ≤ x ∧ x < 256 := fun b h => ⟨find_size hsz h, by obtain ⟨_, _, _, _, _, _, _, h2, _, _, _⟩ := hv.form; exact findP_bytes h2 h⟩
  obtain ⟨A1, c1, B1, d1, rfl, _, _, _, _, _, _⟩ := hvp.form
  obtain ⟨A2, c2, B2, d2, rfl, _, _, _, _, _, _⟩ := hv.form
  have hd : regM p n = match n.find regS with
    | none => ([], 0)
    | some b => if (countsM p).2.2 ≠ 0 then ([], (countsM p).2.2) else if (countsM p).1 = 0 ∨ b.length % (4 * ((countsM p).1.toNat + (countsM p).2.1.toNat)) ≠ 0 then ([], 10)
      else (regW (countsM p).1.toNat (countsM p).2.1.toNat (cells4 b), 0) := rfl
  rw [hd]
  clear hd
  obtain ⟨a, s, e0, hc⟩ : ∃ a s e0, countsM p = (a, s, e0) := ⟨_, _, _, rfl⟩
  rw [hc] at hcounts hcle ⊢
  simp only at hcounts hcle ⊢
  clear hc
  obtain ⟨a0, a2, s0, s2⟩ := hcle
  obtain ⟨a, rfl⟩ := Int.eq_ofNat_of_zero_le a0
  obtain ⟨s, rfl⟩ := Int.eq_ofNat_of_zero_le s0
  have a2 : a ≤ 2 := by omega
  have s2 : s ≤ 2 := by omega
  cases hf : n.find regS with
  | none =>
    simp only [hf, Option.isSome_none, Option.getD_none] at hfind
    simp only [e1] at hfind
    clear hfs hf e1
    go_enter Tryz.func182, Tryz.ntmps182
    go_wp2_with (first | (go_at_call 198; refine (hfind _ (by repeat (first | assumption | exact Below.refl _ _ | with_reducible refine bset ?_ (by simp) _ | with_reducible refine balloc ?_ _ | with_reducible refine bdrew ?_ | with_reducible refine bdrewN ?_ _ | with_reducible refine bstep ?_ (by assumption)))).mono ?_; clear hfind; rintro e w1 ⟨v1, rfl, hr1, hb1⟩))
    go_ret2
    exact ⟨_, rfl, Own.nil, (by repeat (first | assumption | exact Below.refl _ _ | with_reducible refine bset ?_ (by simp) _ | with_reducible refine balloc ?_ _ | with_reducible refine bdrew ?_ | with_reducible refine bdrewN ?_ _ | with_reducible refine bstep ?_ (by assumption)))⟩
  | some b =>
    obtain ⟨hb, hbd⟩ := hfs b hf
    simp only [hf, Option.isSome_some, Option.getD_some] at hfind
    simp only [e1] at hfind
    simp only [Int.toNat_natCast]
    clear hfs hf e1
    by_cases g1 : e0 = 0
    · subst g1
      rw [if_neg (by simp)]
      by_cases g2 : (a : Int) = 0 ∨ b.length % (4 * (a + s)) ≠ 0
      · rw [if_pos g2]
        by_cases g3 : a = 0
        · subst g3
          clear g2
          go_enter Tryz.func182, Tryz.ntmps182
          go_wp2_with (first
            | (go_at_call 198; refine (hfind _ (by repeat (first | assumption | exact Below.refl _ _ | with_reducible refine bset ?_ (by simp) _ | with_reducible refine balloc ?_ _ | with_reducible refine bdrew ?_ | with_reducible refine bdrewN ?_ _ | with_reducible refine bstep ?_ (by assumption)))).mono ?_; clear hfind; rintro e w1 ⟨v1, rfl, hr1, hb1⟩; obtain ⟨A5, c5, rfl, hA5⟩ := hr1.form; clear hA5; have hbox := bblock (bblock_alloc (blast w _ _ rfl) _) hb1; have f0 := bcellAt hbox 0 rfl; have f1 := bcellAt hbox 1 rfl; have f2 := bcellAt hbox 2 rfl; have hbw := bstep (balloc (balloc (brefl w) _) _) hb1)
            | (go_at_call 277; refine (hcounts _ (by repeat (first | assumption | exact Below.refl _ _ | with_reducible refine bset ?_ (by simp) _ | with_reducible refine balloc ?_ _ | with_reducible refine bdrew ?_ | with_reducible refine bdrewN ?_ _ | with_reducible refine bstep ?_ (by assumption)))).mono ?_; clear hcounts; rintro e w2 ⟨rfl, hb2⟩))
          go_ret2
          exact ⟨_, rfl, Own.nil, (by repeat (first | assumption | exact Below.refl _ _ | with_reducible refine bset ?_ (by simp) _ | with_reducible refine balloc ?_ _ | with_reducible refine bdrew ?_ | with_reducible refine bdrewN ?_ _ | with_reducible refine bstep ?_ (by assumption)))⟩
        · have g4 : b.length % (4 * (a + s)) ≠ 0 := by rcases g2 with h | h; omega; exact h
          have q1 : ((a : Int) == 0) = false := by rw [beq_eq_false_iff_ne]; omega
          have q2 : (((b.length : Int) % (4 * ((a : Int) + s))) != 0) = true := by rw [bne_iff_ne, mod_cast3]; exact Int.natCast_ne_zero.2 g4
          have l1 : 1 ≤ a := by omega
          clear g2 g3 g4
          go_enter Tryz.func182, Tryz.ntmps182
          go_wp2_with (first
            | (go_at_call 198; refine (hfind _ (by repeat (first | assumption | exact Below.refl _ _ | with_reducible refine bset ?_ (by simp) _ | with_reducible refine balloc ?_ _ | with_reducible refine bdrew ?_ | with_reducible refine bdrewN ?_ _ | with_reducible refine bstep ?_ (by assumption)))).mono ?_; clear hfind; rintro e w1 ⟨v1, rfl, hr1, hb1⟩; obtain ⟨A5, c5, rfl, hA5⟩ := hr1.form; clear hA5; have hbox := bblock (bblock_alloc (blast w _ _ rfl) _) hb1; have f0 := bcellAt hbox 0 rfl; have f1 := bcellAt hbox 1 rfl; have f2 := bcellAt hbox 2 rfl; have hbw := bstep (balloc (balloc (brefl w) _) _) hb1)
            | (go_at_call 277; refine (hcounts _ (by repeat (first | assumption | exact Below.refl _ _ | with_reducible refine bset ?_ (by simp) _ | with_reducible refine balloc ?_ _ | with_reducible refine bdrew ?_ | with_reducible refine bdrewN ?_ _ | with_reducible refine bstep ?_ (by assumption)))).mono ?_; clear hcounts; rintro e w2 ⟨rfl, hb2⟩))
          go_ret2
          exact ⟨_, rfl, Own.nil, (by repeat (first | assumption | exact Below.refl _ _ | with_reducible refine bset ?_ (by simp) _ | with_reducible refine balloc ?_ _ | with_reducible refine bdrew ?_ | with_reducible refine bdrewN ?_ _ | with_reducible refine bstep ?_ (by assumption)))⟩
      · rw [if_neg g2]
        have l1 : 1 ≤ a := by omega
        have g4 : b.length % (4 * (a + s)) = 0 := Classical.byContradiction fun h => g2 (.inr h)
        have q1 : ((a : Int) == 0) = false := by rw [beq_eq_false_iff_ne]; omega
        have q2 : (((b.length : Int) % (4 * ((a : Int) + s))) != 0) = false := by rw [bne_eq_false_iff_eq, mod_cast3, g4]; rfl
        have htail := reg_tail b hbd a s l1 a2 s2 g4 hb
        have hend := reg_end b a s l1 g4
        have hc4 := cells4_bounds hbd
        have hcm : cellsM b = (cells4 b, 0) := by
          unfold cellsM
          rw [if_neg]
          intro h
          apply h
          have h3 : 4 * (a + s) ∣ b.length := Nat.dvd_of_mod_eq_zero g4
          exact Nat.mod_eq_zero_of_dvd (Nat.dvd_trans (Nat.dvd_mul_right 4 (a + s)) h3)
        have hcells := fun w1 ok v hv => cells_walk b hb w1 ok v hv
        rw [hcm] at hcells
        have hcl : (cells4 b).length ≤ 268435456 := by rw [cells4_length]; omega
        have HT := Lib.hid htail
        have HE := Lib.hid hend
        obtain ⟨cs, hcs⟩ : ∃ cs, cs = cells4 b := ⟨_, rfl⟩
        rw [← hcs] at HT HE hc4 hcells hcl ⊢
        obtain ⟨q, hq⟩ : ∃ q, q = cs.length / (a + s) := ⟨_, rfl⟩
        have hqle : q ≤ cs.length := by rw [hq]; exact Nat.div_le_self _ _
        rw [← hq] at HT HE
        have hget := fun k (h : k < q) => regW_get (a := a) (s := s) (k := k) (cells := cs) (by rw [← hq]; exact h)
        have hrl : (regW a s cs).length = q := by rw [regW_length, ← hq]
        have HRL := Lib.hid hrl
        clear g2 g4 htail hend hcm hcs hq hrl
        simp only at hcells
        go_enter Tryz.func182, Tryz.ntmps182
        go_wp2_with (first
          | (go_at_call 198; refine (hfind _ (by repeat (first | assumption | exact Below.refl _ _ | with_reducible refine bset ?_ (by simp) _ | with_reducible refine balloc ?_ _ | with_reducible refine bdrew ?_ | with_reducible refine bdrewN ?_ _ | with_reducible refine bstep ?_ (by assumption)))).mono ?_; clear hfind; rintro e w1 ⟨v1, rfl, hr1, hb1⟩; have hs1 := hr1.sl; obtain ⟨A5, c5, rfl, hA5⟩ := hr1.form; clear hA5 hr1; have hbox := bblock (bblock_alloc (blast w _ _ rfl) _) hb1; have f0 := bcellAt hbox 0 rfl; have f1 := bcellAt hbox 1 rfl; have f2 := bcellAt hbox 2 rfl; have hbw := bstep (balloc (balloc (brefl w) _) _) hb1)
          | (go_at_call 277; refine (hcounts _ (by repeat (first | assumption | exact Below.refl _ _ | with_reducible refine bset ?_ (by simp) _ | with_reducible refine balloc ?_ _ | with_reducible refine bdrew ?_ | with_reducible refine bdrewN ?_ _ | with_reducible refine bstep ?_ (by assumption)))).mono ?_; clear hcounts; rintro e w2 ⟨rfl, hb2⟩; have hbw2 := bstep hbw hb2)
          | (go_at_call 278; refine (hcells _ _ _ (hs1.below (by repeat (first | assumption | exact Below.refl _ _ | with_reducible refine bset ?_ (by simp) _ | with_reducible refine balloc ?_ _ | with_reducible refine bdrew ?_ | with_reducible refine bdrewN ?_ _ | with_reducible refine bstep ?_ (by assumption))))).mono ?_; clear hcells; rintro e w3 ⟨v3, rfl, hr3, hb3⟩; obtain ⟨A6, c6, rfl, hc6, hl6, ha6⟩ := hr3.form; have hbw3 := bstep hbw2 hb3; clear hr3 hs1))
        have ha7 : SlA tU32 w3 (· < w3.heap.size) A6 cs := ha6.mono fun k h h2 => h2
        have hws := hbw3.size
        obtain ⟨S3, hS3⟩ : ∃ S3, S3 = w3.heap.size := ⟨_, rfl⟩
        rw [← hS3] at ha7 hws
        have hS4 : S3 ≤ w3.heap.size := by omega
        clear ha6 q1 q2 hbox f0 f1 f2
        go_loopw [11, 13] (fun c l wr => ∃ (k n : Nat) (A' : Option Addr) (c' : Nat), k ≤ q ∧ n = cs.length - k * (a + s) ∧ c = .slice A' n c' ∧ n ≤ c' ∧ SlA tU32 wr (· < S3) A' (cs.drop (k * (a + s))) ∧ Row tWin 322 wr S3 l ((regW a s cs).take k) ∧ S3 ≤ wr.heap.size ∧ Below w.heap.size w wr) (fun c _ _ => slLen c)
        case atStart => exact ⟨0, cs.length, A6, c6, by omega, by simp, rfl, hc6, by simpa using ha7, Own.nil, hS4, hbw3⟩
        case round =>
          clear ha7 hbw3 hb3 hbw2 hb2 hbw hb1 hS3 hS4
          obtain ⟨k, m, A7, c7, hk, hm, rfl, hc7, ha7, hrow, hsz3, hb⟩ := hrel
          by_cases hkl : k < q
          · obtain ⟨ht1, ht2⟩ := HT.out k hkl
            rw [← hm] at ht1 ht2
            have hg := hget k hkl
            obtain ⟨rest, hrest⟩ : ∃ rest, rest = cs.drop (k * (a + s)) := ⟨_, rfl⟩
            have hrb : ∀ x ∈ rest, 0 ≤ x ∧ x < 4294967296 := fun x h => hc4 x (List.mem_of_mem_drop (by rw [← hrest]; exact h))
            have hdrop : cs.drop ((k + 1) * (a + s)) = rest.drop (a + s) := by rw [hrest, List.drop_drop, Nat.add_mul, Nat.one_mul]
            rw [← hrest] at ha7 ht1 hg
            have hml : m ≤ 268435456 := by omega
            have hm0 : 0 < m := by omega
            have hW1 := fun w1 v h => wide_walk (rest.take a) (by rw [List.length_take]; omega) w1 (· < S3) v h
            have hW2 := fun w1 v h => wide_walk ((rest.drop a).take s) (by rw [List.length_take]; omega) w1 (· < S3) v h
            have hC1 := fun w1 (h : Below wr.heap.size wr w1) => Sl.cut0 (T := tU32) rfl (ha7.below h) (c := c7) (by omega) (by omega) a (by omega)
            have hC2 := fun w1 (h : Below wr.heap.size wr w1) => Sl.cutIf (T := tU32) rfl (ha7.below h) (c := c7) (by omega) (by omega) a s (by omega)
            have hC3 := fun (w1 : World) (h : ∀ k, k < S3 → w1.heap[k]? = wr.heap[k]?) => Sl.cutIf (T := tU32) rfl (ha7.move fun k hk _ => h k hk) (c := c7) (by omega) (by omega) (a + s) (m - (a + s)) (by omega)
            have hu1 := wideN_u64 (rest.take a) (fun x h => hrb x (List.mem_of_mem_take h)) (by rw [List.length_take]; omega)
            have hu2 := wideN_u64 ((rest.drop a).take s) (fun x h => hrb x (List.mem_of_mem_drop (List.mem_of_mem_take h))) (by rw [List.length_take]; omega)
            obtain ⟨x1, hx1⟩ : ∃ x1, x1 = wideN (rest.take a) := ⟨_, rfl⟩
            obtain ⟨x2, hx2⟩ : ∃ x2, x2 = wideN ((rest.drop a).take s) := ⟨_, rfl⟩
            simp only [← hx1] at hW1 hg hu1
            simp only [← hx2] at hW2 hg hu2
            have HG := Lib.hid hg
            have HD := Lib.hid hdrop
            have HM := Lib.hid hm
            have H1 := Lib.hid ht1
            have HC1 := Lib.hid hC1
            have HC2 := Lib.hid hC2
            have HC3 := Lib.hid hC3
            clear hx1 hx2 hg hdrop hm hrest ht1 hC1 hC2 hC3 hget HT hc4 hrb
            go_wp2_with (first
              | (go_at_call 279; (refine (hW1 _ _ ?_).mono ?_); exact HC1.out _ (by repeat (first | assumption | exact Below.refl _ _ | with_reducible refine bset ?_ (by simp) _ | with_reducible refine balloc ?_ _ | with_reducible refine bdrew ?_ | with_reducible refine bdrewN ?_ _ | with_reducible refine bstep ?_ (by assumption))); clear hW1; rintro e w5 ⟨rfl, hw5⟩; replace hw5 := hw5.symm; subst hw5)
              | (go_at_call 279; (refine (hW2 _ _ ?_).mono ?_); exact HC2.out _ (by repeat (first | assumption | exact Below.refl _ _ | with_reducible refine bset ?_ (by simp) _ | with_reducible refine balloc ?_ _ | with_reducible refine bdrew ?_ | with_reducible refine bdrewN ?_ _ | with_reducible refine bstep ?_ (by assumption))); clear hW2; rintro e w6 ⟨rfl, hw6⟩; replace hw6 := hw6.symm; subst hw6)
              | (at_builtin; refine wpList_row1 rfl elWin _ _ rfl (hrow.below (by repeat (first | assumption | exact Below.refl _ _ | with_reducible refine bset ?_ (by simp) _ | with_reducible refine balloc ?_ _ | with_reducible refine bdrew ?_ | with_reducible refine bdrewN ?_ _ | with_reducible refine bstep ?_ (by assumption)))) rfl rfl (by first | exact blast _ _ _ (by simp) | simp) (rep_win hu1 hu2) (by rw [List.length_take, HRL.out]; omega) (by have := hb.size; simp; omega) ?_; intro g cap w1 hrow1 hg1 hat1 hlt1))
            obtain ⟨A8, c8, he8, h81, h82, h83⟩ := HC3.out w1 (fun k hk => (hg1.block k (by simp; omega) (fun e => by have := (hrow.lt k e.symm).1; omega)).trans ((balloc (brefl wr) _).block k (by omega)))
            injection he8 with i1 i2 i3
            subst i1 i3
            have htk : (rest.drop (a + s)).take (m - (a + s)) = rest.drop (a + s) := List.take_of_length_le (by rw [List.length_drop, H1.out]; omega)
            rw [htk] at h83 h81
            rw [← HD.out] at h83
            rw [List.length_take, HRL.out, Nat.min_eq_left hk] at hrow1
            rw [← Nd.take_snoc HG.out] at hrow1
            go_roundw
            case rel => exact ⟨k + 1, m - (a + s), _, _, by omega, by have := HM.out; rw [Nat.add_mul, Nat.one_mul]; omega, rfl, by rw [List.length_drop, H1.out] at h81; exact h81, h83, by rw [HRL.out, Nat.min_eq_left hk]; exact hrow1, by have := hg1.size; simp at this; omega, bgrown (by repeat (first | assumption | exact Below.refl _ _ | with_reducible refine bset ?_ (by simp) _ | with_reducible refine balloc ?_ _ | with_reducible refine bdrew ?_ | with_reducible refine bdrewN ?_ _ | with_reducible refine bstep ?_ (by assumption))) hg1 (hrow.base (by omega))⟩
            case measure => simp only [slLen]; omega
          · obtain rfl : k = q := by omega
            have hm0 : m = 0 := by rw [hm]; exact HE.out
            subst hm0
            rw [List.take_of_length_le (by rw [HRL.out]; omega)] at hrow
            clear hget HT hc4 hm
            go_wp2_with fail
            go_ret2
            exact ⟨_, rfl, hrow.mono hws (fun k h _ => Nat.le_trans hws h), hb⟩
    · rw [if_pos g1]
      have g3 : (e0 != 0) = true := by rw [bne_iff_ne]; exact g1
      go_enter Tryz.func182, Tryz.ntmps182
      go_wp2_with (first
        | (go_at_call 198; refine (hfind _ (by repeat (first | assumption | exact Below.refl _ _ | with_reducible refine bset ?_ (by simp) _ | with_reducible refine balloc ?_ _ | with_reducible refine bdrew ?_ | with_reducible refine bdrewN ?_ _ | with_reducible refine bstep ?_ (by assumption)))).mono ?_; clear hfind; rintro e w1 ⟨v1, rfl, hr1, hb1⟩; obtain ⟨A5, c5, rfl, hA5⟩ := hr1.form; clear hA5; have hbox := bblock (bblock_alloc (blast w _ _ rfl) _) hb1; have f0 := bcellAt hbox 0 rfl; have f1 := bcellAt hbox 1 rfl; have f2 := bcellAt hbox 2 rfl; have hbw := bstep (balloc (balloc (brefl w) _) _) hb1)
        | (go_at_call 277; refine (hcounts _ (by repeat (first | assumption | exact Below.refl _ _ | with_reducible refine bset ?_ (by simp) _ | with_reducible refine balloc ?_ _ | with_reducible refine bdrew ?_ | with_reducible refine bdrewN ?_ _ | with_reducible refine bstep ?_ (by assumption)))).mono ?_; clear hcounts; rintro e w2 ⟨rfl, hb2⟩))
      go_ret2
      exact ⟨_, rfl, Own.nil, (by repeat (first | assumption | exact Below.refl _ _ | with_reducible refine bset ?_ (by simp) _ | with_reducible refine balloc ?_ _ | with_reducible refine bdrew ?_ | with_reducible refine bdrewN ?_ _ | with_reducible refine bstep ?_ (by assumption)))⟩
end Go.Proofs.YtdfknlhfdbbogaaGreatDoor
