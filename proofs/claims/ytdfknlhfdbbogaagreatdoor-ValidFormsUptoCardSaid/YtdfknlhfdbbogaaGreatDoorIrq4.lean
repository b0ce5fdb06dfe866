/-
  irq: mapped. No condition.
-/
import Derived.Test.YtdfknlhfdbbogaaGreatDoorIrq3
namespace Go.Proofs.YtdfknlhfdbbogaaGreatDoor
open Go.RowKit
set_option linter.unusedSimpArgs false
set_option linter.unusedVariables false
theorem bits_and_u32 {a b : Int} (h1 : 0 ≤ a) (h2 : a < 4294967296) (h3 : 0 ≤ b) (h4 : b < 4294967296) : bits .and .u32 a b = andU a b := by
  obtain ⟨a, rfl⟩ := Int.eq_ofNat_of_zero_le h1
  obtain ⟨b, rfl⟩ := Int.eq_ofNat_of_zero_le h3
  have hx : a &&& b < 2 ^ 32 := Nat.and_lt_two_pow _ (by omega)
  have e1 : (BitVec.ofInt 32 (a : Int)).toNat = a := by rw [BitVec.ofInt_natCast, BitVec.toNat_ofNat]; exact Nat.mod_eq_of_lt (by omega)
  have e2 : (BitVec.ofInt 32 (b : Int)).toNat = b := by rw [BitVec.ofInt_natCast, BitVec.toNat_ofNat]; exact Nat.mod_eq_of_lt (by omega)
  show IntKind.u32.wrap ((BitVec.ofInt 32 (a : Int) &&& BitVec.ofInt 32 (b : Int)).toNat : Int) = _
  rw [BitVec.toNat_and, e1, e2]
  unfold andU
  simp [IntKind.wrap, IntKind.bits, IntKind.signed]
  omega
theorem res0 {W : World} {g : Nat} {p q : Value} (h : W.heap[g]? = some (.cells #[p, q] 331 (0, 0))) (a b : Value) : ((W.setCell ⟨g, 0, none⟩ a).setCell ⟨g, 1, none⟩ b).cell? ⟨g, 0, none⟩ = some a := bcellAt (bsetAt (bsetAt h 0 a) 1 b) 0 (by rfl)
theorem res1 {W : World} {g : Nat} {p q : Value} (h : W.heap[g]? = some (.cells #[p, q] 331 (0, 0))) (a b : Value) : ((W.setCell ⟨g, 0, none⟩ a).setCell ⟨g, 1, none⟩ b).cell? ⟨g, 1, none⟩ = some b := bcellAt (bsetAt (bsetAt h 0 a) 1 b) 1 (by rfl)
theorem triple_cons {rs : List Int} (h : rs.length % 3 = 0) (hn : rs ≠ []) : ∃ a b c r, rs = a :: b :: c :: r := by
  rcases rs with _ | ⟨a, _ | ⟨b, _ | ⟨c, r⟩⟩⟩
  · exact absurd rfl hn
  · simp at h
  · simp at h
  · exact ⟨a, b, c, r, rfl⟩
set_option maxRecDepth 100000 in
set_option maxHeartbeats 2000000 in
theorem mapped_walk (t : Tr) (hsz : t.root.size ≤ 536870912) (n : Nd) (hn : n.size ≤ 536870912) (line : Int) (hl0 : 0 ≤ line) (hl1 : line < 4294967296) (w : World) (ok okn : Nat → Prop) (v nv : Value) (hv : TrV w ok v t) (hnv : NdV w okn nv n) :
    Calls Tryz.prog 282 #[v, nv, .int .u32 line] w fun e w' => ∃ pv, e = .returned (.tuple #[.agg #[pv, .int .u32 (mappedM t n line).1.2], .int .i64 (mappedM t n line).2]) ∧ Sl tInt w' (w.heap.size ≤ ·) pv (mappedM t n line).1.1 ∧ 0 ≤ (mappedM t n line).1.2 ∧ (mappedM t n line).1.2 < 4294967296 ∧ Below w.heap.size w w' := by
  have hf1 := fun w2 okA vA hA => find_walk n (by omega) imapS w2 okA vA hA
  have ho1 := fun w2 okA vA hA => one_walk n (by omega) imaskS w2 okA vA hA
  have e1 : imapS = (⟨#[105, 110, 116, 101, 114, 114, 117, 112, 116, 45, 109, 97, 112]⟩ : ByteArray) := rfl
  have e2 : imaskS = (⟨#[105, 110, 116, 101, 114, 114, 117, 112, 116, 45, 109, 97, 112, 45, 109, 97, 115, 107]⟩ : ByteArray) := rfl
  have hfs : ∀ b, n.find imapS = some b → b.length ≤ 536870912 := fun b h => by have := findP_size h; have := Nd.size_eq n; omega
  have hfb : ∀ s b, n.find s = some b → ∀ x ∈ b, 0 ≤ x ∧ x < 256 := fun s b h => by
    obtain ⟨_, _, _, _, _, _, _, ha2, _⟩ := hnv.form
    exact findP_bytes ha2 h
  have hob : (((oneN n imaskS).1 : Nat) : Int) < 4294967296 := by
    unfold oneN
    cases h : n.find imaskS with
    | none => simp
    | some b =>
      simp only
      split
      · rename_i h4; have := numN_lt b (hfb _ _ h); rw [h4] at this; simp only; omega
      · simp
  have hfind := fun w1 (h : Below w.heap.size w w1) x => findH_walk t hsz x w1 ok _ (hv.below h)
  obtain ⟨A1, c1, A2, c2, A3, c3, rfl, hrl⟩ := hv.form
  obtain ⟨A5, c5, A6, c6, rfl, hnn⟩ := hnv.form
  clear hnn
  cases hf : n.find imapS with
  | none =>
    have hd : mappedM t n line = (([], 0), 8) := by unfold mappedM; rw [hf]
    rw [hd]
    simp only [hf, Option.isSome_none, Option.getD_none] at hf1
    rw [e1] at hf1
    clear hfs hfb hf hd ho1 hfind hob e1 e2
    go_enter Tryz.func282, Tryz.ntmps282
    go_wp2_with (first
      | (go_at_call 198; (refine (hf1 _ _ _ (hnv.below (by repeat (first | assumption | exact Below.refl _ _ | with_reducible refine bset ?_ (by simp) _ | with_reducible refine balloc ?_ _ | with_reducible refine bdrew ?_ | with_reducible refine bdrewN ?_ _ | with_reducible refine bstep ?_ (by assumption))))).mono ?_); clear hf1; rintro e w1 ⟨v1, rfl, hr1, hb1⟩; have hs1 := hr1.sl; obtain ⟨A7, c7, rfl, hA7⟩ := hr1.form; clear hA7 hr1; have hbw1 := bstep (balloc (balloc (balloc (brefl w) _) _) _) hb1; have h1 := bblock (w := ((w.alloc _).alloc _).alloc _) (g := w.heap.size + 2) (blast _ _ _ (by simp)) hb1; have Nh1 := bblock (w := ((w.alloc _).alloc _).alloc _) (g := w.heap.size + 1) (bblock_alloc (blast _ _ _ (by simp)) _) hb1; have Th1 := bblock (w := ((w.alloc _).alloc _).alloc _) (g := w.heap.size) (bblock_alloc (bblock_alloc (blast _ _ _ (by simp)) _) _) hb1; have r0 := bcellAt (v := .slice none 0 0) h1 0 rfl; have r1 := bcellAt (v := .int .u32 0) h1 1 rfl; have y0 := bfrozenAt h1 0; have y1 := bfrozenAt h1 1; have lt0 := blockLt h1; have t0 := bcellAt (v := .int .u32 t.boot) Th1 0 rfl; have t1 := bcellAt (v := .slice A1 t.res.length c1) Th1 1 rfl; have t2 := bcellAt (v := .string t.root.name) Th1 2 rfl; have t3 := bcellAt (v := .slice A2 t.root.props.length c2) Th1 3 rfl; have t4 := bcellAt (v := .slice A3 t.root.kids.length c3) Th1 4 rfl; have n0 := bcellAt (v := .string n.name) Nh1 0 rfl; have n1 := bcellAt (v := .slice A5 n.props.length c5) Nh1 1 rfl; have n2 := bcellAt (v := .slice A6 n.kids.length c6) Nh1 2 rfl))
    exact bodyPost_ret (v := .tuple #[.agg #[.slice none 0 0, .int .u32 0], .int .i64 8]) (by simp [results, Tryz.results282, go_sem, res0 h1, res1 h1]) rfl (by have hB := bset (bset hbw1 (p := ⟨w.heap.size + 1 + 1, 0, none⟩) (by simp; omega) (.slice none 0 0)) (p := ⟨w.heap.size + 1 + 1, 1, none⟩) (by simp; omega) (.int .u32 0); first | exact ⟨_, rfl, Sl.nil _ _, hB⟩ | exact ⟨_, rfl, Sl.nil _ _, by decide, by decide, hB⟩)
  | some b =>
    have hbl := hfs _ hf
    have hbb := hfb _ _ hf
    have hd : mappedM t n line = if (cellsM b).2 ≠ 0 ∨ (oneN n imaskS).2.2 ≠ 0 ∨ (cellsM b).1.length % 3 ≠ 0 then (([], 0), 4)
      else mapL t (if (oneN n imaskS).2.1 = true then ((oneN n imaskS).1 : Int) else 4294967295) line (cellsM b).1 := by unfold mappedM; rw [hf]
    rw [hd]
    simp only [hf, Option.isSome_some, Option.getD_some] at hf1
    rw [e1] at hf1
    rw [e2] at ho1
    rw [e2] at hob
    rw [e2]
    have hcells := fun w1 okb bv h => cells_walk b (by omega) w1 okb bv h
    have hcl := cellsM_len b
    have hcu := cellsM_u32 hbb
    obtain ⟨cs, e3, hce⟩ : ∃ cs e3, cellsM b = (cs, e3) := ⟨_, _, rfl⟩
    obtain ⟨m, p, e4, hoe⟩ : ∃ m p e4, oneN n (⟨#[105, 110, 116, 101, 114, 114, 117, 112, 116, 45, 109, 97, 112, 45, 109, 97, 115, 107]⟩ : ByteArray) = (m, p, e4) := ⟨_, _, _, rfl⟩
    simp only [hce] at hcells hcl hcu
    simp only [hoe] at ho1 hob
    rw [hce, hoe]
    simp only
    clear hfs hfb hf hd e1 e2 hce hoe hbb
    by_cases g1 : e3 ≠ 0 ∨ e4 ≠ 0 ∨ cs.length % 3 ≠ 0
    · rw [if_pos g1]
      clear hfind hob hcu
      by_cases g2 : e3 = 0
      · subst g2
        by_cases g3 : e4 = 0
        · subst g3
          have q2 : ((cs.length : Int) % 3 != 0) = true := by rw [bne_iff_ne]; omega
          clear g1
          go_enter Tryz.func282, Tryz.ntmps282
          go_wp2_with (first
            | (go_at_call 198; (refine (hf1 _ _ _ (hnv.below (by repeat (first | assumption | exact Below.refl _ _ | with_reducible refine bset ?_ (by simp) _ | with_reducible refine balloc ?_ _ | with_reducible refine bdrew ?_ | with_reducible refine bdrewN ?_ _ | with_reducible refine bstep ?_ (by assumption))))).mono ?_); clear hf1; rintro e w1 ⟨v1, rfl, hr1, hb1⟩; have hs1 := hr1.sl; obtain ⟨A7, c7, rfl, hA7⟩ := hr1.form; clear hA7 hr1; have hbw1 := bstep (balloc (balloc (balloc (brefl w) _) _) _) hb1; have h1 := bblock (w := ((w.alloc _).alloc _).alloc _) (g := w.heap.size + 2) (blast _ _ _ (by simp)) hb1; have Nh1 := bblock (w := ((w.alloc _).alloc _).alloc _) (g := w.heap.size + 1) (bblock_alloc (blast _ _ _ (by simp)) _) hb1; have Th1 := bblock (w := ((w.alloc _).alloc _).alloc _) (g := w.heap.size) (bblock_alloc (bblock_alloc (blast _ _ _ (by simp)) _) _) hb1; have r0 := bcellAt (v := .slice none 0 0) h1 0 rfl; have r1 := bcellAt (v := .int .u32 0) h1 1 rfl; have y0 := bfrozenAt h1 0; have y1 := bfrozenAt h1 1; have lt0 := blockLt h1; have t0 := bcellAt (v := .int .u32 t.boot) Th1 0 rfl; have t1 := bcellAt (v := .slice A1 t.res.length c1) Th1 1 rfl; have t2 := bcellAt (v := .string t.root.name) Th1 2 rfl; have t3 := bcellAt (v := .slice A2 t.root.props.length c2) Th1 3 rfl; have t4 := bcellAt (v := .slice A3 t.root.kids.length c3) Th1 4 rfl; have n0 := bcellAt (v := .string n.name) Nh1 0 rfl; have n1 := bcellAt (v := .slice A5 n.props.length c5) Nh1 1 rfl; have n2 := bcellAt (v := .slice A6 n.kids.length c6) Nh1 2 rfl)
            | (go_at_call 278; (refine (hcells _ _ _ hs1).mono ?_); clear hcells; rintro e w2 ⟨v2, rfl, hr2, hb2⟩; obtain ⟨A8, c8, rfl, hc8, hl8, ha8⟩ := hr2.form; clear hr2; have hbw2 := bstep hbw1 hb2; have h2 := bblock h1 hb2; have Nh2 := bblock Nh1 hb2; have Th2 := bblock Th1 hb2; clear r0 r1 y0 y1 lt0 t0 t1 t2 t3 t4 n0 n1 n2; have r0 := bcellAt (v := .slice none 0 0) h2 0 rfl; have r1 := bcellAt (v := .int .u32 0) h2 1 rfl; have y0 := bfrozenAt h2 0; have y1 := bfrozenAt h2 1; have lt0 := blockLt h2; have t0 := bcellAt (v := .int .u32 t.boot) Th2 0 rfl; have t1 := bcellAt (v := .slice A1 t.res.length c1) Th2 1 rfl; have t2 := bcellAt (v := .string t.root.name) Th2 2 rfl; have t3 := bcellAt (v := .slice A2 t.root.props.length c2) Th2 3 rfl; have t4 := bcellAt (v := .slice A3 t.root.kids.length c3) Th2 4 rfl; have n0 := bcellAt (v := .string n.name) Nh2 0 rfl; have n1 := bcellAt (v := .slice A5 n.props.length c5) Nh2 1 rfl; have n2 := bcellAt (v := .slice A6 n.kids.length c6) Nh2 2 rfl)
            | (go_at_call 258; (refine (ho1 _ _ _ (hnv.below hbw2)).mono ?_); clear ho1; rintro e w3 ⟨rfl, hb3⟩; have hbw3 := bstep hbw2 hb3; have h3 := bblock h2 hb3; have Nh3 := bblock Nh2 hb3; have Th3 := bblock Th2 hb3; clear r0 r1 y0 y1 lt0 t0 t1 t2 t3 t4 n0 n1 n2; have r0 := bcellAt (v := .slice none 0 0) h3 0 rfl; have r1 := bcellAt (v := .int .u32 0) h3 1 rfl; have y0 := bfrozenAt h3 0; have y1 := bfrozenAt h3 1; have lt0 := blockLt h3; have t0 := bcellAt (v := .int .u32 t.boot) Th3 0 rfl; have t1 := bcellAt (v := .slice A1 t.res.length c1) Th3 1 rfl; have t2 := bcellAt (v := .string t.root.name) Th3 2 rfl; have t3 := bcellAt (v := .slice A2 t.root.props.length c2) Th3 3 rfl; have t4 := bcellAt (v := .slice A3 t.root.kids.length c3) Th3 4 rfl; have n0 := bcellAt (v := .string n.name) Nh3 0 rfl; have n1 := bcellAt (v := .slice A5 n.props.length c5) Nh3 1 rfl; have n2 := bcellAt (v := .slice A6 n.kids.length c6) Nh3 2 rfl))
          exact bodyPost_ret (v := .tuple #[.agg #[.slice none 0 0, .int .u32 0], .int .i64 4]) (by simp [results, Tryz.results282, go_sem, res0 h3, res1 h3]) rfl (by have hB := bset (bset hbw3 (p := ⟨w.heap.size + 1 + 1, 0, none⟩) (by simp; omega) (.slice none 0 0)) (p := ⟨w.heap.size + 1 + 1, 1, none⟩) (by simp; omega) (.int .u32 0); first | exact ⟨_, rfl, Sl.nil _ _, hB⟩ | exact ⟨_, rfl, Sl.nil _ _, by decide, by decide, hB⟩)
        · have q2 : (e4 != 0) = true := by rw [bne_iff_ne]; exact g3
          clear g1
          go_enter Tryz.func282, Tryz.ntmps282
          go_wp2_with (first
            | (go_at_call 198; (refine (hf1 _ _ _ (hnv.below (by repeat (first | assumption | exact Below.refl _ _ | with_reducible refine bset ?_ (by simp) _ | with_reducible refine balloc ?_ _ | with_reducible refine bdrew ?_ | with_reducible refine bdrewN ?_ _ | with_reducible refine bstep ?_ (by assumption))))).mono ?_); clear hf1; rintro e w1 ⟨v1, rfl, hr1, hb1⟩; have hs1 := hr1.sl; obtain ⟨A7, c7, rfl, hA7⟩ := hr1.form; clear hA7 hr1; have hbw1 := bstep (balloc (balloc (balloc (brefl w) _) _) _) hb1; have h1 := bblock (w := ((w.alloc _).alloc _).alloc _) (g := w.heap.size + 2) (blast _ _ _ (by simp)) hb1; have Nh1 := bblock (w := ((w.alloc _).alloc _).alloc _) (g := w.heap.size + 1) (bblock_alloc (blast _ _ _ (by simp)) _) hb1; have Th1 := bblock (w := ((w.alloc _).alloc _).alloc _) (g := w.heap.size) (bblock_alloc (bblock_alloc (blast _ _ _ (by simp)) _) _) hb1; have r0 := bcellAt (v := .slice none 0 0) h1 0 rfl; have r1 := bcellAt (v := .int .u32 0) h1 1 rfl; have y0 := bfrozenAt h1 0; have y1 := bfrozenAt h1 1; have lt0 := blockLt h1; have t0 := bcellAt (v := .int .u32 t.boot) Th1 0 rfl; have t1 := bcellAt (v := .slice A1 t.res.length c1) Th1 1 rfl; have t2 := bcellAt (v := .string t.root.name) Th1 2 rfl; have t3 := bcellAt (v := .slice A2 t.root.props.length c2) Th1 3 rfl; have t4 := bcellAt (v := .slice A3 t.root.kids.length c3) Th1 4 rfl; have n0 := bcellAt (v := .string n.name) Nh1 0 rfl; have n1 := bcellAt (v := .slice A5 n.props.length c5) Nh1 1 rfl; have n2 := bcellAt (v := .slice A6 n.kids.length c6) Nh1 2 rfl)
            | (go_at_call 278; (refine (hcells _ _ _ hs1).mono ?_); clear hcells; rintro e w2 ⟨v2, rfl, hr2, hb2⟩; obtain ⟨A8, c8, rfl, hc8, hl8, ha8⟩ := hr2.form; clear hr2; have hbw2 := bstep hbw1 hb2; have h2 := bblock h1 hb2; have Nh2 := bblock Nh1 hb2; have Th2 := bblock Th1 hb2; clear r0 r1 y0 y1 lt0 t0 t1 t2 t3 t4 n0 n1 n2; have r0 := bcellAt (v := .slice none 0 0) h2 0 rfl; have r1 := bcellAt (v := .int .u32 0) h2 1 rfl; have y0 := bfrozenAt h2 0; have y1 := bfrozenAt h2 1; have lt0 := blockLt h2; have t0 := bcellAt (v := .int .u32 t.boot) Th2 0 rfl; have t1 := bcellAt (v := .slice A1 t.res.length c1) Th2 1 rfl; have t2 := bcellAt (v := .string t.root.name) Th2 2 rfl; have t3 := bcellAt (v := .slice A2 t.root.props.length c2) Th2 3 rfl; have t4 := bcellAt (v := .slice A3 t.root.kids.length c3) Th2 4 rfl; have n0 := bcellAt (v := .string n.name) Nh2 0 rfl; have n1 := bcellAt (v := .slice A5 n.props.length c5) Nh2 1 rfl; have n2 := bcellAt (v := .slice A6 n.kids.length c6) Nh2 2 rfl)
            | (go_at_call 258; (refine (ho1 _ _ _ (hnv.below hbw2)).mono ?_); clear ho1; rintro e w3 ⟨rfl, hb3⟩; have hbw3 := bstep hbw2 hb3; have h3 := bblock h2 hb3; have Nh3 := bblock Nh2 hb3; have Th3 := bblock Th2 hb3; clear r0 r1 y0 y1 lt0 t0 t1 t2 t3 t4 n0 n1 n2; have r0 := bcellAt (v := .slice none 0 0) h3 0 rfl; have r1 := bcellAt (v := .int .u32 0) h3 1 rfl; have y0 := bfrozenAt h3 0; have y1 := bfrozenAt h3 1; have lt0 := blockLt h3; have t0 := bcellAt (v := .int .u32 t.boot) Th3 0 rfl; have t1 := bcellAt (v := .slice A1 t.res.length c1) Th3 1 rfl; have t2 := bcellAt (v := .string t.root.name) Th3 2 rfl; have t3 := bcellAt (v := .slice A2 t.root.props.length c2) Th3 3 rfl; have t4 := bcellAt (v := .slice A3 t.root.kids.length c3) Th3 4 rfl; have n0 := bcellAt (v := .string n.name) Nh3 0 rfl; have n1 := bcellAt (v := .slice A5 n.props.length c5) Nh3 1 rfl; have n2 := bcellAt (v := .slice A6 n.kids.length c6) Nh3 2 rfl))
          exact bodyPost_ret (v := .tuple #[.agg #[.slice none 0 0, .int .u32 0], .int .i64 4]) (by simp [results, Tryz.results282, go_sem, res0 h3, res1 h3]) rfl (by have hB := bset (bset hbw3 (p := ⟨w.heap.size + 1 + 1, 0, none⟩) (by simp; omega) (.slice none 0 0)) (p := ⟨w.heap.size + 1 + 1, 1, none⟩) (by simp; omega) (.int .u32 0); first | exact ⟨_, rfl, Sl.nil _ _, hB⟩ | exact ⟨_, rfl, Sl.nil _ _, by decide, by decide, hB⟩)
      · have q2 : (e3 != 0) = true := by rw [bne_iff_ne]; exact g2
        clear g1
        go_enter Tryz.func282, Tryz.ntmps282
        go_wp2_with (first
          | (go_at_call 198; (refine (hf1 _ _ _ (hnv.below (by repeat (first | assumption | exact Below.refl _ _ | with_reducible refine bset ?_ (by simp) _ | with_reducible refine balloc ?_ _ | with_reducible refine bdrew ?_ | with_reducible refine bdrewN ?_ _ | with_reducible refine bstep ?_ (by assumption))))).mono ?_); clear hf1; rintro e w1 ⟨v1, rfl, hr1, hb1⟩; have hs1 := hr1.sl; obtain ⟨A7, c7, rfl, hA7⟩ := hr1.form; clear hA7 hr1; have hbw1 := bstep (balloc (balloc (balloc (brefl w) _) _) _) hb1; have h1 := bblock (w := ((w.alloc _).alloc _).alloc _) (g := w.heap.size + 2) (blast _ _ _ (by simp)) hb1; have Nh1 := bblock (w := ((w.alloc _).alloc _).alloc _) (g := w.heap.size + 1) (bblock_alloc (blast _ _ _ (by simp)) _) hb1; have Th1 := bblock (w := ((w.alloc _).alloc _).alloc _) (g := w.heap.size) (bblock_alloc (bblock_alloc (blast _ _ _ (by simp)) _) _) hb1; have r0 := bcellAt (v := .slice none 0 0) h1 0 rfl; have r1 := bcellAt (v := .int .u32 0) h1 1 rfl; have y0 := bfrozenAt h1 0; have y1 := bfrozenAt h1 1; have lt0 := blockLt h1; have t0 := bcellAt (v := .int .u32 t.boot) Th1 0 rfl; have t1 := bcellAt (v := .slice A1 t.res.length c1) Th1 1 rfl; have t2 := bcellAt (v := .string t.root.name) Th1 2 rfl; have t3 := bcellAt (v := .slice A2 t.root.props.length c2) Th1 3 rfl; have t4 := bcellAt (v := .slice A3 t.root.kids.length c3) Th1 4 rfl; have n0 := bcellAt (v := .string n.name) Nh1 0 rfl; have n1 := bcellAt (v := .slice A5 n.props.length c5) Nh1 1 rfl; have n2 := bcellAt (v := .slice A6 n.kids.length c6) Nh1 2 rfl)
          | (go_at_call 278; (refine (hcells _ _ _ hs1).mono ?_); clear hcells; rintro e w2 ⟨v2, rfl, hr2, hb2⟩; obtain ⟨A8, c8, rfl, hc8, hl8, ha8⟩ := hr2.form; clear hr2; have hbw2 := bstep hbw1 hb2; have h2 := bblock h1 hb2; have Nh2 := bblock Nh1 hb2; have Th2 := bblock Th1 hb2; clear r0 r1 y0 y1 lt0 t0 t1 t2 t3 t4 n0 n1 n2; have r0 := bcellAt (v := .slice none 0 0) h2 0 rfl; have r1 := bcellAt (v := .int .u32 0) h2 1 rfl; have y0 := bfrozenAt h2 0; have y1 := bfrozenAt h2 1; have lt0 := blockLt h2; have t0 := bcellAt (v := .int .u32 t.boot) Th2 0 rfl; have t1 := bcellAt (v := .slice A1 t.res.length c1) Th2 1 rfl; have t2 := bcellAt (v := .string t.root.name) Th2 2 rfl; have t3 := bcellAt (v := .slice A2 t.root.props.length c2) Th2 3 rfl; have t4 := bcellAt (v := .slice A3 t.root.kids.length c3) Th2 4 rfl; have n0 := bcellAt (v := .string n.name) Nh2 0 rfl; have n1 := bcellAt (v := .slice A5 n.props.length c5) Nh2 1 rfl; have n2 := bcellAt (v := .slice A6 n.kids.length c6) Nh2 2 rfl)
          | (go_at_call 258; (refine (ho1 _ _ _ (hnv.below hbw2)).mono ?_); clear ho1; rintro e w3 ⟨rfl, hb3⟩; have hbw3 := bstep hbw2 hb3; have h3 := bblock h2 hb3; have Nh3 := bblock Nh2 hb3; have Th3 := bblock Th2 hb3; clear r0 r1 y0 y1 lt0 t0 t1 t2 t3 t4 n0 n1 n2; have r0 := bcellAt (v := .slice none 0 0) h3 0 rfl; have r1 := bcellAt (v := .int .u32 0) h3 1 rfl; have y0 := bfrozenAt h3 0; have y1 := bfrozenAt h3 1; have lt0 := blockLt h3; have t0 := bcellAt (v := .int .u32 t.boot) Th3 0 rfl; have t1 := bcellAt (v := .slice A1 t.res.length c1) Th3 1 rfl; have t2 := bcellAt (v := .string t.root.name) Th3 2 rfl; have t3 := bcellAt (v := .slice A2 t.root.props.length c2) Th3 3 rfl; have t4 := bcellAt (v := .slice A3 t.root.kids.length c3) Th3 4 rfl; have n0 := bcellAt (v := .string n.name) Nh3 0 rfl; have n1 := bcellAt (v := .slice A5 n.props.length c5) Nh3 1 rfl; have n2 := bcellAt (v := .slice A6 n.kids.length c6) Nh3 2 rfl))
        exact bodyPost_ret (v := .tuple #[.agg #[.slice none 0 0, .int .u32 0], .int .i64 4]) (by simp [results, Tryz.results282, go_sem, res0 h3, res1 h3]) rfl (by have hB := bset (bset hbw3 (p := ⟨w.heap.size + 1 + 1, 0, none⟩) (by simp; omega) (.slice none 0 0)) (p := ⟨w.heap.size + 1 + 1, 1, none⟩) (by simp; omega) (.int .u32 0); first | exact ⟨_, rfl, Sl.nil _ _, hB⟩ | exact ⟨_, rfl, Sl.nil _ _, by decide, by decide, hB⟩)
    · rw [if_neg g1]
      have g2 : e3 = 0 := Classical.byContradiction fun h => g1 (.inl h)
      have g3 : e4 = 0 := Classical.byContradiction fun h => g1 (.inr (.inl h))
      subst g2 g3
      have g4 : cs.length % 3 = 0 := by omega
      have q2 : ((cs.length : Int) % 3 != 0) = false := by rw [bne_eq_false_iff_eq]; omega
      clear g1
      obtain ⟨M, hM⟩ : ∃ M : Int, M = if p = true then (m : Int) else 4294967295 := ⟨_, rfl⟩
      rw [← hM]
      have hM0 : 0 ≤ M ∧ M < 4294967296 := by rw [hM]; split <;> omega
      obtain ⟨R, hR⟩ : ∃ R, R = mapL t M line cs := ⟨_, rfl⟩
      rw [← hR]
      have HR := Lib.hid hR
      have G4 := Lib.hid g4
      have HM0 := Lib.hid hM0
      have HL := Lib.hid (And.intro hl0 hl1)
      have HMM := Lib.hid hM
      clear hR g4 hM0 hM hob
      cases p with
      | true =>
        have hM := HMM.out
        simp only [reduceCtorEq, if_true, if_false, Bool.false_eq_true] at hM
        clear HMM hl0 hl1
        subst hM
        go_enter Tryz.func282, Tryz.ntmps282
        go_wp2_with (first
          | (go_at_call 198; (refine (hf1 _ _ _ (hnv.below (by repeat (first | assumption | exact Below.refl _ _ | with_reducible refine bset ?_ (by simp) _ | with_reducible refine balloc ?_ _ | with_reducible refine bdrew ?_ | with_reducible refine bdrewN ?_ _ | with_reducible refine bstep ?_ (by assumption))))).mono ?_); clear hf1; rintro e w1 ⟨v1, rfl, hr1, hb1⟩; have hs1 := hr1.sl; obtain ⟨A7, c7, rfl, hA7⟩ := hr1.form; clear hA7 hr1; have hbw1 := bstep (balloc (balloc (balloc (brefl w) _) _) _) hb1; have h1 := bblock (w := ((w.alloc _).alloc _).alloc _) (g := w.heap.size + 2) (blast _ _ _ (by simp)) hb1; have Nh1 := bblock (w := ((w.alloc _).alloc _).alloc _) (g := w.heap.size + 1) (bblock_alloc (blast _ _ _ (by simp)) _) hb1; have Th1 := bblock (w := ((w.alloc _).alloc _).alloc _) (g := w.heap.size) (bblock_alloc (bblock_alloc (blast _ _ _ (by simp)) _) _) hb1; have r0 := bcellAt (v := .slice none 0 0) h1 0 rfl; have r1 := bcellAt (v := .int .u32 0) h1 1 rfl; have y0 := bfrozenAt h1 0; have y1 := bfrozenAt h1 1; have lt0 := blockLt h1; have t0 := bcellAt (v := .int .u32 t.boot) Th1 0 rfl; have t1 := bcellAt (v := .slice A1 t.res.length c1) Th1 1 rfl; have t2 := bcellAt (v := .string t.root.name) Th1 2 rfl; have t3 := bcellAt (v := .slice A2 t.root.props.length c2) Th1 3 rfl; have t4 := bcellAt (v := .slice A3 t.root.kids.length c3) Th1 4 rfl; have n0 := bcellAt (v := .string n.name) Nh1 0 rfl; have n1 := bcellAt (v := .slice A5 n.props.length c5) Nh1 1 rfl; have n2 := bcellAt (v := .slice A6 n.kids.length c6) Nh1 2 rfl)
          | (go_at_call 278; (refine (hcells _ _ _ hs1).mono ?_); clear hcells; rintro e w2 ⟨v2, rfl, hr2, hb2⟩; obtain ⟨A8, c8, rfl, hc8, hl8, ha8⟩ := hr2.form; clear hr2; have hbw2 := bstep hbw1 hb2; have h2 := bblock h1 hb2; have Nh2 := bblock Nh1 hb2; have Th2 := bblock Th1 hb2; clear r0 r1 y0 y1 lt0 t0 t1 t2 t3 t4 n0 n1 n2; have r0 := bcellAt (v := .slice none 0 0) h2 0 rfl; have r1 := bcellAt (v := .int .u32 0) h2 1 rfl; have y0 := bfrozenAt h2 0; have y1 := bfrozenAt h2 1; have lt0 := blockLt h2; have t0 := bcellAt (v := .int .u32 t.boot) Th2 0 rfl; have t1 := bcellAt (v := .slice A1 t.res.length c1) Th2 1 rfl; have t2 := bcellAt (v := .string t.root.name) Th2 2 rfl; have t3 := bcellAt (v := .slice A2 t.root.props.length c2) Th2 3 rfl; have t4 := bcellAt (v := .slice A3 t.root.kids.length c3) Th2 4 rfl; have n0 := bcellAt (v := .string n.name) Nh2 0 rfl; have n1 := bcellAt (v := .slice A5 n.props.length c5) Nh2 1 rfl; have n2 := bcellAt (v := .slice A6 n.kids.length c6) Nh2 2 rfl)
          | (go_at_call 258; (refine (ho1 _ _ _ (hnv.below hbw2)).mono ?_); clear ho1; rintro e w3 ⟨rfl, hb3⟩; have hbw3 := bstep hbw2 hb3; have h3 := bblock h2 hb3; have Nh3 := bblock Nh2 hb3; have Th3 := bblock Th2 hb3; clear r0 r1 y0 y1 lt0 t0 t1 t2 t3 t4 n0 n1 n2; have r0 := bcellAt (v := .slice none 0 0) h3 0 rfl; have r1 := bcellAt (v := .int .u32 0) h3 1 rfl; have y0 := bfrozenAt h3 0; have y1 := bfrozenAt h3 1; have lt0 := blockLt h3; have t0 := bcellAt (v := .int .u32 t.boot) Th3 0 rfl; have t1 := bcellAt (v := .slice A1 t.res.length c1) Th3 1 rfl; have t2 := bcellAt (v := .string t.root.name) Th3 2 rfl; have t3 := bcellAt (v := .slice A2 t.root.props.length c2) Th3 3 rfl; have t4 := bcellAt (v := .slice A3 t.root.kids.length c3) Th3 4 rfl; have n0 := bcellAt (v := .string n.name) Nh3 0 rfl; have n1 := bcellAt (v := .slice A5 n.props.length c5) Nh3 1 rfl; have n2 := bcellAt (v := .slice A6 n.kids.length c6) Nh3 2 rfl))
        have ha9 : SlA tU32 w3 (· < w3.heap.size) A8 cs := (ha8.below hb3).mono fun k h h2 => h2
        clear q2 ha8 hs1 hb1 hb2 h1 h2 Nh1 Nh2 Th1 Th2 Nh3
        go_loopw [10] (fun cc wr => wr = w3 ∧ ∃ (k : Nat) (A' : Option Addr) (c' : Nat) (rs : List Int), k = rs.length ∧ rs.length % 3 = 0 ∧ cc = .slice A' k c' ∧ k ≤ c' ∧ (∀ x ∈ rs, 0 ≤ x ∧ x < 4294967296) ∧ rs.length ≤ 536870912 ∧ R = mapL t (m : Int) line rs ∧ SlA tU32 w3 (· < w3.heap.size) A' rs) (fun c _ => slLen c)
        case atStart => exact ⟨rfl, cs.length, A8, c8, cs, rfl, G4.out, rfl, hc8, hcu, by omega, HR.out, ha9⟩
        case round =>
          clear ha9
          obtain ⟨hw, k, A9, c9, rs, hk, hev, rfl, hc9, hrb, hlen, hRe, ha9⟩ := hrel
          replace hw := hw.symm
          subst hw
          by_cases hnil : rs = []
          · subst hnil
            obtain rfl : k = 0 := hk
            have hfin : R = (([], 0), 8) := by rw [hRe]; simp [mapL]
            clear hRe
            subst hfin
            go_wp2_with fail
            exact bodyPost_ret (v := .tuple #[.agg #[.slice none 0 0, .int .u32 0], .int .i64 8]) (by simp [results, Tryz.results282, go_sem, res0 h3, res1 h3]) rfl (by have hB := bset (bset hbw3 (p := ⟨w.heap.size + 1 + 1, 0, none⟩) (by simp; omega) (.slice none 0 0)) (p := ⟨w.heap.size + 1 + 1, 1, none⟩) (by simp; omega) (.int .u32 0); first | exact ⟨_, rfl, Sl.nil _ _, hB⟩ | exact ⟨_, rfl, Sl.nil _ _, by decide, by decide, hB⟩)
          · obtain ⟨a, b', c, r, rfl⟩ := triple_cons hev hnil
            have hk3 : k = r.length + 3 := by rw [hk]; rfl
            obtain ⟨ab, aoff, rfl, _, _⟩ := ha9.some_of hnil
            obtain ⟨_, _, he0, _, _, s0, _, _⟩ := ha9.num_at (j := 0) (x := a) rfl
            cases he0
            obtain ⟨_, _, he1, _, _, s1, _, _⟩ := ha9.num_at (j := 1) (x := b') rfl
            cases he1
            obtain ⟨_, _, he2, _, _, s2, _, _⟩ := ha9.num_at (j := 2) (x := c) rfl
            cases he2
            have hra := hrb a (by simp)
            have hrc := hrb c (by simp)
            have hrr : ∀ x ∈ r, 0 ≤ x ∧ x < 4294967296 := fun x h => hrb x (by simp [h])
            have hb1 := bits_and_u32 hra.1 hra.2 HM0.out.1 HM0.out.2
            have hb2 := bits_and_u32 HL.out.1 HL.out.2 HM0.out.1 HM0.out.2
            rw [mapL] at hRe
            simp only [Nat.add_zero] at s0
            have HK := Lib.hid hk
            have HEV := Lib.hid (show r.length % 3 = 0 by simp at hev; omega)
            have HLEN := Lib.hid (show r.length ≤ 536870912 by simp at hlen; omega)
            by_cases q1 : andU a (m : Int) = andU line (m : Int)
            · have q2 : (bits .and .u32 a (m : Int) == bits .and .u32 line (m : Int)) = true := by rw [hb1, hb2, q1]; simp
              rw [if_pos q1] at hRe
              have hfd := fun w2 h => hfind w2 h b'
              obtain ⟨pl, e2, hfe⟩ : ∃ pl e2, findH t b' = (pl, e2) := ⟨_, _, rfl⟩
              simp only [hfe] at hfd hRe
              have HRE := Lib.hid hRe
              have HRC := Lib.hid hrc
              have i0 : (0 : Int) < (k : Int) := by omega
              have i1 : (1 : Int) < (k : Int) := by omega
              have i2 : (2 : Int) < (k : Int) := by omega
              clear hfind hRe hfe hk hev hrb hnil hlen hk3 q1 hb1 hb2 hra hrc
              go_upto_region 13 with fail
              go_cut [15, 16] (fun va ve wx => ∃ (Aa : Option Addr) (ca : Nat), va = .slice Aa pl.length ca ∧ ve = .int .i64 e2 ∧ Sl tInt wx (w3.heap.size ≤ ·) (.slice Aa pl.length ca) pl ∧ Below w3.heap.size w3 wx)
              case first =>
                go_region_law (first
                  | (go_simp; go_at_call 318; (refine (hfd _ ?_).mono ?_); exact (by repeat (first | assumption | exact Below.refl _ _ | with_reducible refine bset ?_ (by simp) _ | with_reducible refine balloc ?_ _ | with_reducible refine bdrew ?_ | with_reducible refine bdrewN ?_ _ | with_reducible refine bstep ?_ (by assumption))); rintro e w5 ⟨v5, rfl, hs5, hb5⟩; obtain ⟨Aa, ca, rfl, hA6⟩ := id hs5; clear hA6))
                all_goals go_wp2_with fail
                all_goals go_meet
                all_goals exact ⟨Aa, ca, rfl, rfl, hs5.mono (fun k h _ => h), bstep (bdrew (brefl w3)) hb5⟩
              case rest =>
                obtain ⟨Aa, ca, rfl, rfl, hsp, hbx⟩ := hcut
                have h4 := bblock h3 hbx
                have s2' := bkeep hbx s2
                clear hfd r0 r1 y0 y1 t0 t1 t2 t3 t4 n0 n1 n2 s0 s1 s2
                have r0 := bcellAt (v := .slice none 0 0) h4 0 rfl
                have r1 := bcellAt (v := .int .u32 0) h4 1 rfl
                have y0 := bfrozenAt h4 0
                have y1 := bfrozenAt h4 1
                have lt4 := blockLt h4
                have hbw4 := bstep hbw3 hbx
                have H4 := Lib.hid h4
                clear h3 h4 hbx
                by_cases q3 : e2 = 0
                · subst q3
                  have hfin : R = ((pl, c), 0) := by rw [HRE.out]; simp
                  have hrc := HRC.out
                  clear HRE HRC
                  subst hfin
                  go_wp2_with fail
                  refine bodyPost_ret (v := .tuple #[.agg #[.slice Aa pl.length ca, .int .u32 c], .int .i64 0]) (by simp [results, Tryz.results282, go_sem, res0 H4.out, res1 H4.out]) rfl ?_
                  have hB := bset (bset hbw4 (p := ⟨w.heap.size + 1 + 1, 0, none⟩) (by simp; omega) (.slice Aa pl.length ca)) (p := ⟨w.heap.size + 1 + 1, 1, none⟩) (by simp; omega) (.int .u32 c)
                  have hS := (hsp.move (w1 := (wc.setCell ⟨w.heap.size + 1 + 1, 0, none⟩ (.slice Aa pl.length ca)).setCell ⟨w.heap.size + 1 + 1, 1, none⟩ (.int .u32 c)) fun k h hlt => by have : w3.heap.size ≤ k := h; rw [Below.heap_setCell _ _ _ _ (by simp; omega), Below.heap_setCell _ _ _ _ (by simp; omega)]).mono (ok' := (w.heap.size ≤ ·)) fun k h _ => by have : w3.heap.size ≤ k := h; show w.heap.size ≤ k; have := hbw3.size; omega
                  first | exact ⟨_, rfl, hS, hrc.1, hrc.2, hB⟩ | exact ⟨_, rfl, hS, hB⟩
                · have hfin : R = (([], 0), e2) := by rw [HRE.out, if_pos q3]
                  have q4 : (e2 != 0) = true := by rw [bne_iff_ne]; exact q3
                  clear HRE HRC
                  subst hfin
                  go_wp2_with fail
                  exact bodyPost_ret (v := .tuple #[.agg #[.slice none 0 0, .int .u32 0], .int .i64 e2]) (by simp [results, Tryz.results282, go_sem, res0 H4.out, res1 H4.out]) rfl (by have hB := bset (bset hbw4 (p := ⟨w.heap.size + 1 + 1, 0, none⟩) (by simp; omega) (.slice none 0 0)) (p := ⟨w.heap.size + 1 + 1, 1, none⟩) (by simp; omega) (.int .u32 0); first | exact ⟨_, rfl, Sl.nil _ _, hB⟩ | exact ⟨_, rfl, Sl.nil _ _, by decide, by decide, hB⟩)
            · have q2 : (bits .and .u32 a (m : Int) == bits .and .u32 line (m : Int)) = false := by rw [hb1, hb2, beq_eq_false_iff_ne]; exact q1
              rw [if_neg q1] at hRe
              have hC3 := Sl.cutIf (T := tU32) rfl ha9 (c := c9) (by rw [← hk]; exact hc9) (by simp at hlen ⊢; omega) 3 (k - 3) (by rw [← hk]; omega)
              have HC3 := Lib.hid hC3
              have HRE := Lib.hid hRe
              have hk0 : 3 ≤ k := by omega
              have i0 : (0 : Int) < (k : Int) := by omega
              clear hRe hC3 hk hev hrb hnil hlen hk3 q1 hb1 hb2 hra hrc s1 s2
              go_wp2_with fail
              obtain ⟨A9', c9', he8, h81, h82, h83⟩ := HC3.out
              injection he8 with i1 i2 i3
              subst i1 i3
              have htk : ((a :: b' :: c :: r).drop 3).take (k - 3) = r := by rw [HK.out]; simp
              rw [htk] at h83 h81
              go_roundw
              case rel => exact ⟨by first | trivial | rfl, k - 3, _, _, r, by rw [HK.out]; simp, HEV.out, rfl, by rw [HK.out]; simpa using h81, hrr, HLEN.out, HRE.out, h83⟩
              case measure => simp only [slLen]; omega
      | false =>
        have hM := HMM.out
        simp only [reduceCtorEq, if_true, if_false, Bool.false_eq_true] at hM
        clear HMM hl0 hl1
        subst hM
        go_enter Tryz.func282, Tryz.ntmps282
        go_wp2_with (first
          | (go_at_call 198; (refine (hf1 _ _ _ (hnv.below (by repeat (first | assumption | exact Below.refl _ _ | with_reducible refine bset ?_ (by simp) _ | with_reducible refine balloc ?_ _ | with_reducible refine bdrew ?_ | with_reducible refine bdrewN ?_ _ | with_reducible refine bstep ?_ (by assumption))))).mono ?_); clear hf1; rintro e w1 ⟨v1, rfl, hr1, hb1⟩; have hs1 := hr1.sl; obtain ⟨A7, c7, rfl, hA7⟩ := hr1.form; clear hA7 hr1; have hbw1 := bstep (balloc (balloc (balloc (brefl w) _) _) _) hb1; have h1 := bblock (w := ((w.alloc _).alloc _).alloc _) (g := w.heap.size + 2) (blast _ _ _ (by simp)) hb1; have Nh1 := bblock (w := ((w.alloc _).alloc _).alloc _) (g := w.heap.size + 1) (bblock_alloc (blast _ _ _ (by simp)) _) hb1; have Th1 := bblock (w := ((w.alloc _).alloc _).alloc _) (g := w.heap.size) (bblock_alloc (bblock_alloc (blast _ _ _ (by simp)) _) _) hb1; have r0 := bcellAt (v := .slice none 0 0) h1 0 rfl; have r1 := bcellAt (v := .int .u32 0) h1 1 rfl; have y0 := bfrozenAt h1 0; have y1 := bfrozenAt h1 1; have lt0 := blockLt h1; have t0 := bcellAt (v := .int .u32 t.boot) Th1 0 rfl; have t1 := bcellAt (v := .slice A1 t.res.length c1) Th1 1 rfl; have t2 := bcellAt (v := .string t.root.name) Th1 2 rfl; have t3 := bcellAt (v := .slice A2 t.root.props.length c2) Th1 3 rfl; have t4 := bcellAt (v := .slice A3 t.root.kids.length c3) Th1 4 rfl; have n0 := bcellAt (v := .string n.name) Nh1 0 rfl; have n1 := bcellAt (v := .slice A5 n.props.length c5) Nh1 1 rfl; have n2 := bcellAt (v := .slice A6 n.kids.length c6) Nh1 2 rfl)
          | (go_at_call 278; (refine (hcells _ _ _ hs1).mono ?_); clear hcells; rintro e w2 ⟨v2, rfl, hr2, hb2⟩; obtain ⟨A8, c8, rfl, hc8, hl8, ha8⟩ := hr2.form; clear hr2; have hbw2 := bstep hbw1 hb2; have h2 := bblock h1 hb2; have Nh2 := bblock Nh1 hb2; have Th2 := bblock Th1 hb2; clear r0 r1 y0 y1 lt0 t0 t1 t2 t3 t4 n0 n1 n2; have r0 := bcellAt (v := .slice none 0 0) h2 0 rfl; have r1 := bcellAt (v := .int .u32 0) h2 1 rfl; have y0 := bfrozenAt h2 0; have y1 := bfrozenAt h2 1; have lt0 := blockLt h2; have t0 := bcellAt (v := .int .u32 t.boot) Th2 0 rfl; have t1 := bcellAt (v := .slice A1 t.res.length c1) Th2 1 rfl; have t2 := bcellAt (v := .string t.root.name) Th2 2 rfl; have t3 := bcellAt (v := .slice A2 t.root.props.length c2) Th2 3 rfl; have t4 := bcellAt (v := .slice A3 t.root.kids.length c3) Th2 4 rfl; have n0 := bcellAt (v := .string n.name) Nh2 0 rfl; have n1 := bcellAt (v := .slice A5 n.props.length c5) Nh2 1 rfl; have n2 := bcellAt (v := .slice A6 n.kids.length c6) Nh2 2 rfl)
          | (go_at_call 258; (refine (ho1 _ _ _ (hnv.below hbw2)).mono ?_); clear ho1; rintro e w3 ⟨rfl, hb3⟩; have hbw3 := bstep hbw2 hb3; have h3 := bblock h2 hb3; have Nh3 := bblock Nh2 hb3; have Th3 := bblock Th2 hb3; clear r0 r1 y0 y1 lt0 t0 t1 t2 t3 t4 n0 n1 n2; have r0 := bcellAt (v := .slice none 0 0) h3 0 rfl; have r1 := bcellAt (v := .int .u32 0) h3 1 rfl; have y0 := bfrozenAt h3 0; have y1 := bfrozenAt h3 1; have lt0 := blockLt h3; have t0 := bcellAt (v := .int .u32 t.boot) Th3 0 rfl; have t1 := bcellAt (v := .slice A1 t.res.length c1) Th3 1 rfl; have t2 := bcellAt (v := .string t.root.name) Th3 2 rfl; have t3 := bcellAt (v := .slice A2 t.root.props.length c2) Th3 3 rfl; have t4 := bcellAt (v := .slice A3 t.root.kids.length c3) Th3 4 rfl; have n0 := bcellAt (v := .string n.name) Nh3 0 rfl; have n1 := bcellAt (v := .slice A5 n.props.length c5) Nh3 1 rfl; have n2 := bcellAt (v := .slice A6 n.kids.length c6) Nh3 2 rfl))
        have ha9 : SlA tU32 w3 (· < w3.heap.size) A8 cs := (ha8.below hb3).mono fun k h h2 => h2
        clear q2 ha8 hs1 hb1 hb2 h1 h2 Nh1 Nh2 Th1 Th2 Nh3
        go_loopw [10] (fun cc wr => wr = w3 ∧ ∃ (k : Nat) (A' : Option Addr) (c' : Nat) (rs : List Int), k = rs.length ∧ rs.length % 3 = 0 ∧ cc = .slice A' k c' ∧ k ≤ c' ∧ (∀ x ∈ rs, 0 ≤ x ∧ x < 4294967296) ∧ rs.length ≤ 536870912 ∧ R = mapL t 4294967295 line rs ∧ SlA tU32 w3 (· < w3.heap.size) A' rs) (fun c _ => slLen c)
        case atStart => exact ⟨rfl, cs.length, A8, c8, cs, rfl, G4.out, rfl, hc8, hcu, by omega, HR.out, ha9⟩
        case round =>
          clear ha9
          obtain ⟨hw, k, A9, c9, rs, hk, hev, rfl, hc9, hrb, hlen, hRe, ha9⟩ := hrel
          replace hw := hw.symm
          subst hw
          by_cases hnil : rs = []
          · subst hnil
            obtain rfl : k = 0 := hk
            have hfin : R = (([], 0), 8) := by rw [hRe]; simp [mapL]
            clear hRe
            subst hfin
            go_wp2_with fail
            exact bodyPost_ret (v := .tuple #[.agg #[.slice none 0 0, .int .u32 0], .int .i64 8]) (by simp [results, Tryz.results282, go_sem, res0 h3, res1 h3]) rfl (by have hB := bset (bset hbw3 (p := ⟨w.heap.size + 1 + 1, 0, none⟩) (by simp; omega) (.slice none 0 0)) (p := ⟨w.heap.size + 1 + 1, 1, none⟩) (by simp; omega) (.int .u32 0); first | exact ⟨_, rfl, Sl.nil _ _, hB⟩ | exact ⟨_, rfl, Sl.nil _ _, by decide, by decide, hB⟩)
          · obtain ⟨a, b', c, r, rfl⟩ := triple_cons hev hnil
            have hk3 : k = r.length + 3 := by rw [hk]; rfl
            obtain ⟨ab, aoff, rfl, _, _⟩ := ha9.some_of hnil
            obtain ⟨_, _, he0, _, _, s0, _, _⟩ := ha9.num_at (j := 0) (x := a) rfl
            cases he0
            obtain ⟨_, _, he1, _, _, s1, _, _⟩ := ha9.num_at (j := 1) (x := b') rfl
            cases he1
            obtain ⟨_, _, he2, _, _, s2, _, _⟩ := ha9.num_at (j := 2) (x := c) rfl
            cases he2
            have hra := hrb a (by simp)
            have hrc := hrb c (by simp)
            have hrr : ∀ x ∈ r, 0 ≤ x ∧ x < 4294967296 := fun x h => hrb x (by simp [h])
            have hb1 := bits_and_u32 hra.1 hra.2 HM0.out.1 HM0.out.2
            have hb2 := bits_and_u32 HL.out.1 HL.out.2 HM0.out.1 HM0.out.2
            rw [mapL] at hRe
            simp only [Nat.add_zero] at s0
            have HK := Lib.hid hk
            have HEV := Lib.hid (show r.length % 3 = 0 by simp at hev; omega)
            have HLEN := Lib.hid (show r.length ≤ 536870912 by simp at hlen; omega)
            by_cases q1 : andU a 4294967295 = andU line 4294967295
            · have q2 : (bits .and .u32 a 4294967295 == bits .and .u32 line 4294967295) = true := by rw [hb1, hb2, q1]; simp
              rw [if_pos q1] at hRe
              have hfd := fun w2 h => hfind w2 h b'
              obtain ⟨pl, e2, hfe⟩ : ∃ pl e2, findH t b' = (pl, e2) := ⟨_, _, rfl⟩
              simp only [hfe] at hfd hRe
              have HRE := Lib.hid hRe
              have HRC := Lib.hid hrc
              have i0 : (0 : Int) < (k : Int) := by omega
              have i1 : (1 : Int) < (k : Int) := by omega
              have i2 : (2 : Int) < (k : Int) := by omega
              clear hfind hRe hfe hk hev hrb hnil hlen hk3 q1 hb1 hb2 hra hrc
              go_upto_region 13 with fail
              go_cut [15, 16] (fun va ve wx => ∃ (Aa : Option Addr) (ca : Nat), va = .slice Aa pl.length ca ∧ ve = .int .i64 e2 ∧ Sl tInt wx (w3.heap.size ≤ ·) (.slice Aa pl.length ca) pl ∧ Below w3.heap.size w3 wx)
              case first =>
                go_region_law (first
                  | (go_simp; go_at_call 318; (refine (hfd _ ?_).mono ?_); exact (by repeat (first | assumption | exact Below.refl _ _ | with_reducible refine bset ?_ (by simp) _ | with_reducible refine balloc ?_ _ | with_reducible refine bdrew ?_ | with_reducible refine bdrewN ?_ _ | with_reducible refine bstep ?_ (by assumption))); rintro e w5 ⟨v5, rfl, hs5, hb5⟩; obtain ⟨Aa, ca, rfl, hA6⟩ := id hs5; clear hA6))
                all_goals go_wp2_with fail
                all_goals go_meet
                all_goals exact ⟨Aa, ca, rfl, rfl, hs5.mono (fun k h _ => h), bstep (bdrew (brefl w3)) hb5⟩
              case rest =>
                obtain ⟨Aa, ca, rfl, rfl, hsp, hbx⟩ := hcut
                have h4 := bblock h3 hbx
                have s2' := bkeep hbx s2
                clear hfd r0 r1 y0 y1 t0 t1 t2 t3 t4 n0 n1 n2 s0 s1 s2
                have r0 := bcellAt (v := .slice none 0 0) h4 0 rfl
                have r1 := bcellAt (v := .int .u32 0) h4 1 rfl
                have y0 := bfrozenAt h4 0
                have y1 := bfrozenAt h4 1
                have lt4 := blockLt h4
                have hbw4 := bstep hbw3 hbx
                have H4 := Lib.hid h4
                clear h3 h4 hbx
                by_cases q3 : e2 = 0
                · subst q3
                  have hfin : R = ((pl, c), 0) := by rw [HRE.out]; simp
                  have hrc := HRC.out
                  clear HRE HRC
                  subst hfin
                  go_wp2_with fail
                  refine bodyPost_ret (v := .tuple #[.agg #[.slice Aa pl.length ca, .int .u32 c], .int .i64 0]) (by simp [results, Tryz.results282, go_sem, res0 H4.out, res1 H4.out]) rfl ?_
                  have hB := bset (bset hbw4 (p := ⟨w.heap.size + 1 + 1, 0, none⟩) (by simp; omega) (.slice Aa pl.length ca)) (p := ⟨w.heap.size + 1 + 1, 1, none⟩) (by simp; omega) (.int .u32 c)
                  have hS := (hsp.move (w1 := (wc.setCell ⟨w.heap.size + 1 + 1, 0, none⟩ (.slice Aa pl.length ca)).setCell ⟨w.heap.size + 1 + 1, 1, none⟩ (.int .u32 c)) fun k h hlt => by have : w3.heap.size ≤ k := h; rw [Below.heap_setCell _ _ _ _ (by simp; omega), Below.heap_setCell _ _ _ _ (by simp; omega)]).mono (ok' := (w.heap.size ≤ ·)) fun k h _ => by have : w3.heap.size ≤ k := h; show w.heap.size ≤ k; have := hbw3.size; omega
                  first | exact ⟨_, rfl, hS, hrc.1, hrc.2, hB⟩ | exact ⟨_, rfl, hS, hB⟩
                · have hfin : R = (([], 0), e2) := by rw [HRE.out, if_pos q3]
                  have q4 : (e2 != 0) = true := by rw [bne_iff_ne]; exact q3
                  clear HRE HRC
                  subst hfin
                  go_wp2_with fail
                  exact bodyPost_ret (v := .tuple #[.agg #[.slice none 0 0, .int .u32 0], .int .i64 e2]) (by simp [results, Tryz.results282, go_sem, res0 H4.out, res1 H4.out]) rfl (by have hB := bset (bset hbw4 (p := ⟨w.heap.size + 1 + 1, 0, none⟩) (by simp; omega) (.slice none 0 0)) (p := ⟨w.heap.size + 1 + 1, 1, none⟩) (by simp; omega) (.int .u32 0); first | exact ⟨_, rfl, Sl.nil _ _, hB⟩ | exact ⟨_, rfl, Sl.nil _ _, by decide, by decide, hB⟩)
            · have q2 : (bits .and .u32 a 4294967295 == bits .and .u32 line 4294967295) = false := by rw [hb1, hb2, beq_eq_false_iff_ne]; exact q1
              rw [if_neg q1] at hRe
              have hC3 := Sl.cutIf (T := tU32) rfl ha9 (c := c9) (by rw [← hk]; exact hc9) (by simp at hlen ⊢; omega) 3 (k - 3) (by rw [← hk]; omega)
              have HC3 := Lib.hid hC3
              have HRE := Lib.hid hRe
              have hk0 : 3 ≤ k := by omega
              have i0 : (0 : Int) < (k : Int) := by omega
              clear hRe hC3 hk hev hrb hnil hlen hk3 q1 hb1 hb2 hra hrc s1 s2
              go_wp2_with fail
              obtain ⟨A9', c9', he8, h81, h82, h83⟩ := HC3.out
              injection he8 with i1 i2 i3
              subst i1 i3
              have htk : ((a :: b' :: c :: r).drop 3).take (k - 3) = r := by rw [HK.out]; simp
              rw [htk] at h83 h81
              go_roundw
              case rel => exact ⟨by first | trivial | rfl, k - 3, _, _, r, by rw [HK.out]; simp, HEV.out, rfl, by rw [HK.out]; simpa using h81, hrr, HLEN.out, HRE.out, h83⟩
              case measure => simp only [slLen]; omega
end Go.Proofs.YtdfknlhfdbbogaaGreatDoor
