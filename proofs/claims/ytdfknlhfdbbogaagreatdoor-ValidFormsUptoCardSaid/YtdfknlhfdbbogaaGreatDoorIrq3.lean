/-
  irq.Lines. No condition.
-/
import Derived.Test.YtdfknlhfdbbogaaGreatDoorIrq2
namespace Go.Proofs.YtdfknlhfdbbogaaGreatDoor
open Go.RowKit
set_option linter.unusedSimpArgs false
set_option linter.unusedVariables false
theorem cellsM_len (b : List Int) : (cellsM b).1.length ≤ b.length := by
  unfold cellsM
  split
  · simp
  · simp only [cells4_length]; omega
theorem cellsM_u32 {b : List Int} (h : ∀ x ∈ b, 0 ≤ x ∧ x < 256) : ∀ x ∈ (cellsM b).1, 0 ≤ x ∧ x < 4294967296 := by
  unfold cellsM
  split
  · intro x hx; cases hx
  · exact cells4_bounds h
theorem downN_len {n m : Nd} {l : List Int} (h : downN n l = some m) : l.length + m.size ≤ n.size := by
  induction l generalizing n with
  | nil => simp only [downN] at h; injection h with h; subst h; simp
  | cons a r ih =>
    rw [downN] at h
    split at h
    · rename_i hc
      cases hk : n.kids[a.toNat]? with
      | none => rw [hk] at h; cases h
      | some x =>
        rw [hk] at h
        have h1 := ih h
        have h2 := Nd.kid_size (List.mem_of_getElem? hk)
        simp only [List.length_cons]
        omega
    · cases h
theorem foldOf_mem {R : List Int → Prop} (ys : List (List Int × Nd)) : ∀ l l', (∀ r ∈ l, R r.2) → (∀ y ∈ ys, R y.1) → foldOf l ys = .ok l' → ∀ r ∈ l', R r.2 := by
  induction ys with
  | nil => intro l l' h1 _ h3; simp only [foldOf] at h3; injection h3 with h3; subst h3; exact h1
  | cons y r ih =>
    intro l l' h1 h2 h3
    rw [foldOf] at h3
    cases ho : ofOne y.2 y.1 l with
    | error e => rw [ho] at h3; cases h3
    | ok l2 =>
      rw [ho] at h3
      refine ih l2 l' ?_ (fun z hz => h2 z (by simp [hz])) h3
      have hy := h2 y (by simp)
      unfold ofOne at ho
      split at ho
      · cases ho
      · split at ho
        · injection ho with ho; subst ho; exact h1
        · split at ho
          · cases ho
          · split at ho
            · cases ho
            · injection ho with ho; subst ho
              intro q hq
              rcases List.mem_append.1 hq with hq | hq
              · exact h1 q hq
              · have : q = _ := List.mem_singleton.1 hq
                subst this; exact hy
theorem findH_len (t : Tr) (h : Int) : (findH t h).1.length ≤ t.root.size := by
  unfold findH
  cases hi : indexM t with
  | error e => simp
  | ok l =>
    simp only
    rcases hfind_mem (h := h) (l := l) with h0 | ⟨r, hr, he⟩
    · rw [h0]; simp
    · rw [he]
      have hi2 : foldOf [] (allNd [] t.root) = .ok l := by rw [← ofN_fold]; exact hi
      refine foldOf_mem (R := fun q => q.length ≤ t.root.size) _ _ _ (by simp) ?_ hi2 r hr
      intro y hy
      obtain ⟨q, hq, hd⟩ := allNd_down _ _ _ hy
      have := downN_len hd
      rw [hq]; simp; omega
theorem parentK_len (t : Tr) (place : List Int) (k : Nat) : (parentK t place k).1.length ≤ t.root.size := by
  induction k with
  | zero =>
    rw [parentK]
    split
    · simp
    · split
      · exact findH_len t _
      · simp
  | succ k ih =>
    rw [parentK]
    split
    · simp
    · split
      · exact findH_len t _
      · exact ih
theorem parentM_len (t : Tr) (place : List Int) : (parentM t place).1.length ≤ t.root.size := by
  unfold parentM
  split
  · simp
  · exact parentK_len t place _
set_option maxRecDepth 100000 in
set_option maxHeartbeats 2000000 in
theorem lines_walk (t : Tr) (hsz : t.root.size ≤ 536870912) (place : List Int) (w : World) (ok okp : Nat → Prop) (v pv : Value) (hv : TrV w ok v t) (hp : Sl tInt w okp pv place) :
    Calls Tryz.prog 185 #[v, pv] w fun e w' => ∃ v', e = .returned (.tuple #[v', .int .i64 (linesM t place).2]) ∧ Row tLn 331 w' w.heap.size v' (linesM t place).1 ∧ Below w.heap.size w w' := by
  have hget := fun w1 (h : Below w.heap.size w w1) => get_walk t (by omega) place w1 (fun k => ok k ∨ okp k) _ _ ((hv.mono fun k h _ => Or.inl h).below h) ((hp.mono fun k h _ => Or.inr h).below h)
  have hpar := fun w1 (h : Below w.heap.size w w1) => parent_walk t hsz place w1 ok okp _ _ (hv.below h) (hp.below h)
  have hext := fun w1 (h : Below w.heap.size w w1) b okb bv (hb : b.length ≤ 536870912) (hbv : Sl tByte w1 okb bv b) => extended_walk t hsz b hb w1 ok okb _ bv (hv.below h) hbv
  obtain ⟨A1, c1, A2, c2, A3, c3, rfl, hrl⟩ := hv.form
  obtain ⟨A4, c4, rfl, hc4, hl4, ha4⟩ := hp
  have hns := getN_le t place
  have hd : linesM t place = if (getN t place).2 ≠ 0 then ([], (getN t place).2)
    else match (getN t place).1.find ixS with
      | some b => extendedM t b
      | none =>
        if (cellsM (((getN t place).1.find isS).getD [])).2 ≠ 0 ∨ (cellsM (((getN t place).1.find isS).getD [])).1 = [] then ([], (cellsM (((getN t place).1.find isS).getD [])).2)
        else if (parentM t place).2 ≠ 0 then ([], (parentM t place).2)
        else ((cellsM (((getN t place).1.find isS).getD [])).1.map fun c => ((parentM t place).1, c), 0) := rfl
  rw [hd]
  clear hd
  obtain ⟨n, e0, hg0⟩ : ∃ n e0, getN t place = (n, e0) := ⟨_, _, rfl⟩
  simp only [hg0] at hget hns
  rw [hg0]
  simp only
  clear hg0
  have e1 : ixS = (⟨#[105, 110, 116, 101, 114, 114, 117, 112, 116, 115, 45, 101, 120, 116, 101, 110, 100, 101, 100]⟩ : ByteArray) := rfl
  have e2 : isS = (⟨#[105, 110, 116, 101, 114, 114, 117, 112, 116, 115]⟩ : ByteArray) := rfl
  by_cases g1 : e0 = 0
  · subst g1
    rw [if_neg (by simp)]
    have hf1 := fun w2 okA vA hA => find_walk n (by omega) ixS w2 okA vA hA
    have hf2 := fun w2 okA vA hA => find_walk n (by omega) isS w2 okA vA hA
    have hfs : ∀ (s : ByteArray) b, n.find s = some b → b.length ≤ 536870912 := fun s b h => by have := findP_size h; have := Nd.size_eq n; omega
    cases hf : n.find ixS with
    | some b =>
      have hbl := hfs _ _ hf
      have hext := fun w1 h okb bv => hext w1 h b okb bv hbl
      simp only [hf, Option.isSome_some, Option.getD_some] at hf1
      rw [e1] at hf1
      clear hf hfs hf2 e1 e2
      go_enter Tryz.func185, Tryz.ntmps185
      go_wp2_with (first
        | (go_at_call 155; refine (hget _ (by repeat (first | assumption | exact Below.refl _ _ | with_reducible refine bset ?_ (by simp) _ | with_reducible refine balloc ?_ _ | with_reducible refine bdrew ?_ | with_reducible refine bdrewN ?_ _ | with_reducible refine bstep ?_ (by assumption)))).mono ?_; clear hget; rintro e w1 ⟨v1, rfl, hv1, hb1⟩; obtain ⟨A5, c5, B5, d5, rfl, hA5⟩ := hv1.form; clear hA5; have hbw := bstep (balloc (brefl w) _) hb1; have hbox := bblock (blast w _ _ rfl) hb1)
        | (go_at_call 198; (refine (hf1 _ _ _ (hv1.below (by repeat (first | assumption | exact Below.refl _ _ | with_reducible refine bset ?_ (by simp) _ | with_reducible refine balloc ?_ _ | with_reducible refine bdrew ?_ | with_reducible refine bdrewN ?_ _ | with_reducible refine bstep ?_ (by assumption))))).mono ?_); clear hf1; rintro e w2 ⟨v2, rfl, hr2, hb2⟩; have hs2 := hr2.sl; obtain ⟨A6, c6, rfl, hA6⟩ := hr2.form; clear hA6 hr2; have hbw2 := bstep (balloc hbw _) hb2; have hbox2 := bblock (bblock_alloc hbox _) hb2; have nbox := bblock (blast w1 _ _ rfl) hb2; have t0 := bcellAt hbox2 0 rfl; have t1 := bcellAt hbox2 1 rfl; have t2 := bcellAt hbox2 2 rfl; have t3 := bcellAt hbox2 3 rfl; have t4 := bcellAt hbox2 4 rfl; have n0 := bcellAt nbox 0 rfl; have n1 := bcellAt nbox 1 rfl; have n2 := bcellAt nbox 2 rfl)
        | (go_at_call 280; (refine (hext _ hbw2 _ _ hs2).mono ?_); clear hext; rintro e w3 ⟨v3, rfl, hr3, hb3⟩))
      go_ret2
      exact ⟨_, rfl, hr3.mono hbw2.size (fun k h _ => Nat.le_trans hbw2.size h), bstep hbw2 hb3⟩
    | none =>
      have hbl : ((n.find isS).getD []).length ≤ 536870912 := by
        cases h : n.find isS with
        | none => simp
        | some b => exact hfs _ _ h
      simp only [hf, Option.isSome_none, Option.getD_none] at hf1
      rw [e1] at hf1
      obtain ⟨b, hb⟩ : ∃ b, b = (n.find isS).getD [] := ⟨_, rfl⟩
      obtain ⟨p, hp⟩ : ∃ p, p = (n.find isS).isSome := ⟨_, rfl⟩
      simp only [← hb, ← hp] at hf2 hbl ⊢
      rw [e2] at hf2
      have hcells := fun w1 okb bv h => cells_walk b (by omega) w1 okb bv h
      have hcl := cellsM_len b
      obtain ⟨cs, e3, hce⟩ : ∃ cs e3, cellsM b = (cs, e3) := ⟨_, _, rfl⟩
      simp only [hce] at hcells hcl ⊢
      clear hf hfs e1 e2 hb hp hce hext
      by_cases g2 : e3 ≠ 0 ∨ cs = []
      · rw [if_pos g2]
        by_cases g3 : e3 = 0
        · subst g3
          have hn : cs = [] := by rcases g2 with h | h; exact absurd rfl h; exact h
          subst hn
          clear g2
          go_enter Tryz.func185, Tryz.ntmps185
          go_wp2_with (first
            | (go_at_call 155; refine (hget _ (by repeat (first | assumption | exact Below.refl _ _ | with_reducible refine bset ?_ (by simp) _ | with_reducible refine balloc ?_ _ | with_reducible refine bdrew ?_ | with_reducible refine bdrewN ?_ _ | with_reducible refine bstep ?_ (by assumption)))).mono ?_; clear hget; rintro e w1 ⟨v1, rfl, hv1, hb1⟩; obtain ⟨A5, c5, B5, d5, rfl, hA5⟩ := hv1.form; clear hA5; have hbw := bstep (balloc (brefl w) _) hb1; have hbox := bblock (blast w _ _ rfl) hb1)
            | (go_at_call 198; (refine (hf1 _ _ _ (hv1.below (by repeat (first | assumption | exact Below.refl _ _ | with_reducible refine bset ?_ (by simp) _ | with_reducible refine balloc ?_ _ | with_reducible refine bdrew ?_ | with_reducible refine bdrewN ?_ _ | with_reducible refine bstep ?_ (by assumption))))).mono ?_); clear hf1; rintro e w2 ⟨v2, rfl, hr2, hb2⟩; have hs2 := hr2.sl; obtain ⟨A6, c6, rfl, hA6⟩ := hr2.form; clear hA6 hr2; have hbw2 := bstep (balloc hbw _) hb2; have hbox2 := bblock (bblock_alloc hbox _) hb2; have nbox := bblock (blast w1 _ _ rfl) hb2; have t0 := bcellAt hbox2 0 rfl; have t1 := bcellAt hbox2 1 rfl; have t2 := bcellAt hbox2 2 rfl; have t3 := bcellAt hbox2 3 rfl; have t4 := bcellAt hbox2 4 rfl; have n0 := bcellAt nbox 0 rfl; have n1 := bcellAt nbox 1 rfl; have n2 := bcellAt nbox 2 rfl)
            | (go_at_call 198; (refine (hf2 _ _ _ (hv1.below (bstep (balloc (brefl w1) _) hb2))).mono ?_); clear hf2; rintro e w3 ⟨v3, rfl, hr3, hb3⟩; have hs3 := hr3.sl; obtain ⟨A7, c7, rfl, hA7⟩ := hr3.form; clear hA7 hr3; have hbw3 := bstep hbw2 hb3; have hbox3 := bblock hbox2 hb3; clear t0 t1 t2 t3 t4 n0 n1 n2; have t0 := bcellAt hbox3 0 rfl; have t1 := bcellAt hbox3 1 rfl; have t2 := bcellAt hbox3 2 rfl; have t3 := bcellAt hbox3 3 rfl; have t4 := bcellAt hbox3 4 rfl)
            | (go_at_call 278; (refine (hcells _ _ _ hs3).mono ?_); clear hcells; rintro e w4 ⟨v4, rfl, hr4, hb4⟩; obtain ⟨A8, c8, rfl, hc8, hl8, ha8⟩ := hr4.form; clear hr4; have hbw4 := bstep hbw3 hb4; have hbox4 := bblock hbox3 hb4; clear t0 t1 t2 t3 t4; have t0 := bcellAt hbox4 0 rfl; have t1 := bcellAt hbox4 1 rfl; have t2 := bcellAt hbox4 2 rfl; have t3 := bcellAt hbox4 3 rfl; have t4 := bcellAt hbox4 4 rfl))
          go_ret2
          exact ⟨_, rfl, Own.nil, (by repeat (first | assumption | exact Below.refl _ _ | with_reducible refine bset ?_ (by simp) _ | with_reducible refine balloc ?_ _ | with_reducible refine bdrew ?_ | with_reducible refine bdrewN ?_ _ | with_reducible refine bstep ?_ (by assumption)))⟩
        · have g4 : (e3 != 0) = true := by rw [bne_iff_ne]; exact g3
          clear g2
          go_enter Tryz.func185, Tryz.ntmps185
          go_wp2_with (first
            | (go_at_call 155; refine (hget _ (by repeat (first | assumption | exact Below.refl _ _ | with_reducible refine bset ?_ (by simp) _ | with_reducible refine balloc ?_ _ | with_reducible refine bdrew ?_ | with_reducible refine bdrewN ?_ _ | with_reducible refine bstep ?_ (by assumption)))).mono ?_; clear hget; rintro e w1 ⟨v1, rfl, hv1, hb1⟩; obtain ⟨A5, c5, B5, d5, rfl, hA5⟩ := hv1.form; clear hA5; have hbw := bstep (balloc (brefl w) _) hb1; have hbox := bblock (blast w _ _ rfl) hb1)
            | (go_at_call 198; (refine (hf1 _ _ _ (hv1.below (by repeat (first | assumption | exact Below.refl _ _ | with_reducible refine bset ?_ (by simp) _ | with_reducible refine balloc ?_ _ | with_reducible refine bdrew ?_ | with_reducible refine bdrewN ?_ _ | with_reducible refine bstep ?_ (by assumption))))).mono ?_); clear hf1; rintro e w2 ⟨v2, rfl, hr2, hb2⟩; have hs2 := hr2.sl; obtain ⟨A6, c6, rfl, hA6⟩ := hr2.form; clear hA6 hr2; have hbw2 := bstep (balloc hbw _) hb2; have hbox2 := bblock (bblock_alloc hbox _) hb2; have nbox := bblock (blast w1 _ _ rfl) hb2; have t0 := bcellAt hbox2 0 rfl; have t1 := bcellAt hbox2 1 rfl; have t2 := bcellAt hbox2 2 rfl; have t3 := bcellAt hbox2 3 rfl; have t4 := bcellAt hbox2 4 rfl; have n0 := bcellAt nbox 0 rfl; have n1 := bcellAt nbox 1 rfl; have n2 := bcellAt nbox 2 rfl)
            | (go_at_call 198; (refine (hf2 _ _ _ (hv1.below (bstep (balloc (brefl w1) _) hb2))).mono ?_); clear hf2; rintro e w3 ⟨v3, rfl, hr3, hb3⟩; have hs3 := hr3.sl; obtain ⟨A7, c7, rfl, hA7⟩ := hr3.form; clear hA7 hr3; have hbw3 := bstep hbw2 hb3; have hbox3 := bblock hbox2 hb3; clear t0 t1 t2 t3 t4 n0 n1 n2; have t0 := bcellAt hbox3 0 rfl; have t1 := bcellAt hbox3 1 rfl; have t2 := bcellAt hbox3 2 rfl; have t3 := bcellAt hbox3 3 rfl; have t4 := bcellAt hbox3 4 rfl)
            | (go_at_call 278; (refine (hcells _ _ _ hs3).mono ?_); clear hcells; rintro e w4 ⟨v4, rfl, hr4, hb4⟩; obtain ⟨A8, c8, rfl, hc8, hl8, ha8⟩ := hr4.form; clear hr4; have hbw4 := bstep hbw3 hb4; have hbox4 := bblock hbox3 hb4; clear t0 t1 t2 t3 t4; have t0 := bcellAt hbox4 0 rfl; have t1 := bcellAt hbox4 1 rfl; have t2 := bcellAt hbox4 2 rfl; have t3 := bcellAt hbox4 3 rfl; have t4 := bcellAt hbox4 4 rfl))
          go_ret2
          exact ⟨_, rfl, Own.nil, (by repeat (first | assumption | exact Below.refl _ _ | with_reducible refine bset ?_ (by simp) _ | with_reducible refine balloc ?_ _ | with_reducible refine bdrew ?_ | with_reducible refine bdrewN ?_ _ | with_reducible refine bstep ?_ (by assumption)))⟩
      · rw [if_neg g2]
        have g3 : e3 = 0 := Classical.byContradiction fun h => g2 (.inl h)
        subst g3
        have hlen : 0 < cs.length := by rcases cs with _ | _; exact absurd (.inr rfl) g2; simp
        have g4 : ((cs.length : Int) == 0) = false := by rw [beq_eq_false_iff_ne]; omega
        obtain ⟨pl, e4, hpe⟩ : ∃ pl e4, parentM t place = (pl, e4) := ⟨_, _, rfl⟩
        have hpll := parentM_len t place
        simp only [hpe] at hpar hpll ⊢
        clear g2 hpe
        by_cases g5 : e4 = 0
        · subst g5
          rw [if_neg (by simp)]
          go_enter Tryz.func185, Tryz.ntmps185
          go_wp2_with (first
            | (go_at_call 155; refine (hget _ (by repeat (first | assumption | exact Below.refl _ _ | with_reducible refine bset ?_ (by simp) _ | with_reducible refine balloc ?_ _ | with_reducible refine bdrew ?_ | with_reducible refine bdrewN ?_ _ | with_reducible refine bstep ?_ (by assumption)))).mono ?_; clear hget; rintro e w1 ⟨v1, rfl, hv1, hb1⟩; obtain ⟨A5, c5, B5, d5, rfl, hA5⟩ := hv1.form; clear hA5; have hbw := bstep (balloc (brefl w) _) hb1; have hbox := bblock (blast w _ _ rfl) hb1)
            | (go_at_call 198; (refine (hf1 _ _ _ (hv1.below (by repeat (first | assumption | exact Below.refl _ _ | with_reducible refine bset ?_ (by simp) _ | with_reducible refine balloc ?_ _ | with_reducible refine bdrew ?_ | with_reducible refine bdrewN ?_ _ | with_reducible refine bstep ?_ (by assumption))))).mono ?_); clear hf1; rintro e w2 ⟨v2, rfl, hr2, hb2⟩; have hs2 := hr2.sl; obtain ⟨A6, c6, rfl, hA6⟩ := hr2.form; clear hA6 hr2; have hbw2 := bstep (balloc hbw _) hb2; have hbox2 := bblock (bblock_alloc hbox _) hb2; have nbox := bblock (blast w1 _ _ rfl) hb2; have t0 := bcellAt hbox2 0 rfl; have t1 := bcellAt hbox2 1 rfl; have t2 := bcellAt hbox2 2 rfl; have t3 := bcellAt hbox2 3 rfl; have t4 := bcellAt hbox2 4 rfl; have n0 := bcellAt nbox 0 rfl; have n1 := bcellAt nbox 1 rfl; have n2 := bcellAt nbox 2 rfl)
            | (go_at_call 198; (refine (hf2 _ _ _ (hv1.below (bstep (balloc (brefl w1) _) hb2))).mono ?_); clear hf2; rintro e w3 ⟨v3, rfl, hr3, hb3⟩; have hs3 := hr3.sl; obtain ⟨A7, c7, rfl, hA7⟩ := hr3.form; clear hA7 hr3; have hbw3 := bstep hbw2 hb3; have hbox3 := bblock hbox2 hb3; clear t0 t1 t2 t3 t4 n0 n1 n2; have t0 := bcellAt hbox3 0 rfl; have t1 := bcellAt hbox3 1 rfl; have t2 := bcellAt hbox3 2 rfl; have t3 := bcellAt hbox3 3 rfl; have t4 := bcellAt hbox3 4 rfl)
            | (go_at_call 278; (refine (hcells _ _ _ hs3).mono ?_); clear hcells; rintro e w4 ⟨v4, rfl, hr4, hb4⟩; obtain ⟨A8, c8, rfl, hc8, hl8, ha8⟩ := hr4.form; clear hr4; have hbw4 := bstep hbw3 hb4; have hbox4 := bblock hbox3 hb4; clear t0 t1 t2 t3 t4; have t0 := bcellAt hbox4 0 rfl; have t1 := bcellAt hbox4 1 rfl; have t2 := bcellAt hbox4 2 rfl; have t3 := bcellAt hbox4 3 rfl; have t4 := bcellAt hbox4 4 rfl)
            | (go_at_call 281; (refine (hpar _ hbw4).mono ?_); clear hpar; rintro e w5 ⟨v5, rfl, hs5, hb5⟩; obtain ⟨A9, c9, rfl, hA9⟩ := id hs5; clear hA9; have hbw5 := bstep hbw4 hb5))
          
          clear g4 hbox2 nbox hbox3 hbox4 t0 t1 t2 t3 t4
          go_loopw [14, 66] (fun l i wr => ∃ k : Nat, k ≤ cs.length ∧ i = .int .i64 k ∧ Row tLn 331 wr w5.heap.size l ((cs.take k).map fun c => (pl, c)) ∧ Below w5.heap.size w5 wr) (fun _ i _ => cs.length - (intOf i).toNat)
          case atStart => exact ⟨0, by omega, rfl, Own.nil, brefl _⟩
          case round =>
            obtain ⟨k, hk, rfl, hrow, hb6⟩ := hrel
            have hwr := bstep hbw5 hb6
            by_cases hkl : k < cs.length
            · have hx : cs[k]? = some cs[k] := List.getElem?_eq_getElem hkl
              have htk : (cs.take (k + 1)).map (fun c => (pl, c)) = (cs.take k).map (fun c => (pl, c)) ++ [(pl, cs[k])] := by rw [Nd.take_snoc hx, List.map_append]; rfl
              have hHT := Lib.hid htk
              clear htk
              obtain ⟨x, hxe⟩ : ∃ x, x = cs[k] := ⟨_, rfl⟩
              rw [← hxe] at hx hHT
              clear hxe
              obtain ⟨b8, off, rfl, hob, hlb, hc0, hlo, hhi⟩ := ((ha8.below hb5).below hb6).num_at hx
              have hkc : ((cs.take k).map (fun c => (pl, c))).length = k := by simp; omega
              have hci := fun w6 h => intsClone_walk pl (by omega) w6 _ _ (hs5.below (bstep hb6 h))
              have HX := Lib.hid hx
              have hkI : (k : Int) < (cs.length : Int) := by omega
              have HLO := Lib.hid (And.intro hlo hhi)
              clear hx hlo hhi
              go_wp2_with (first
                | (go_at_call 180; (refine (hci _ (by repeat (first | assumption | exact Below.refl _ _ | with_reducible refine bset ?_ (by simp) _ | with_reducible refine balloc ?_ _ | with_reducible refine bdrew ?_ | with_reducible refine bdrewN ?_ _ | with_reducible refine bstep ?_ (by assumption)))).mono ?_); clear hci; rintro e w6 ⟨v6, rfl, hr6, hb7⟩; obtain ⟨Aa, ca, rfl, hA6⟩ := hr6.form; clear hA6)
                | (at_builtin; refine wpList_row1 rfl elLn _ _ rfl ((hrow.below hb7).below (by repeat (first | assumption | exact Below.refl _ _ | with_reducible refine bset ?_ (by simp) _ | with_reducible refine balloc ?_ _ | with_reducible refine bdrew ?_ | with_reducible refine bdrewN ?_ _ | with_reducible refine bstep ?_ (by assumption)))) rfl rfl (by first | exact blast _ _ _ (by simp) | simp) (y := (pl, x)) (rep_ln HLO.out.1 (by have := HLO.out.2; omega) ((hr6.sl.below (balloc (brefl _) _)).mono (fun k h5 _ => ⟨by have h6 : wr.heap.size ≤ k := h5; have := hb6.size; omega, fun e5 => by have h7 := (hrow.lt k e5.symm).2; have h6 : wr.heap.size ≤ k := h5; omega⟩))) (by omega) (by have h1 := hb6.size; have h2 := hb7.size; simp; omega) ?_; intro g cap w7 hrow1 hg1 hat1 hlt1))
              rw [hkc] at hrow1
              rw [← hHT.out] at hrow1
              go_roundw
              case rel =>
                refine ⟨k + 1, by omega, by simp, ?_, bgrown (bstep hb6 (bstep hb7 (balloc (brefl _) _))) hg1 (fun j hj => (hrow.lt j hj).1)⟩
                first | exact hrow1 | (rw [hkc]; exact hrow1)
              case measure => simp only [intOf]; omega
            · obtain rfl : k = cs.length := by omega
              go_wp2_with fail
              go_ret2
              rw [List.take_length] at hrow
              exact ⟨_, rfl, hrow.mono hbw5.size (fun k h _ => Nat.le_trans hbw5.size h), hwr⟩
        · rw [if_pos g5]
          have g6 : (e4 != 0) = true := by rw [bne_iff_ne]; exact g5
          go_enter Tryz.func185, Tryz.ntmps185
          go_wp2_with (first
            | (go_at_call 155; refine (hget _ (by repeat (first | assumption | exact Below.refl _ _ | with_reducible refine bset ?_ (by simp) _ | with_reducible refine balloc ?_ _ | with_reducible refine bdrew ?_ | with_reducible refine bdrewN ?_ _ | with_reducible refine bstep ?_ (by assumption)))).mono ?_; clear hget; rintro e w1 ⟨v1, rfl, hv1, hb1⟩; obtain ⟨A5, c5, B5, d5, rfl, hA5⟩ := hv1.form; clear hA5; have hbw := bstep (balloc (brefl w) _) hb1; have hbox := bblock (blast w _ _ rfl) hb1)
            | (go_at_call 198; (refine (hf1 _ _ _ (hv1.below (by repeat (first | assumption | exact Below.refl _ _ | with_reducible refine bset ?_ (by simp) _ | with_reducible refine balloc ?_ _ | with_reducible refine bdrew ?_ | with_reducible refine bdrewN ?_ _ | with_reducible refine bstep ?_ (by assumption))))).mono ?_); clear hf1; rintro e w2 ⟨v2, rfl, hr2, hb2⟩; have hs2 := hr2.sl; obtain ⟨A6, c6, rfl, hA6⟩ := hr2.form; clear hA6 hr2; have hbw2 := bstep (balloc hbw _) hb2; have hbox2 := bblock (bblock_alloc hbox _) hb2; have nbox := bblock (blast w1 _ _ rfl) hb2; have t0 := bcellAt hbox2 0 rfl; have t1 := bcellAt hbox2 1 rfl; have t2 := bcellAt hbox2 2 rfl; have t3 := bcellAt hbox2 3 rfl; have t4 := bcellAt hbox2 4 rfl; have n0 := bcellAt nbox 0 rfl; have n1 := bcellAt nbox 1 rfl; have n2 := bcellAt nbox 2 rfl)
            | (go_at_call 198; (refine (hf2 _ _ _ (hv1.below (bstep (balloc (brefl w1) _) hb2))).mono ?_); clear hf2; rintro e w3 ⟨v3, rfl, hr3, hb3⟩; have hs3 := hr3.sl; obtain ⟨A7, c7, rfl, hA7⟩ := hr3.form; clear hA7 hr3; have hbw3 := bstep hbw2 hb3; have hbox3 := bblock hbox2 hb3; clear t0 t1 t2 t3 t4 n0 n1 n2; have t0 := bcellAt hbox3 0 rfl; have t1 := bcellAt hbox3 1 rfl; have t2 := bcellAt hbox3 2 rfl; have t3 := bcellAt hbox3 3 rfl; have t4 := bcellAt hbox3 4 rfl)
            | (go_at_call 278; (refine (hcells _ _ _ hs3).mono ?_); clear hcells; rintro e w4 ⟨v4, rfl, hr4, hb4⟩; obtain ⟨A8, c8, rfl, hc8, hl8, ha8⟩ := hr4.form; clear hr4; have hbw4 := bstep hbw3 hb4; have hbox4 := bblock hbox3 hb4; clear t0 t1 t2 t3 t4; have t0 := bcellAt hbox4 0 rfl; have t1 := bcellAt hbox4 1 rfl; have t2 := bcellAt hbox4 2 rfl; have t3 := bcellAt hbox4 3 rfl; have t4 := bcellAt hbox4 4 rfl)
            | (go_at_call 281; (refine (hpar _ hbw4).mono ?_); clear hpar; rintro e w5 ⟨v5, rfl, hs5, hb5⟩; obtain ⟨A9, c9, rfl, hA9⟩ := id hs5; clear hA9; have hbw5 := bstep hbw4 hb5))
          go_ret2
          exact ⟨_, rfl, Own.nil, (by repeat (first | assumption | exact Below.refl _ _ | with_reducible refine bset ?_ (by simp) _ | with_reducible refine balloc ?_ _ | with_reducible refine bdrew ?_ | with_reducible refine bdrewN ?_ _ | with_reducible refine bstep ?_ (by assumption)))⟩
  · rw [if_pos g1]
    have g3 : (e0 != 0) = true := by rw [bne_iff_ne]; exact g1
    go_enter Tryz.func185, Tryz.ntmps185
    go_wp2_with (first
      | (go_at_call 155; refine (hget _ (by repeat (first | assumption | exact Below.refl _ _ | with_reducible refine bset ?_ (by simp) _ | with_reducible refine balloc ?_ _ | with_reducible refine bdrew ?_ | with_reducible refine bdrewN ?_ _ | with_reducible refine bstep ?_ (by assumption)))).mono ?_; clear hget; rintro e w1 ⟨v1, rfl, hv1, hb1⟩; obtain ⟨A5, c5, B5, d5, rfl, hA5⟩ := hv1.form; clear hA5; have hbw := bstep (balloc (brefl w) _) hb1; have hbox := bblock (blast w _ _ rfl) hb1))
    go_ret2
    exact ⟨_, rfl, Own.nil, (by repeat (first | assumption | exact Below.refl _ _ | with_reducible refine bset ?_ (by simp) _ | with_reducible refine balloc ?_ _ | with_reducible refine bdrew ?_ | with_reducible refine bdrewN ?_ _ | with_reducible refine bstep ?_ (by assumption)))⟩
end Go.Proofs.YtdfknlhfdbbogaaGreatDoor
