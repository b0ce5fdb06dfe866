/-
  entries, the whole tree, valid.Check walked.
-/
import Derived.Test.YtdfknlhfdbbogaaGreatDoorTwice2
import Derived.Laws.AppendOwnNone
import Derived.Test.YtdfknlhfdbbogaaGreatDoorIndex
namespace Go.Proofs.YtdfknlhfdbbogaaGreatDoor
open Go.RowKit
set_option linter.unusedSimpArgs false
set_option linter.unusedVariables false
theorem run_append_zero {P : Program} {w : World} (base : Nat) (t ty e : TypeId) (i : TypeInfo) (size : Nat) (ht : P.underlying t = some (.slice e)) (hi : P.info? e = some i)
    (v : Value) (n : Nat) (xs : List Value) (hown : w.ownsRow base e size v n xs) (a : Option Addr) (c : Nat) :
    (Builtin.append_ #[t, t] ty #[v, .slice a 0 c]).run P w = .ok v w := by
  rcases hown.2 with ⟨rfl, rfl⟩ | ⟨g, cap, cur, rfl, _, _, hnc, _⟩
  · cases a <;> simp [Builtin.append_, run_underlying ht, sizeOf, typeInfo, hi, Builtin.lenOf, Builtin.firstCells, loadCellsFrom, loadCells, Result.andThen]
  · cases a <;> simp [Builtin.append_, run_underlying ht, sizeOf, typeInfo, hi, Builtin.lenOf, Builtin.firstCells, hnc, storeCells, loadCellsFrom, loadCells, Result.andThen]
/-- append(row, others...): the others may be none. -/
theorem wpList_row_app {α : Type} {T : Ty α} {t e : TypeId} {bytes : Nat} {w : World} {ops : Array Oper} {rest : List Oper} {o : Oper} {a : Act} {Q : Exit → Act → World → Prop} (hgd : o.guard = none) (E : El T t e bytes) (s x : Operand)
    (ho : o.op = .call { callee := .builtin .append, args := #[s, x], argTypes := #[t, t] }) {B : Nat} {v : Value} {xs : List α} (hrow : Row T e w B v xs) (hs : a.eval s = v)
    {A : Option Addr} {c : Nat} {ys : List α} {ok : Nat → Prop} (hx : a.eval x = .slice A ys.length c) (hy : SlA T w ok A ys) (hok : ∀ k, ok k → k < w.heap.size → B ≤ k ∧ some k ≠ v.ownBlock)
    (hsz : (xs.length + ys.length) * (bytes + 1) ≤ 140737488351232) (hB : B ≤ w.heap.size)
    (h : ∀ A' c' w', Row T e w' B (.slice A' (xs ++ ys).length c') (xs ++ ys) → w.grownBy w' v.ownBlock → ((Value.slice A' (xs ++ ys).length c').ownBlock = v.ownBlock ∨ ∃ g, (Value.slice A' (xs ++ ys).length c').ownBlock = some g ∧ w.heap.size ≤ g) → wpList Tryz.prog ops Q rest (a.put o.dst (.slice A' (xs ++ ys).length c')) w') : wpList Tryz.prog ops Q (o :: rest) a w := by
  by_cases hn : ys = []
  · subst hn
    obtain ⟨A0, c0, rfl, h1, h2, h3⟩ := hrow.form
    obtain ⟨cells, ho', hk, hr⟩ := id hrow
    obtain ⟨i, z, hi, hz, _⟩ := E.info
    refine wpList_plain hgd fun K hK => ?_
    have hrun := run_append_zero (P := Tryz.prog) (w := w) B t o.type e i T.sz E.under hi _ _ cells ho' A c
    have hx0 : a.eval x = .slice A 0 c := hx
    have hK2 : _ := hK (a.put o.dst (.slice A0 xs.length c0)) w (by have := h A0 c0 w (by simpa using hrow) ⟨rfl, rfl, rfl, Nat.le_refl _, fun _ _ _ => rfl⟩ (.inl (by simp [Value.ownBlock])); simpa using this)
    unfold Oper.wp
    simp [execOp, ho, resolve, invoke, builtin, hs, hx0, hrun, Result.andThen]
    exact hK2
  · obtain ⟨cells, hr, hc⟩ := hy
    obtain ⟨b, off, rfl, hob, hlt, hcell⟩ := hc hn
    refine wpList_plain hgd fun _ hK => wp_own_app E s x ho hrow hs (ad := ⟨b, off, none⟩) hx (news := cells) (fun j u hu => by rw [Addr.add_lit]; exact hcell j u hu) (hr.mono fun k h1 h2 => hok k h1 h2) (List.length_pos_iff.2 hn) hsz hB (fun k hk => Nat.le_trans hB hk) fun g cap w' h2 h3 h4 h5 => hK _ _ ?_
    have h9 := h (some ⟨g, 0, none⟩) cap w' (by rw [List.length_append]; exact h2) h3 (by
      rcases h4 with h4 | h4
      · left; rw [h4]; rfl
      · exact .inr ⟨g, rfl, by omega⟩)
    rw [List.length_append] at h9
    exact h9
theorem entriesL_append (t : Tr) (place : List Int) (n : Nd) (xs ys : List Nd) : ∀ k, entriesL t place n k (xs ++ ys) = entriesL t place n k xs ++ entriesL t place n (k + xs.length) ys := by
  induction xs with
  | nil => intro k; simp [entriesL]
  | cons x r ih => intro k; rw [List.cons_append, entriesL, entriesL, ih, List.append_assoc, List.length_cons, show k + 1 + r.length = k + (r.length + 1) by omega]
/-- What one kid gives. -/
def entryOf (t : Tr) (place : List Int) (n : Nd) (k : Nat) (x : Nd) : List Win :=
  if (enabledM t (place ++ [(k : Int)])).2 ≠ 0 ∨ (ofM t (place ++ [(k : Int)])).2 ≠ 0 ∨ (enabledM t (place ++ [(k : Int)])).1 = false ∨ (ofM t (place ++ [(k : Int)])).1 = 0 then []
  else if (ofM t (place ++ [(k : Int)])).1 ≠ 1 then (regM n x).1
  else (rangesM n x).1.map fun r => (r.2.1, r.2.2)
theorem entriesL_next {t : Tr} {place : List Int} {n : Nd} {ks : List Nd} {k : Nat} {x : Nd} (hx : ks[k]? = some x) : entriesL t place n 0 (ks.take (k + 1)) = entriesL t place n 0 (ks.take k) ++ entryOf t place n k x := by
  have hk := (List.getElem?_eq_some_iff.1 hx).1
  rw [Nd.take_snoc hx, entriesL_append, List.length_take, Nat.min_eq_left (by omega), Nat.zero_add]
  simp [entriesL, entryOf]
theorem regM_len (p n : Nd) : (regM p n).1.length ≤ n.size := by
  unfold regM
  cases hf : n.find regS with
  | none => simp
  | some b =>
    have h1 := findP_size hf
    have h2 := Nd.size_eq n
    simp only
    split
    · simp
    · split
      · simp
      · unfold regW
        simp only [List.length_map, List.length_range]
        have h3 := Nat.div_le_self (cells4 b).length ((countsM p).1.toNat + (countsM p).2.1.toNat)
        rw [cells4_length] at h3
        have : b.length / 4 ≤ b.length := Nat.div_le_self _ _
        rw [cells4_length]
        omega
theorem rangesM_len (p n : Nd) : (rangesM p n).1.length ≤ n.size := by
  unfold rangesM
  have h0 := Nd.size_pos n
  cases hf : n.find rangesS with
  | none => simp
  | some b =>
    have h1 := findP_size hf
    have h2 := Nd.size_eq n
    simp only
    split
    · simp
    · split
      · simp
      · split
        · simp
        · split
          · simp; omega
          · unfold rngW
            simp only [List.length_map, List.length_range]
            have h3 := Nat.div_le_self (cells4 b).length ((countsM n).1.toNat + (countsM p).1.toNat + (countsM n).2.1.toNat)
            rw [cells4_length] at h3
            have : b.length / 4 ≤ b.length := Nat.div_le_self _ _
            rw [cells4_length]
            omega
theorem entryOf_len (t : Tr) (place : List Int) (n : Nd) (k : Nat) (x : Nd) : (entryOf t place n k x).length ≤ x.size := by
  unfold entryOf
  split
  · simp
  · split
    · exact regM_len n x
    · rw [List.length_map]; exact rangesM_len n x
theorem entriesL_len (t : Tr) (place : List Int) (n : Nd) (ks : List Nd) : ∀ k, (entriesL t place n k ks).length ≤ Nd.sizes ks := by
  induction ks with
  | nil => intro k; simp [entriesL]
  | cons x r ih =>
    intro k
    have h1 := entryOf_len t place n k x
    have h2 := ih (k + 1)
    rw [entriesL, List.length_append, Nd.sizes]
    unfold entryOf at h1
    omega
set_option maxRecDepth 100000 in
set_option maxHeartbeats 4000000 in
theorem entries_walk (t : Tr) (hsz : t.root.size ≤ 536870912) (place : List Int) (w : World) (hw : Wd w) (ok okp : Nat → Prop) (v pv : Value) (hv : TrV w ok v t) (hp : Sl tInt w okp pv place) :
    Calls Tryz.prog 164 #[v, pv] w fun e w' => ∃ v', e = .returned (.tuple #[v', .int .i64 (entriesM t place).2]) ∧ Sl tWin w' (w.heap.size ≤ ·) v' (entriesM t place).1 ∧ Below w.heap.size w w' := by
  have hget := fun w1 (h : Below w.heap.size w w1) => get_walk t (by omega) place w1 (fun k => ok k ∨ okp k) _ _ ((hv.mono fun k h _ => Or.inl h).below h) ((hp.mono fun k h _ => Or.inr h).below h)
  have hen0 := fun (k : Nat) w1 (h : Below w.heap.size w w1) ok1 v1 h1 => enabled_walk t hsz (place ++ [(k : Int)]) w1 ok ok1 _ v1 (hv.below h) h1
  have hof0 := fun (k : Nat) w1 (h : Below w.heap.size w w1) ok1 v1 h1 => ofT_walk t hsz (place ++ [(k : Int)]) w1 (hw.below h) ok ok1 _ v1 (hv.below h) h1
  have hgl := getN_len (t := t) (l := place)
  have hms := getN_le t place
  obtain ⟨A1, c1, A2, c2, A3, c3, rfl, hrl⟩ := hv.form
  obtain ⟨A4, c4, rfl, hc4, hl4, ha4⟩ := id hp
  clear ha4 hrl
  have hd : entriesM t place = if (getN t place).2 ≠ 0 then ([], (getN t place).2) else (entriesL t place (getN t place).1 0 (getN t place).1.kids, 0) := rfl
  rw [hd]
  clear hd
  obtain ⟨m, e0, hg0⟩ : ∃ m e0, getN t place = (m, e0) := ⟨_, _, rfl⟩
  simp only [hg0] at hget hgl hms ⊢
  clear hg0
  by_cases g1 : e0 = 0
  · subst g1
    have hpl := hgl rfl
    rw [if_neg (by simp)]
    obtain ⟨R, hR⟩ : ∃ R, R = entriesL t place m 0 m.kids := ⟨_, rfl⟩
    simp only [← hR]
    have HR := Lib.hid hR
    clear hR hgl
    have z1 := Nd.size_eq m
    go_enter Tryz.func164, Tryz.ntmps164
    go_wp2_with (first
      | (go_at_call 155; refine (hget _ (by repeat (first | assumption | exact Below.refl _ _ | with_reducible refine bset ?_ (by simp) _ | with_reducible refine balloc ?_ _ | with_reducible refine bdrew ?_ | with_reducible refine bdrewN ?_ _ | with_reducible refine bstep ?_ (by assumption)))).mono ?_; clear hget; rintro e w1 ⟨v1, rfl, hv1, hb1⟩; obtain ⟨A5, c5, A6, c6, rfl, hc5, hl5, ha5, hc6, hl6, ha6⟩ := hv1.form; have hbw1 := bstep (balloc (brefl w) _) hb1; have hT1 : w1.heap[w.heap.size]? = some (.cells #[.int .u32 t.boot, .slice A1 t.res.length c1, .string t.root.name, .slice A2 t.root.props.length c2, .slice A3 t.root.kids.length c3] 34 (0, 0)) := bblock (blast w _ _ rfl) hb1; have hz1 := hb1.size))
    simp only [World.size_alloc] at hz1
    go_loopw [8, 35] (fun out i wr => ∃ k : Nat, k ≤ m.kids.length ∧ i = .int .i64 k ∧ Row tWin 322 wr (w1.heap.size + 1) out (entriesL t place m 0 (m.kids.take k)) ∧ wr.heap[w.heap.size]? = some (.cells #[.int .u32 t.boot, .slice A1 t.res.length c1, .string t.root.name, .slice A2 t.root.props.length c2, .slice A3 t.root.kids.length c3] 34 (0, 0)) ∧ wr.heap[w1.heap.size]? = some (.cells #[.string m.name, .slice A5 m.props.length c5, .slice A6 m.kids.length c6] 32 (0, 0)) ∧ Below w1.heap.size w1 wr) (fun _ i _ => m.kids.length - (intOf i).toNat)
    case atStart => exact ⟨0, by omega, rfl, by simpa [entriesL] using Own.nil, bblock_alloc hT1 _, blast _ _ _ rfl, balloc (brefl w1) _⟩
    case round =>
      obtain ⟨k, hk, rfl, hrow, hT, hN, hb⟩ := hrel
      have hbwr := bstep hbw1 hb
      have lnr := blockLt hN
      obtain ⟨pre, hpre⟩ : ∃ pre, pre = entriesL t place m 0 (m.kids.take k) := ⟨_, rfl⟩
      rw [← hpre] at hrow
      obtain ⟨Ao, co, rfl, _, _, hvf⟩ := hrow.form
      clear hvf
      by_cases hkl : k < m.kids.length
      · have hx : m.kids[k]? = some m.kids[k] := List.getElem?_eq_getElem hkl
        have hmem := List.getElem_mem hkl
        obtain ⟨x, hxe⟩ : ∃ x, x = m.kids[k] := ⟨_, rfl⟩
        rw [← hxe] at hx hmem
        obtain ⟨b2, off2, Ax, cx, Ay, cy, rfl, hob2, hlb2, r0, r1, r2, hxv⟩ := (ha6.below hb).node_at hx
        have hnx := entriesL_next (t := t) (place := place) (n := m) hx
        have hxs := Nd.kid_size hmem
        have hel := entriesL_len t place m (m.kids.take k) 0
        have hst := (sizes_take hx).1
        have hst2 := (sizes_take hx).2
        have heo := entryOf_len t place m k x
        have hed : entryOf t place m k x = if (enabledM t (place ++ [(k : Int)])).2 ≠ 0 ∨ (ofM t (place ++ [(k : Int)])).2 ≠ 0 ∨ (enabledM t (place ++ [(k : Int)])).1 = false ∨ (ofM t (place ++ [(k : Int)])).1 = 0 then [] else if (ofM t (place ++ [(k : Int)])).1 ≠ 1 then (regM m x).1 else (rangesM m x).1.map fun r => (r.2.1, r.2.2) := rfl
        have hen := hen0 k
        have hof := hof0 k
        obtain ⟨on, e2, he2⟩ : ∃ on e2, enabledM t (place ++ [(k : Int)]) = (on, e2) := ⟨_, _, rfl⟩
        obtain ⟨kd, e3, he3⟩ : ∃ kd e3, ofM t (place ++ [(k : Int)]) = (kd, e3) := ⟨_, _, rfl⟩
        simp only [he2] at hen hed
        simp only [he3] at hof hed
        rw [← hpre] at hnx hel
        have hreg := fun w2 (h : Below w1.heap.size w1 w2) ok2 v2 h2 => reg_walk m x (by omega) (by omega) w2 _ ok2 _ v2 (hv1.below h) h2
        have hrng := fun w2 (h : Below w1.heap.size w1 w2) ok2 v2 h2 => ranges_walk m x (by omega) (by omega) w2 _ ok2 _ v2 (hv1.below h) h2
        have hk0 : (0 : Int) ≤ (k : Int) := by omega
        have hk1 : (k : Int) < (m.kids.length : Int) := by omega
        have hbz := hb.size
        clear hx hxe he2 he3 hpre hmem
        by_cases g2 : e2 ≠ 0 ∨ e3 ≠ 0 ∨ on = false ∨ kd = 0
        · rw [if_pos g2] at hed
          rw [hed] at hnx
          have HNX := Lib.hid hnx
          clear hed hnx heo
          by_cases g3 : e2 = 0
          · subst g3
            by_cases g4 : e3 = 0
            · subst g4
              cases on
              · clear g2
                go_wp2_with (first
                  | (go_at_call 180; refine (intsClone_walk place (by omega) _ okp _ (hp.below (bstep hbwr ?_))).mono ?_; exact (by repeat (first | assumption | exact Below.refl _ _ | with_reducible refine bset ?_ (by simp) _ | with_reducible refine balloc ?_ _ | with_reducible refine bdrew ?_ | with_reducible refine bdrewN ?_ _ | with_reducible refine bstep ?_ (by assumption))); rintro e w2 ⟨v2, rfl, hr2, hb2⟩; obtain ⟨A8, c8, rfl, hA8⟩ := hr2.form; clear hA8; have hB2 := bstep (balloc (brefl wr) (.cells #[.string x.name, .slice Ax x.props.length cx, .slice Ay x.kids.length cy] 32)) hb2; have K2 := bblock (blast wr (.cells #[.string x.name, .slice Ax x.props.length cx, .slice Ay x.kids.length cy] 32) _ rfl) hb2; have hz2 := hB2.size)
                  | (at_builtin; refine wpList_row1 rfl elInt _ _ rfl (hr2.below (by repeat (first | assumption | exact Below.refl _ _ | with_reducible refine bset ?_ (by simp) _ | with_reducible refine balloc ?_ _ | with_reducible refine bdrew ?_ | with_reducible refine bdrewN ?_ _ | with_reducible refine bstep ?_ (by assumption)))) rfl rfl (blast _ _ _ (by simp)) (y := (k : Int)) (rep_num (x := (k : Int)) (by omega) (by omega)) (by omega) (by simp; omega) ?_; intro g3 cap3 w3 hr3 hg3 hat3 hlt3; have hB3 : Below wr.heap.size wr w3 := bgrown (balloc hB2 _) hg3 (hr2.base (by simp)); have hsl3 := hr3.sl; have T3 := bblock hT hB3; have N3 := bblock hN hB3; have K3 := gblock (bblock_alloc K2 _) hg3 (fun e9 => by have := (hr2.lt _ e9.symm).1; simp only [World.size_alloc] at this; omega); have hz3 := hB3.size; have t0 := bcellAt (v := .int .u32 t.boot) T3 0 rfl; have t1 := bcellAt (v := .slice A1 t.res.length c1) T3 1 rfl; have t2 := bcellAt (v := .string t.root.name) T3 2 rfl; have t3 := bcellAt (v := .slice A2 t.root.props.length c2) T3 3 rfl; have t4 := bcellAt (v := .slice A3 t.root.kids.length c3) T3 4 rfl; have lt := blockLt T3; have n0 := bcellAt (v := .string m.name) N3 0 rfl; have n1 := bcellAt (v := .slice A5 m.props.length c5) N3 1 rfl; have n2 := bcellAt (v := .slice (some ⟨b2, off2, none⟩) m.kids.length c6) N3 2 rfl; have ln := blockLt N3; have k0 := bcellAt (v := .string x.name) K3 0 rfl; have k1 := bcellAt (v := .slice Ax x.props.length cx) K3 1 rfl; have k2 := bcellAt (v := .slice Ay x.kids.length cy) K3 2 rfl; have lk := blockLt K3; have hbw3 := bstep hbwr hB3)
                  | (go_at_call 157; refine (hen _ hbw3 _ _ hsl3).mono ?_; clear hen; rintro e w4 ⟨rfl, hb4⟩; have hB4 := bstep hB3 hb4; have hbw4 := bstep hbw3 hb4; have T4 := bblock T3 hb4; have N4 := bblock N3 hb4; have K4 := bblock K3 hb4; clear t0 t1 t2 t3 t4 lt; clear n0 n1 n2 ln; clear k0 k1 k2 lk; have t0 := bcellAt (v := .int .u32 t.boot) T4 0 rfl; have t1 := bcellAt (v := .slice A1 t.res.length c1) T4 1 rfl; have t2 := bcellAt (v := .string t.root.name) T4 2 rfl; have t3 := bcellAt (v := .slice A2 t.root.props.length c2) T4 3 rfl; have t4 := bcellAt (v := .slice A3 t.root.kids.length c3) T4 4 rfl; have lt := blockLt T4; have n0 := bcellAt (v := .string m.name) N4 0 rfl; have n1 := bcellAt (v := .slice A5 m.props.length c5) N4 1 rfl; have n2 := bcellAt (v := .slice (some ⟨b2, off2, none⟩) m.kids.length c6) N4 2 rfl; have ln := blockLt N4; have k0 := bcellAt (v := .string x.name) K4 0 rfl; have k1 := bcellAt (v := .slice Ax x.props.length cx) K4 1 rfl; have k2 := bcellAt (v := .slice Ay x.kids.length cy) K4 2 rfl; have lk := blockLt K4)
                  | (go_at_call 163; refine (hof _ hbw4 _ _ (hsl3.below hb4)).mono ?_; clear hof; rintro e w5 ⟨rfl, hb5⟩; have hB5 := bstep hB4 hb5; have hbw5 := bstep hbw4 hb5; have T5 := bblock T4 hb5; have N5 := bblock N4 hb5; have K5 := bblock K4 hb5; clear t0 t1 t2 t3 t4 lt; clear n0 n1 n2 ln; clear k0 k1 k2 lk; have n0 := bcellAt (v := .string m.name) N5 0 rfl; have n1 := bcellAt (v := .slice A5 m.props.length c5) N5 1 rfl; have n2 := bcellAt (v := .slice (some ⟨b2, off2, none⟩) m.kids.length c6) N5 2 rfl; have ln := blockLt N5; have k0 := bcellAt (v := .string x.name) K5 0 rfl; have k1 := bcellAt (v := .slice Ax x.props.length cx) K5 1 rfl; have k2 := bcellAt (v := .slice Ay x.kids.length cy) K5 2 rfl; have lk := blockLt K5; have hz5 := hB5.size))
                go_roundw
                case rel => exact ⟨k + 1, by omega, by go_num, by rw [HNX.out]; simpa using hrow.below hB5, bblock hT hB5, bblock hN hB5, bstep hb hB5⟩
                case measure => simp [intOf]; omega
              · have g5 : kd = 0 := by rcases g2 with h | h | h | h; exact absurd rfl h; exact absurd rfl h; cases h; exact h
                subst g5
                clear g2
                go_wp2_with (first
                  | (go_at_call 180; refine (intsClone_walk place (by omega) _ okp _ (hp.below (bstep hbwr ?_))).mono ?_; exact (by repeat (first | assumption | exact Below.refl _ _ | with_reducible refine bset ?_ (by simp) _ | with_reducible refine balloc ?_ _ | with_reducible refine bdrew ?_ | with_reducible refine bdrewN ?_ _ | with_reducible refine bstep ?_ (by assumption))); rintro e w2 ⟨v2, rfl, hr2, hb2⟩; obtain ⟨A8, c8, rfl, hA8⟩ := hr2.form; clear hA8; have hB2 := bstep (balloc (brefl wr) (.cells #[.string x.name, .slice Ax x.props.length cx, .slice Ay x.kids.length cy] 32)) hb2; have K2 := bblock (blast wr (.cells #[.string x.name, .slice Ax x.props.length cx, .slice Ay x.kids.length cy] 32) _ rfl) hb2; have hz2 := hB2.size)
                  | (at_builtin; refine wpList_row1 rfl elInt _ _ rfl (hr2.below (by repeat (first | assumption | exact Below.refl _ _ | with_reducible refine bset ?_ (by simp) _ | with_reducible refine balloc ?_ _ | with_reducible refine bdrew ?_ | with_reducible refine bdrewN ?_ _ | with_reducible refine bstep ?_ (by assumption)))) rfl rfl (blast _ _ _ (by simp)) (y := (k : Int)) (rep_num (x := (k : Int)) (by omega) (by omega)) (by omega) (by simp; omega) ?_; intro g3 cap3 w3 hr3 hg3 hat3 hlt3; have hB3 : Below wr.heap.size wr w3 := bgrown (balloc hB2 _) hg3 (hr2.base (by simp)); have hsl3 := hr3.sl; have T3 := bblock hT hB3; have N3 := bblock hN hB3; have K3 := gblock (bblock_alloc K2 _) hg3 (fun e9 => by have := (hr2.lt _ e9.symm).1; simp only [World.size_alloc] at this; omega); have hz3 := hB3.size; have t0 := bcellAt (v := .int .u32 t.boot) T3 0 rfl; have t1 := bcellAt (v := .slice A1 t.res.length c1) T3 1 rfl; have t2 := bcellAt (v := .string t.root.name) T3 2 rfl; have t3 := bcellAt (v := .slice A2 t.root.props.length c2) T3 3 rfl; have t4 := bcellAt (v := .slice A3 t.root.kids.length c3) T3 4 rfl; have lt := blockLt T3; have n0 := bcellAt (v := .string m.name) N3 0 rfl; have n1 := bcellAt (v := .slice A5 m.props.length c5) N3 1 rfl; have n2 := bcellAt (v := .slice (some ⟨b2, off2, none⟩) m.kids.length c6) N3 2 rfl; have ln := blockLt N3; have k0 := bcellAt (v := .string x.name) K3 0 rfl; have k1 := bcellAt (v := .slice Ax x.props.length cx) K3 1 rfl; have k2 := bcellAt (v := .slice Ay x.kids.length cy) K3 2 rfl; have lk := blockLt K3; have hbw3 := bstep hbwr hB3)
                  | (go_at_call 157; refine (hen _ hbw3 _ _ hsl3).mono ?_; clear hen; rintro e w4 ⟨rfl, hb4⟩; have hB4 := bstep hB3 hb4; have hbw4 := bstep hbw3 hb4; have T4 := bblock T3 hb4; have N4 := bblock N3 hb4; have K4 := bblock K3 hb4; clear t0 t1 t2 t3 t4 lt; clear n0 n1 n2 ln; clear k0 k1 k2 lk; have t0 := bcellAt (v := .int .u32 t.boot) T4 0 rfl; have t1 := bcellAt (v := .slice A1 t.res.length c1) T4 1 rfl; have t2 := bcellAt (v := .string t.root.name) T4 2 rfl; have t3 := bcellAt (v := .slice A2 t.root.props.length c2) T4 3 rfl; have t4 := bcellAt (v := .slice A3 t.root.kids.length c3) T4 4 rfl; have lt := blockLt T4; have n0 := bcellAt (v := .string m.name) N4 0 rfl; have n1 := bcellAt (v := .slice A5 m.props.length c5) N4 1 rfl; have n2 := bcellAt (v := .slice (some ⟨b2, off2, none⟩) m.kids.length c6) N4 2 rfl; have ln := blockLt N4; have k0 := bcellAt (v := .string x.name) K4 0 rfl; have k1 := bcellAt (v := .slice Ax x.props.length cx) K4 1 rfl; have k2 := bcellAt (v := .slice Ay x.kids.length cy) K4 2 rfl; have lk := blockLt K4)
                  | (go_at_call 163; refine (hof _ hbw4 _ _ (hsl3.below hb4)).mono ?_; clear hof; rintro e w5 ⟨rfl, hb5⟩; have hB5 := bstep hB4 hb5; have hbw5 := bstep hbw4 hb5; have T5 := bblock T4 hb5; have N5 := bblock N4 hb5; have K5 := bblock K4 hb5; clear t0 t1 t2 t3 t4 lt; clear n0 n1 n2 ln; clear k0 k1 k2 lk; have n0 := bcellAt (v := .string m.name) N5 0 rfl; have n1 := bcellAt (v := .slice A5 m.props.length c5) N5 1 rfl; have n2 := bcellAt (v := .slice (some ⟨b2, off2, none⟩) m.kids.length c6) N5 2 rfl; have ln := blockLt N5; have k0 := bcellAt (v := .string x.name) K5 0 rfl; have k1 := bcellAt (v := .slice Ax x.props.length cx) K5 1 rfl; have k2 := bcellAt (v := .slice Ay x.kids.length cy) K5 2 rfl; have lk := blockLt K5; have hz5 := hB5.size))
                go_roundw
                case rel => exact ⟨k + 1, by omega, by go_num, by rw [HNX.out]; simpa using hrow.below hB5, bblock hT hB5, bblock hN hB5, bstep hb hB5⟩
                case measure => simp [intOf]; omega
            · have q4 : (e3 != 0) = true := by rw [bne_iff_ne]; exact g4
              clear g2 g4
              go_wp2_with (first
                | (go_at_call 180; refine (intsClone_walk place (by omega) _ okp _ (hp.below (bstep hbwr ?_))).mono ?_; exact (by repeat (first | assumption | exact Below.refl _ _ | with_reducible refine bset ?_ (by simp) _ | with_reducible refine balloc ?_ _ | with_reducible refine bdrew ?_ | with_reducible refine bdrewN ?_ _ | with_reducible refine bstep ?_ (by assumption))); rintro e w2 ⟨v2, rfl, hr2, hb2⟩; obtain ⟨A8, c8, rfl, hA8⟩ := hr2.form; clear hA8; have hB2 := bstep (balloc (brefl wr) (.cells #[.string x.name, .slice Ax x.props.length cx, .slice Ay x.kids.length cy] 32)) hb2; have K2 := bblock (blast wr (.cells #[.string x.name, .slice Ax x.props.length cx, .slice Ay x.kids.length cy] 32) _ rfl) hb2; have hz2 := hB2.size)
                | (at_builtin; refine wpList_row1 rfl elInt _ _ rfl (hr2.below (by repeat (first | assumption | exact Below.refl _ _ | with_reducible refine bset ?_ (by simp) _ | with_reducible refine balloc ?_ _ | with_reducible refine bdrew ?_ | with_reducible refine bdrewN ?_ _ | with_reducible refine bstep ?_ (by assumption)))) rfl rfl (blast _ _ _ (by simp)) (y := (k : Int)) (rep_num (x := (k : Int)) (by omega) (by omega)) (by omega) (by simp; omega) ?_; intro g3 cap3 w3 hr3 hg3 hat3 hlt3; have hB3 : Below wr.heap.size wr w3 := bgrown (balloc hB2 _) hg3 (hr2.base (by simp)); have hsl3 := hr3.sl; have T3 := bblock hT hB3; have N3 := bblock hN hB3; have K3 := gblock (bblock_alloc K2 _) hg3 (fun e9 => by have := (hr2.lt _ e9.symm).1; simp only [World.size_alloc] at this; omega); have hz3 := hB3.size; have t0 := bcellAt (v := .int .u32 t.boot) T3 0 rfl; have t1 := bcellAt (v := .slice A1 t.res.length c1) T3 1 rfl; have t2 := bcellAt (v := .string t.root.name) T3 2 rfl; have t3 := bcellAt (v := .slice A2 t.root.props.length c2) T3 3 rfl; have t4 := bcellAt (v := .slice A3 t.root.kids.length c3) T3 4 rfl; have lt := blockLt T3; have n0 := bcellAt (v := .string m.name) N3 0 rfl; have n1 := bcellAt (v := .slice A5 m.props.length c5) N3 1 rfl; have n2 := bcellAt (v := .slice (some ⟨b2, off2, none⟩) m.kids.length c6) N3 2 rfl; have ln := blockLt N3; have k0 := bcellAt (v := .string x.name) K3 0 rfl; have k1 := bcellAt (v := .slice Ax x.props.length cx) K3 1 rfl; have k2 := bcellAt (v := .slice Ay x.kids.length cy) K3 2 rfl; have lk := blockLt K3; have hbw3 := bstep hbwr hB3)
                | (go_at_call 157; refine (hen _ hbw3 _ _ hsl3).mono ?_; clear hen; rintro e w4 ⟨rfl, hb4⟩; have hB4 := bstep hB3 hb4; have hbw4 := bstep hbw3 hb4; have T4 := bblock T3 hb4; have N4 := bblock N3 hb4; have K4 := bblock K3 hb4; clear t0 t1 t2 t3 t4 lt; clear n0 n1 n2 ln; clear k0 k1 k2 lk; have t0 := bcellAt (v := .int .u32 t.boot) T4 0 rfl; have t1 := bcellAt (v := .slice A1 t.res.length c1) T4 1 rfl; have t2 := bcellAt (v := .string t.root.name) T4 2 rfl; have t3 := bcellAt (v := .slice A2 t.root.props.length c2) T4 3 rfl; have t4 := bcellAt (v := .slice A3 t.root.kids.length c3) T4 4 rfl; have lt := blockLt T4; have n0 := bcellAt (v := .string m.name) N4 0 rfl; have n1 := bcellAt (v := .slice A5 m.props.length c5) N4 1 rfl; have n2 := bcellAt (v := .slice (some ⟨b2, off2, none⟩) m.kids.length c6) N4 2 rfl; have ln := blockLt N4; have k0 := bcellAt (v := .string x.name) K4 0 rfl; have k1 := bcellAt (v := .slice Ax x.props.length cx) K4 1 rfl; have k2 := bcellAt (v := .slice Ay x.kids.length cy) K4 2 rfl; have lk := blockLt K4)
                | (go_at_call 163; refine (hof _ hbw4 _ _ (hsl3.below hb4)).mono ?_; clear hof; rintro e w5 ⟨rfl, hb5⟩; have hB5 := bstep hB4 hb5; have hbw5 := bstep hbw4 hb5; have T5 := bblock T4 hb5; have N5 := bblock N4 hb5; have K5 := bblock K4 hb5; clear t0 t1 t2 t3 t4 lt; clear n0 n1 n2 ln; clear k0 k1 k2 lk; have n0 := bcellAt (v := .string m.name) N5 0 rfl; have n1 := bcellAt (v := .slice A5 m.props.length c5) N5 1 rfl; have n2 := bcellAt (v := .slice (some ⟨b2, off2, none⟩) m.kids.length c6) N5 2 rfl; have ln := blockLt N5; have k0 := bcellAt (v := .string x.name) K5 0 rfl; have k1 := bcellAt (v := .slice Ax x.props.length cx) K5 1 rfl; have k2 := bcellAt (v := .slice Ay x.kids.length cy) K5 2 rfl; have lk := blockLt K5; have hz5 := hB5.size))
              go_roundw
              case rel => exact ⟨k + 1, by omega, by go_num, by rw [HNX.out]; simpa using hrow.below hB5, bblock hT hB5, bblock hN hB5, bstep hb hB5⟩
              case measure => simp [intOf]; omega
          · have q3 : (e2 != 0) = true := by rw [bne_iff_ne]; exact g3
            clear g2 g3
            go_wp2_with (first
              | (go_at_call 180; refine (intsClone_walk place (by omega) _ okp _ (hp.below (bstep hbwr ?_))).mono ?_; exact (by repeat (first | assumption | exact Below.refl _ _ | with_reducible refine bset ?_ (by simp) _ | with_reducible refine balloc ?_ _ | with_reducible refine bdrew ?_ | with_reducible refine bdrewN ?_ _ | with_reducible refine bstep ?_ (by assumption))); rintro e w2 ⟨v2, rfl, hr2, hb2⟩; obtain ⟨A8, c8, rfl, hA8⟩ := hr2.form; clear hA8; have hB2 := bstep (balloc (brefl wr) (.cells #[.string x.name, .slice Ax x.props.length cx, .slice Ay x.kids.length cy] 32)) hb2; have K2 := bblock (blast wr (.cells #[.string x.name, .slice Ax x.props.length cx, .slice Ay x.kids.length cy] 32) _ rfl) hb2; have hz2 := hB2.size)
              | (at_builtin; refine wpList_row1 rfl elInt _ _ rfl (hr2.below (by repeat (first | assumption | exact Below.refl _ _ | with_reducible refine bset ?_ (by simp) _ | with_reducible refine balloc ?_ _ | with_reducible refine bdrew ?_ | with_reducible refine bdrewN ?_ _ | with_reducible refine bstep ?_ (by assumption)))) rfl rfl (blast _ _ _ (by simp)) (y := (k : Int)) (rep_num (x := (k : Int)) (by omega) (by omega)) (by omega) (by simp; omega) ?_; intro g3 cap3 w3 hr3 hg3 hat3 hlt3; have hB3 : Below wr.heap.size wr w3 := bgrown (balloc hB2 _) hg3 (hr2.base (by simp)); have hsl3 := hr3.sl; have T3 := bblock hT hB3; have N3 := bblock hN hB3; have K3 := gblock (bblock_alloc K2 _) hg3 (fun e9 => by have := (hr2.lt _ e9.symm).1; simp only [World.size_alloc] at this; omega); have hz3 := hB3.size; have t0 := bcellAt (v := .int .u32 t.boot) T3 0 rfl; have t1 := bcellAt (v := .slice A1 t.res.length c1) T3 1 rfl; have t2 := bcellAt (v := .string t.root.name) T3 2 rfl; have t3 := bcellAt (v := .slice A2 t.root.props.length c2) T3 3 rfl; have t4 := bcellAt (v := .slice A3 t.root.kids.length c3) T3 4 rfl; have lt := blockLt T3; have n0 := bcellAt (v := .string m.name) N3 0 rfl; have n1 := bcellAt (v := .slice A5 m.props.length c5) N3 1 rfl; have n2 := bcellAt (v := .slice (some ⟨b2, off2, none⟩) m.kids.length c6) N3 2 rfl; have ln := blockLt N3; have k0 := bcellAt (v := .string x.name) K3 0 rfl; have k1 := bcellAt (v := .slice Ax x.props.length cx) K3 1 rfl; have k2 := bcellAt (v := .slice Ay x.kids.length cy) K3 2 rfl; have lk := blockLt K3; have hbw3 := bstep hbwr hB3)
              | (go_at_call 157; refine (hen _ hbw3 _ _ hsl3).mono ?_; clear hen; rintro e w4 ⟨rfl, hb4⟩; have hB4 := bstep hB3 hb4; have hbw4 := bstep hbw3 hb4; have T4 := bblock T3 hb4; have N4 := bblock N3 hb4; have K4 := bblock K3 hb4; clear t0 t1 t2 t3 t4 lt; clear n0 n1 n2 ln; clear k0 k1 k2 lk; have t0 := bcellAt (v := .int .u32 t.boot) T4 0 rfl; have t1 := bcellAt (v := .slice A1 t.res.length c1) T4 1 rfl; have t2 := bcellAt (v := .string t.root.name) T4 2 rfl; have t3 := bcellAt (v := .slice A2 t.root.props.length c2) T4 3 rfl; have t4 := bcellAt (v := .slice A3 t.root.kids.length c3) T4 4 rfl; have lt := blockLt T4; have n0 := bcellAt (v := .string m.name) N4 0 rfl; have n1 := bcellAt (v := .slice A5 m.props.length c5) N4 1 rfl; have n2 := bcellAt (v := .slice (some ⟨b2, off2, none⟩) m.kids.length c6) N4 2 rfl; have ln := blockLt N4; have k0 := bcellAt (v := .string x.name) K4 0 rfl; have k1 := bcellAt (v := .slice Ax x.props.length cx) K4 1 rfl; have k2 := bcellAt (v := .slice Ay x.kids.length cy) K4 2 rfl; have lk := blockLt K4)
              | (go_at_call 163; refine (hof _ hbw4 _ _ (hsl3.below hb4)).mono ?_; clear hof; rintro e w5 ⟨rfl, hb5⟩; have hB5 := bstep hB4 hb5; have hbw5 := bstep hbw4 hb5; have T5 := bblock T4 hb5; have N5 := bblock N4 hb5; have K5 := bblock K4 hb5; clear t0 t1 t2 t3 t4 lt; clear n0 n1 n2 ln; clear k0 k1 k2 lk; have n0 := bcellAt (v := .string m.name) N5 0 rfl; have n1 := bcellAt (v := .slice A5 m.props.length c5) N5 1 rfl; have n2 := bcellAt (v := .slice (some ⟨b2, off2, none⟩) m.kids.length c6) N5 2 rfl; have ln := blockLt N5; have k0 := bcellAt (v := .string x.name) K5 0 rfl; have k1 := bcellAt (v := .slice Ax x.props.length cx) K5 1 rfl; have k2 := bcellAt (v := .slice Ay x.kids.length cy) K5 2 rfl; have lk := blockLt K5; have hz5 := hB5.size))
            go_roundw
            case rel => exact ⟨k + 1, by omega, by go_num, by rw [HNX.out]; simpa using hrow.below hB5, bblock hT hB5, bblock hN hB5, bstep hb hB5⟩
            case measure => simp [intOf]; omega
        · rw [if_neg g2] at hed
          have g3 : e2 = 0 := Classical.byContradiction fun h => g2 (.inl h)
          have g4 : e3 = 0 := Classical.byContradiction fun h => g2 (.inr (.inl h))
          have g5 : on = true := by cases on; exact absurd (.inr (.inr (.inl rfl))) g2; rfl
          have g6 : kd ≠ 0 := fun h => g2 (.inr (.inr (.inr h)))
          subst g3 g4 g5
          have q6 : (kd == 0) = false := by rw [beq_eq_false_iff_ne]; exact g6
          clear g2 g6
          by_cases g7 : kd = 1
          · subst g7
            rw [if_neg (by simp)] at hed
            obtain ⟨l, fo, e5, hl⟩ : ∃ l fo e5, rangesM m x = (l, fo, e5) := ⟨_, _, _, rfl⟩
            simp only [hl] at hrng hed
            rw [hed] at hnx heo
            rw [List.length_map] at heo
            have HNX := Lib.hid hnx
            clear hed hnx hl hreg
            go_wp2_with (first
              | (go_at_call 180; refine (intsClone_walk place (by omega) _ okp _ (hp.below (bstep hbwr ?_))).mono ?_; exact (by repeat (first | assumption | exact Below.refl _ _ | with_reducible refine bset ?_ (by simp) _ | with_reducible refine balloc ?_ _ | with_reducible refine bdrew ?_ | with_reducible refine bdrewN ?_ _ | with_reducible refine bstep ?_ (by assumption))); rintro e w2 ⟨v2, rfl, hr2, hb2⟩; obtain ⟨A8, c8, rfl, hA8⟩ := hr2.form; clear hA8; have hB2 := bstep (balloc (brefl wr) (.cells #[.string x.name, .slice Ax x.props.length cx, .slice Ay x.kids.length cy] 32)) hb2; have K2 := bblock (blast wr (.cells #[.string x.name, .slice Ax x.props.length cx, .slice Ay x.kids.length cy] 32) _ rfl) hb2; have hz2 := hB2.size)
              | (at_builtin; refine wpList_row1 rfl elInt _ _ rfl (hr2.below (by repeat (first | assumption | exact Below.refl _ _ | with_reducible refine bset ?_ (by simp) _ | with_reducible refine balloc ?_ _ | with_reducible refine bdrew ?_ | with_reducible refine bdrewN ?_ _ | with_reducible refine bstep ?_ (by assumption)))) rfl rfl (blast _ _ _ (by simp)) (y := (k : Int)) (rep_num (x := (k : Int)) (by omega) (by omega)) (by omega) (by simp; omega) ?_; intro g3 cap3 w3 hr3 hg3 hat3 hlt3; have hB3 : Below wr.heap.size wr w3 := bgrown (balloc hB2 _) hg3 (hr2.base (by simp)); have hsl3 := hr3.sl; have T3 := bblock hT hB3; have N3 := bblock hN hB3; have K3 := gblock (bblock_alloc K2 _) hg3 (fun e9 => by have := (hr2.lt _ e9.symm).1; simp only [World.size_alloc] at this; omega); have hz3 := hB3.size; have t0 := bcellAt (v := .int .u32 t.boot) T3 0 rfl; have t1 := bcellAt (v := .slice A1 t.res.length c1) T3 1 rfl; have t2 := bcellAt (v := .string t.root.name) T3 2 rfl; have t3 := bcellAt (v := .slice A2 t.root.props.length c2) T3 3 rfl; have t4 := bcellAt (v := .slice A3 t.root.kids.length c3) T3 4 rfl; have lt := blockLt T3; have n0 := bcellAt (v := .string m.name) N3 0 rfl; have n1 := bcellAt (v := .slice A5 m.props.length c5) N3 1 rfl; have n2 := bcellAt (v := .slice (some ⟨b2, off2, none⟩) m.kids.length c6) N3 2 rfl; have ln := blockLt N3; have k0 := bcellAt (v := .string x.name) K3 0 rfl; have k1 := bcellAt (v := .slice Ax x.props.length cx) K3 1 rfl; have k2 := bcellAt (v := .slice Ay x.kids.length cy) K3 2 rfl; have lk := blockLt K3; have hbw3 := bstep hbwr hB3)
              | (go_at_call 157; refine (hen _ hbw3 _ _ hsl3).mono ?_; clear hen; rintro e w4 ⟨rfl, hb4⟩; have hB4 := bstep hB3 hb4; have hbw4 := bstep hbw3 hb4; have T4 := bblock T3 hb4; have N4 := bblock N3 hb4; have K4 := bblock K3 hb4; clear t0 t1 t2 t3 t4 lt; clear n0 n1 n2 ln; clear k0 k1 k2 lk; have t0 := bcellAt (v := .int .u32 t.boot) T4 0 rfl; have t1 := bcellAt (v := .slice A1 t.res.length c1) T4 1 rfl; have t2 := bcellAt (v := .string t.root.name) T4 2 rfl; have t3 := bcellAt (v := .slice A2 t.root.props.length c2) T4 3 rfl; have t4 := bcellAt (v := .slice A3 t.root.kids.length c3) T4 4 rfl; have lt := blockLt T4; have n0 := bcellAt (v := .string m.name) N4 0 rfl; have n1 := bcellAt (v := .slice A5 m.props.length c5) N4 1 rfl; have n2 := bcellAt (v := .slice (some ⟨b2, off2, none⟩) m.kids.length c6) N4 2 rfl; have ln := blockLt N4; have k0 := bcellAt (v := .string x.name) K4 0 rfl; have k1 := bcellAt (v := .slice Ax x.props.length cx) K4 1 rfl; have k2 := bcellAt (v := .slice Ay x.kids.length cy) K4 2 rfl; have lk := blockLt K4)
              | (go_at_call 163; refine (hof _ hbw4 _ _ (hsl3.below hb4)).mono ?_; clear hof; rintro e w5 ⟨rfl, hb5⟩; have hB5 := bstep hB4 hb5; have hbw5 := bstep hbw4 hb5; have T5 := bblock T4 hb5; have N5 := bblock N4 hb5; have K5 := bblock K4 hb5; clear t0 t1 t2 t3 t4 lt; clear n0 n1 n2 ln; clear k0 k1 k2 lk; have n0 := bcellAt (v := .string m.name) N5 0 rfl; have n1 := bcellAt (v := .slice A5 m.props.length c5) N5 1 rfl; have n2 := bcellAt (v := .slice (some ⟨b2, off2, none⟩) m.kids.length c6) N5 2 rfl; have ln := blockLt N5; have k0 := bcellAt (v := .string x.name) K5 0 rfl; have k1 := bcellAt (v := .slice Ax x.props.length cx) K5 1 rfl; have k2 := bcellAt (v := .slice Ay x.kids.length cy) K5 2 rfl; have lk := blockLt K5; have hz5 := hB5.size)
              | (go_at_call 183; refine (hrng _ (bstep hb hB5) _ _ ((hxv.below hB5))).mono ?_; clear hrng; rintro e w6 ⟨v6, rfl, hr6, hb6⟩; obtain ⟨A9, c9, rfl, hc9, hl9, ha9⟩ := hr6; have hB6 := bstep hB5 hb6; have hz6 := hB6.size; have T6 := bblock T5 hb6; have N6 := bblock N5 hb6))
            have ha10 : SlA tRng w6 (fun q => wr.heap.size ≤ q ∧ q < w6.heap.size) A9 l := ha9.mono fun j h hlt => ⟨by have h9 : w5.heap.size ≤ j := h; omega, hlt⟩
            have hrow6 := hrow.below hB6
            have hbw6 := bstep hb hB6
            go_loopw [8, 91] (fun out i w7 => ∃ j : Nat, j ≤ l.length ∧ i = .int .i64 j ∧ Row tWin 322 w7 (w1.heap.size + 1) out (pre ++ (l.take j).map fun r => (r.2.1, r.2.2)) ∧ (∀ q, out.ownBlock = some q → q < wr.heap.size ∨ w6.heap.size ≤ q) ∧ SlA tRng w7 (fun q => wr.heap.size ≤ q ∧ q < w6.heap.size) A9 l ∧ w7.heap[w.heap.size]? = some (.cells #[.int .u32 t.boot, .slice A1 t.res.length c1, .string t.root.name, .slice A2 t.root.props.length c2, .slice A3 t.root.kids.length c3] 34 (0, 0)) ∧ w7.heap[w1.heap.size]? = some (.cells #[.string m.name, .slice A5 m.props.length c5, .slice (some ⟨b2, off2, none⟩) m.kids.length c6] 32 (0, 0)) ∧ Below w1.heap.size w1 w7 ∧ w6.heap.size ≤ w7.heap.size) (fun _ i _ => l.length - (intOf i).toNat)
            case atStart => exact ⟨0, by omega, rfl, by simpa using hrow6, fun q hq => .inl (hrow.lt q hq).2, ha10, T6, N6, hbw6, Nat.le_refl _⟩
            case round =>
              clear ha10 hrow6 T6 N6 hbw6
              obtain ⟨j, hj, rfl, hro, hown, ha11, hT7, hN7, hb7, hz7⟩ := hrel
              obtain ⟨ps, hps⟩ : ∃ ps, ps = pre ++ (l.take j).map fun r => (r.2.1, r.2.2) := ⟨_, rfl⟩
              rw [← hps] at hro
              have hpsl : ps.length ≤ pre.length + l.length := by rw [hps]; simp; omega
              obtain ⟨Ar, cr, rfl, _, _, hvf⟩ := hro.form
              clear hvf
              have ln7 := blockLt hN7
              by_cases hjl : j < l.length
              · have hy : l[j]? = some l[j] := List.getElem?_eq_getElem hjl
                obtain ⟨y, hye⟩ : ∃ y, y = l[j] := ⟨_, rfl⟩
                rw [← hye] at hy
                obtain ⟨b5, off5, rfl, hob5, hlb5, s0, s1, s2, hu0, hu1, hu2⟩ := ha11.rng_at hy
                have hnext : pre ++ (l.take (j + 1)).map (fun r => (r.2.1, r.2.2)) = ps ++ [(y.2.1, y.2.2)] := by rw [hps, Nd.take_snoc hy, List.map_append, List.append_assoc]; rfl
                have HN5 := Lib.hid hnext
                have hj0 : (0 : Int) ≤ (j : Int) := by omega
                have hj1 : (j : Int) < (l.length : Int) := by omega
                clear hnext hps hye hy
                go_wp2_with (first
                  | (at_builtin; refine wpList_row1 rfl elWin _ _ rfl (hro.below (by repeat (first | assumption | exact Below.refl _ _ | with_reducible refine bset ?_ (by simp) _ | with_reducible refine balloc ?_ _ | with_reducible refine bdrew ?_ | with_reducible refine bdrewN ?_ _ | with_reducible refine bstep ?_ (by assumption)))) rfl rfl (by first | exact blast _ _ _ (by simp) | simp) (y := (y.2.1, y.2.2)) (rep_win hu1 hu2) (by omega) (by simp; omega) ?_; intro g8 cap8 w8 hr8 hg8 hat8 hlt8; have hz8 := hg8.size))
                go_roundw
                case rel => exact ⟨j + 1, by omega, by go_num, by rw [HN5.out]; exact hr8, (fun q hq => by rcases hat8 with h | h; exact hown q (h.trans hq); right; simp [Value.ownBlock] at hq; simp at h; omega), (ha11.below (by repeat (first | assumption | exact Below.refl _ _ | with_reducible refine bset ?_ (by simp) _ | with_reducible refine balloc ?_ _ | with_reducible refine bdrew ?_ | with_reducible refine bdrewN ?_ _ | with_reducible refine bstep ?_ (by assumption)))).move (fun q hq hlt => hg8.block q hlt (fun e9 => by rcases hown q e9.symm with h | h <;> omega)), gblock (bblock hT7 (by repeat (first | assumption | exact Below.refl _ _ | with_reducible refine bset ?_ (by simp) _ | with_reducible refine balloc ?_ _ | with_reducible refine bdrew ?_ | with_reducible refine bdrewN ?_ _ | with_reducible refine bstep ?_ (by assumption)))) hg8 (hro.ne (by omega)), gblock (bblock hN7 (by repeat (first | assumption | exact Below.refl _ _ | with_reducible refine bset ?_ (by simp) _ | with_reducible refine balloc ?_ _ | with_reducible refine bdrew ?_ | with_reducible refine bdrewN ?_ _ | with_reducible refine bstep ?_ (by assumption)))) hg8 (hro.ne (by omega)), bgrown (bstep hb7 (by repeat (first | assumption | exact Below.refl _ _ | with_reducible refine bset ?_ (by simp) _ | with_reducible refine balloc ?_ _ | with_reducible refine bdrew ?_ | with_reducible refine bdrewN ?_ _ | with_reducible refine bstep ?_ (by assumption)))) hg8 (hro.base (by omega)), (by simp at hz8; omega)⟩
                case measure => simp [intOf]; omega
              · obtain rfl : j = l.length := by omega
                rw [List.take_length, ← HNX.out] at hps
                subst hps
                go_wp2_with fail
                go_roundw
                case rel => exact ⟨k + 1, by omega, by go_num, hro, hT7, hN7, hb7⟩
                case measure => simp [intOf]; omega
          · have q7 : (kd != 1) = true := by rw [bne_iff_ne]; exact g7
            rw [if_pos g7] at hed
            obtain ⟨l, e5, hl⟩ : ∃ l e5, regM m x = (l, e5) := ⟨_, _, rfl⟩
            simp only [hl] at hreg hed
            rw [hed] at hnx heo
            have HNX := Lib.hid hnx
            clear hed hnx hl g7
            go_wp2_with (first
              | (go_at_call 180; refine (intsClone_walk place (by omega) _ okp _ (hp.below (bstep hbwr ?_))).mono ?_; exact (by repeat (first | assumption | exact Below.refl _ _ | with_reducible refine bset ?_ (by simp) _ | with_reducible refine balloc ?_ _ | with_reducible refine bdrew ?_ | with_reducible refine bdrewN ?_ _ | with_reducible refine bstep ?_ (by assumption))); rintro e w2 ⟨v2, rfl, hr2, hb2⟩; obtain ⟨A8, c8, rfl, hA8⟩ := hr2.form; clear hA8; have hB2 := bstep (balloc (brefl wr) (.cells #[.string x.name, .slice Ax x.props.length cx, .slice Ay x.kids.length cy] 32)) hb2; have K2 := bblock (blast wr (.cells #[.string x.name, .slice Ax x.props.length cx, .slice Ay x.kids.length cy] 32) _ rfl) hb2; have hz2 := hB2.size)
              | (at_builtin; refine wpList_row1 rfl elInt _ _ rfl (hr2.below (by repeat (first | assumption | exact Below.refl _ _ | with_reducible refine bset ?_ (by simp) _ | with_reducible refine balloc ?_ _ | with_reducible refine bdrew ?_ | with_reducible refine bdrewN ?_ _ | with_reducible refine bstep ?_ (by assumption)))) rfl rfl (blast _ _ _ (by simp)) (y := (k : Int)) (rep_num (x := (k : Int)) (by omega) (by omega)) (by omega) (by simp; omega) ?_; intro g3 cap3 w3 hr3 hg3 hat3 hlt3; have hB3 : Below wr.heap.size wr w3 := bgrown (balloc hB2 _) hg3 (hr2.base (by simp)); have hsl3 := hr3.sl; have T3 := bblock hT hB3; have N3 := bblock hN hB3; have K3 := gblock (bblock_alloc K2 _) hg3 (fun e9 => by have := (hr2.lt _ e9.symm).1; simp only [World.size_alloc] at this; omega); have hz3 := hB3.size; have t0 := bcellAt (v := .int .u32 t.boot) T3 0 rfl; have t1 := bcellAt (v := .slice A1 t.res.length c1) T3 1 rfl; have t2 := bcellAt (v := .string t.root.name) T3 2 rfl; have t3 := bcellAt (v := .slice A2 t.root.props.length c2) T3 3 rfl; have t4 := bcellAt (v := .slice A3 t.root.kids.length c3) T3 4 rfl; have lt := blockLt T3; have n0 := bcellAt (v := .string m.name) N3 0 rfl; have n1 := bcellAt (v := .slice A5 m.props.length c5) N3 1 rfl; have n2 := bcellAt (v := .slice (some ⟨b2, off2, none⟩) m.kids.length c6) N3 2 rfl; have ln := blockLt N3; have k0 := bcellAt (v := .string x.name) K3 0 rfl; have k1 := bcellAt (v := .slice Ax x.props.length cx) K3 1 rfl; have k2 := bcellAt (v := .slice Ay x.kids.length cy) K3 2 rfl; have lk := blockLt K3; have hbw3 := bstep hbwr hB3)
              | (go_at_call 157; refine (hen _ hbw3 _ _ hsl3).mono ?_; clear hen; rintro e w4 ⟨rfl, hb4⟩; have hB4 := bstep hB3 hb4; have hbw4 := bstep hbw3 hb4; have T4 := bblock T3 hb4; have N4 := bblock N3 hb4; have K4 := bblock K3 hb4; clear t0 t1 t2 t3 t4 lt; clear n0 n1 n2 ln; clear k0 k1 k2 lk; have t0 := bcellAt (v := .int .u32 t.boot) T4 0 rfl; have t1 := bcellAt (v := .slice A1 t.res.length c1) T4 1 rfl; have t2 := bcellAt (v := .string t.root.name) T4 2 rfl; have t3 := bcellAt (v := .slice A2 t.root.props.length c2) T4 3 rfl; have t4 := bcellAt (v := .slice A3 t.root.kids.length c3) T4 4 rfl; have lt := blockLt T4; have n0 := bcellAt (v := .string m.name) N4 0 rfl; have n1 := bcellAt (v := .slice A5 m.props.length c5) N4 1 rfl; have n2 := bcellAt (v := .slice (some ⟨b2, off2, none⟩) m.kids.length c6) N4 2 rfl; have ln := blockLt N4; have k0 := bcellAt (v := .string x.name) K4 0 rfl; have k1 := bcellAt (v := .slice Ax x.props.length cx) K4 1 rfl; have k2 := bcellAt (v := .slice Ay x.kids.length cy) K4 2 rfl; have lk := blockLt K4)
              | (go_at_call 163; refine (hof _ hbw4 _ _ (hsl3.below hb4)).mono ?_; clear hof; rintro e w5 ⟨rfl, hb5⟩; have hB5 := bstep hB4 hb5; have hbw5 := bstep hbw4 hb5; have T5 := bblock T4 hb5; have N5 := bblock N4 hb5; have K5 := bblock K4 hb5; clear t0 t1 t2 t3 t4 lt; clear n0 n1 n2 ln; clear k0 k1 k2 lk; have n0 := bcellAt (v := .string m.name) N5 0 rfl; have n1 := bcellAt (v := .slice A5 m.props.length c5) N5 1 rfl; have n2 := bcellAt (v := .slice (some ⟨b2, off2, none⟩) m.kids.length c6) N5 2 rfl; have ln := blockLt N5; have k0 := bcellAt (v := .string x.name) K5 0 rfl; have k1 := bcellAt (v := .slice Ax x.props.length cx) K5 1 rfl; have k2 := bcellAt (v := .slice Ay x.kids.length cy) K5 2 rfl; have lk := blockLt K5; have hz5 := hB5.size)
              | (go_at_call 182; refine (hreg _ (bstep hb hB5) _ _ ((hxv.below hB5))).mono ?_; clear hreg; rintro e w6 ⟨v6, rfl, hr6, hb6⟩; obtain ⟨A9, c9, rfl, hc9, hl9, ha9⟩ := hr6.form; have hB6 := bstep hB5 hb6; have hz6 := hB6.size)
              | (at_builtin; refine wpList_row_app rfl elWin _ _ rfl (hrow.below hB6) rfl rfl ha9 (fun j h hlt => by have h9 : w5.heap.size ≤ j := h; exact ⟨by omega, fun e9 => by have := (hrow.lt j e9.symm).2; omega⟩) (by omega) (by omega) ?_; intro A10 c10 w7 hr7 hg7 hat7))
            go_roundw
            case rel => exact ⟨k + 1, by omega, by go_num, by rw [HNX.out]; simpa only [List.length_append] using hr7, gblock (bblock hT hB6) hg7 (hrow.ne (by omega)), gblock (bblock hN hB6) hg7 (hrow.ne (by omega)), bgrown (bstep hb hB6) hg7 (hrow.base (by omega))⟩
            case measure => simp [intOf]; omega
      · obtain rfl : k = m.kids.length := by omega
        have hpR : pre = R := by rw [hpre, List.take_length, HR.out]
        clear hpre
        subst hpR
        go_wp2_with fail
        go_ret2
        exact ⟨_, rfl, hrow.sl.mono (fun j h _ => by have h9 : w1.heap.size + 1 ≤ j := h; show w.heap.size ≤ j; omega), hbwr⟩
  · rw [if_pos g1]
    have q1 : (e0 != 0) = true := by rw [bne_iff_ne]; exact g1
    clear hgl g1
    go_enter Tryz.func164, Tryz.ntmps164
    go_wp2_with (first
      | (go_at_call 155; refine (hget _ (by repeat (first | assumption | exact Below.refl _ _ | with_reducible refine bset ?_ (by simp) _ | with_reducible refine balloc ?_ _ | with_reducible refine bdrew ?_ | with_reducible refine bdrewN ?_ _ | with_reducible refine bstep ?_ (by assumption)))).mono ?_; clear hget; rintro e w1 ⟨v1, rfl, hv1, hb1⟩; obtain ⟨A5, c5, A6, c6, rfl, hA5⟩ := hv1.form; clear hA5; have hbw1 := bstep (balloc (brefl w) _) hb1))
    go_ret2
    exact ⟨_, rfl, Sl.nil 0 none, balloc hbw1 _⟩
end Go.Proofs.YtdfknlhfdbbogaaGreatDoor

namespace Go.Proofs.YtdfknlhfdbbogaaGreatDoor
open Go.RowKit
set_option linter.unusedSimpArgs false
set_option linter.unusedVariables false
theorem busesL_skip {t : Tr} {p : List Int} {r : List (List Int)} (h : p ≠ [] ∧ ((enabledM t p).1 = false ∨ (ofM t p).1 ≠ 1)) : busesL t (p :: r) = busesL t r := by rw [busesL, if_pos h]
theorem busesL_hit {t : Tr} {p : List Int} {r : List (List Int)} (h : ¬ (p ≠ [] ∧ ((enabledM t p).1 = false ∨ (ofM t p).1 ≠ 1))) (h2 : overlapM (entriesM t p).1 = true) : busesL t (p :: r) = some p := by rw [busesL, if_neg h, if_pos h2]
theorem busesL_go {t : Tr} {p : List Int} {r : List (List Int)} (h : ¬ (p ≠ [] ∧ ((enabledM t p).1 = false ∨ (ofM t p).1 ≠ 1))) (h2 : overlapM (entriesM t p).1 = false) : busesL t (p :: r) = busesL t r := by rw [busesL, if_neg h, if_neg (by simp [h2])]
theorem wholeM_bus {t : Tr} {s : Lk} {p : List Int} (h : busesL t (allN [] t.root) = some p) : wholeM t s = atM t p 13 := by unfold wholeM; rw [h]
theorem wholeM_twice {t : Tr} {s : Lk} {p : List Int} (h : busesL t (allN [] t.root) = none) (h2 : twiceL [] s.2 = some p) : wholeM t s = atM t p 9 := by unfold wholeM; rw [h]; simp only; rw [h2]
theorem wholeM_last {t : Tr} {s : Lk} (h : busesL t (allN [] t.root) = none) (h2 : twiceL [] s.2 = none) : wholeM t s = if 1 < s.1 then .num 1 else .none := by unfold wholeM; rw [h]; simp only; rw [h2]
theorem twiceL_mem {seen l : List Wl} {p : List Int} (h : twiceL seen l = some p) : ∃ q ∈ l, q.2.1 = p := by
  induction l generalizing seen with
  | nil => cases h
  | cons a r ih =>
    rw [twiceL] at h
    split at h
    · injection h with h; exact ⟨a, by simp, h⟩
    · obtain ⟨q, hq, he⟩ := ih h; exact ⟨q, by simp [hq], he⟩
set_option maxRecDepth 100000 in
set_option maxHeartbeats 2000000 in
theorem whole_walk2 (t : Tr) (hsz : t.root.size ≤ 536870912) (s : Lk) (hne : ∀ q ∈ s.2, q.2.1 ≠ []) (w : World) (hw : Wd w) (g B : Nat) (vl : Value) (hlk : LkB w g t s.1 vl) (hrow : Row tWl 403 w B vl s.2) (hgB : g < B) :
    Calls Tryz.prog 72 #[.pointer (some ⟨g, 0, none⟩)] w fun e w' => ∃ v', e = .returned v' ∧ ErrV w' w.heap.size v' (wholeM t s) ∧ Below w.heap.size w w' := by
  obtain ⟨A1, c1, A2, c2, A3, c3, hL, hT⟩ := id hlk
  have hall := fun w1 (h : Below w.heap.size w w1) => all69_walk t hsz w1 _ _ (hT.below h)
  have htw := fun w1 (h : Below w.heap.size w w1) => twice_walk2 t s w1 g B vl (hlk.below h) (hrow.below h) hgB
  have hbus := fun p => wholeM_bus (t := t) (s := s) (p := p)
  have htwi := fun p => wholeM_twice (t := t) (s := s) (p := p)
  have hlast := wholeM_last (t := t) (s := s)
  have htm : ∀ p, twiceL [] s.2 = some p → p ≠ [] := fun p h => by obtain ⟨q, hq, he⟩ := twiceL_mem h; rw [← he]; exact hne q hq
  obtain ⟨R, hR⟩ : ∃ R, R = wholeM t s := ⟨_, rfl⟩
  simp only [← hR] at hbus htwi hlast ⊢
  clear hR
  obtain ⟨l, hl⟩ : ∃ l, l = allN [] t.root := ⟨_, rfl⟩
  simp only [← hl] at hall hbus htwi hlast
  have t0 := bcellAt hL 0 rfl
  have t1 := bcellAt hL 1 rfl
  have t2 := bcellAt hL 2 rfl
  have t3 := bcellAt hL 3 rfl
  have t4 := bcellAt hL 4 rfl
  have lt := blockLt hL
  obtain ⟨tw, htwe⟩ : ∃ tw, tw = twiceL [] s.2 := ⟨_, rfl⟩
  simp only [← htwe] at htw htwi hlast htm
  clear hl htwe
  go_enter Tryz.func72, Tryz.ntmps72
  go_wp2_with (first
    | (go_at_call 69; refine (hall _ (by repeat (first | assumption | exact Below.refl _ _ | with_reducible refine bset ?_ (by simp) _ | with_reducible refine balloc ?_ _ | with_reducible refine bdrew ?_ | with_reducible refine bdrewN ?_ _ | with_reducible refine bstep ?_ (by assumption)))).mono ?_; clear hall; rintro e w1 ⟨v1, rfl, hr1, hb1⟩; obtain ⟨A5, c5, rfl, hc5, hl5, ha5⟩ := hr1.form))
  go_loopw [18] (fun i wr => ∃ k : Nat, k ≤ l.length ∧ i = .int .i64 k ∧ busesL t l = busesL t (l.drop k) ∧ Below w1.heap.size w1 wr) (fun i _ => l.length - (intOf i).toNat)
  case atStart => exact ⟨0, by omega, rfl, by simp, brefl w1⟩
  case round =>
    clear t0 t1 t2 t3 t4 lt
    obtain ⟨k, hk, rfl, hRk, hb0⟩ := hrel
    have hb := bstep hb1 hb0
    have HRk := Lib.hid hRk
    have hLr := bblock hL hb
    clear hRk
    by_cases hkl : k < l.length
    · have hx : l[k]? = some l[k] := List.getElem?_eq_getElem hkl
      obtain ⟨p, hxe⟩ : ∃ p, p = l[k] := ⟨_, rfl⟩
      rw [← hxe] at hx
      have hdr : l.drop k = p :: l.drop (k + 1) := by rw [List.drop_eq_getElem_cons hkl, ← hxe]
      obtain ⟨b, off, Ap, cp, rfl, hob, hlb, r0, hcp, hlp, hap⟩ := (ha5.below hb0).sl_at hx
      have hsp : Sl tInt wr (w.heap.size ≤ ·) (.slice Ap p.length cp) p := ⟨Ap, cp, rfl, hcp, hlp, hap⟩
      have hen := fun w2 (h : Below w.heap.size w w2) (h2 : Below wr.heap.size wr w2) => enabled_walk t hsz p w2 (· < g) (w.heap.size ≤ ·) _ (.slice Ap p.length cp) (hT.below h) (hsp.below h2)
      have hof := fun w2 (h : Below w.heap.size w w2) (h2 : Below wr.heap.size wr w2) => ofT_walk t hsz p w2 (hw.below h) (· < g) (w.heap.size ≤ ·) _ (.slice Ap p.length cp) (hT.below h) (hsp.below h2)
      have hent := fun w2 (h : Below w.heap.size w w2) (h2 : Below wr.heap.size wr w2) => entries_walk t hsz p w2 (hw.below h) (· < g) (w.heap.size ≤ ·) _ (.slice Ap p.length cp) (hT.below h) (hsp.below h2)
      have hat := fun w2 (h : Below w.heap.size w w2) (h2 : Below wr.heap.size wr w2) => at_walk t hsz p 13 w2 (· < g) (w.heap.size ≤ ·) _ (.slice Ap p.length cp) (hT.below h) (hsp.below h2)
      have hov := fun w2 ok2 v2 h => overlap_walk (entriesM t p).1 w2 ok2 v2 h
      have hskip := busesL_skip (t := t) (p := p) (r := l.drop (k + 1))
      have hhit := busesL_hit (t := t) (p := p) (r := l.drop (k + 1))
      have hgo := busesL_go (t := t) (p := p) (r := l.drop (k + 1))
      rw [← hdr, ← HRk.out] at hskip hhit hgo
      obtain ⟨on, e2, he2⟩ : ∃ on e2, enabledM t p = (on, e2) := ⟨_, _, rfl⟩
      obtain ⟨kd, e3, he3⟩ : ∃ kd e3, ofM t p = (kd, e3) := ⟨_, _, rfl⟩
      obtain ⟨es, e4, he4⟩ : ∃ es e4, entriesM t p = (es, e4) := ⟨_, _, rfl⟩
      simp only [he2, he3, he4] at hen hof hent hov hskip hhit hgo
      obtain ⟨q, hq⟩ : ∃ q, q = overlapM es := ⟨_, rfl⟩
      simp only [← hq] at hov hhit hgo
      clear he2 he3 he4 hq hdr hxe hx htw
      have t0 := bcellAt hLr 0 rfl
      have t1 := bcellAt hLr 1 rfl
      have t2 := bcellAt hLr 2 rfl
      have t3 := bcellAt hLr 3 rfl
      have t4 := bcellAt hLr 4 rfl
      have lt := blockLt hLr
      have hk0 : (0 : Int) ≤ (k : Int) := by omega
      have hk1 : (k : Int) < (l.length : Int) := by omega
      by_cases hp0 : p = []
      · subst hp0
        clear hskip
        cases q
        · have hn := hgo (by simp) rfl
          have HNX := Lib.hid hn
          clear hgo hhit hn hat
          go_wp2_with (first
            | (go_at_call 157; refine (hen _ hb (brefl _)).mono ?_; clear hen; rintro e w2 ⟨rfl, hb2⟩; have hB2 := bstep hb hb2; have L2 := bblock hLr hb2; clear t0 t1 t2 t3 t4 lt; have t0 := bcellAt L2 0 rfl; have t1 := bcellAt L2 1 rfl; have t2 := bcellAt L2 2 rfl; have t3 := bcellAt L2 3 rfl; have t4 := bcellAt L2 4 rfl; have lt := blockLt L2)
            | (go_at_call 163; refine (hof _ hB2 hb2).mono ?_; clear hof; rintro e w3 ⟨rfl, hb3⟩; have hB3 := bstep hB2 hb3; have L3 := bblock L2 hb3; clear t0 t1 t2 t3 t4 lt; have t0 := bcellAt L3 0 rfl; have t1 := bcellAt L3 1 rfl; have t2 := bcellAt L3 2 rfl; have t3 := bcellAt L3 3 rfl; have t4 := bcellAt L3 4 rfl; have lt := blockLt L3)
            | (go_at_call 164; refine (hent _ hB3 (bstep hb2 hb3)).mono ?_; clear hent; rintro e w4 ⟨v4, rfl, hs4, hb4⟩; obtain ⟨A9, c9, rfl, hA9⟩ := id hs4; clear hA9; have hB4 := bstep hB3 hb4; have L4 := bblock L3 hb4; clear t0 t1 t2 t3 t4 lt; have t0 := bcellAt L4 0 rfl; have t1 := bcellAt L4 1 rfl; have t2 := bcellAt L4 2 rfl; have t3 := bcellAt L4 3 rfl; have t4 := bcellAt L4 4 rfl; have lt := blockLt L4)
            | (go_at_call 165; refine (hov _ _ _ hs4).mono ?_; clear hov; rintro e w5 ⟨rfl, hb5⟩; have hB5 := bstep hB4 hb5; have L5 := bblock L4 hb5; clear t0 t1 t2 t3 t4 lt; have t0 := bcellAt L5 0 rfl; have t1 := bcellAt L5 1 rfl; have t2 := bcellAt L5 2 rfl; have t3 := bcellAt L5 3 rfl; have t4 := bcellAt L5 4 rfl; have lt := blockLt L5))
          go_roundw
          case rel => exact ⟨k + 1, by omega, by go_num, HNX.out, bstep hb0 (bstep (bstep (bstep hb2 hb3) hb4) hb5)⟩
          case measure => simp [intOf]; omega
        · have hn := hhit (by simp) rfl
          have hfin := hbus _ hn
          subst hfin
          clear hgo hhit hn
          go_wp2_with (first
            | (go_at_call 157; refine (hen _ hb (brefl _)).mono ?_; clear hen; rintro e w2 ⟨rfl, hb2⟩; have hB2 := bstep hb hb2; have L2 := bblock hLr hb2; clear t0 t1 t2 t3 t4 lt; have t0 := bcellAt L2 0 rfl; have t1 := bcellAt L2 1 rfl; have t2 := bcellAt L2 2 rfl; have t3 := bcellAt L2 3 rfl; have t4 := bcellAt L2 4 rfl; have lt := blockLt L2)
            | (go_at_call 163; refine (hof _ hB2 hb2).mono ?_; clear hof; rintro e w3 ⟨rfl, hb3⟩; have hB3 := bstep hB2 hb3; have L3 := bblock L2 hb3; clear t0 t1 t2 t3 t4 lt; have t0 := bcellAt L3 0 rfl; have t1 := bcellAt L3 1 rfl; have t2 := bcellAt L3 2 rfl; have t3 := bcellAt L3 3 rfl; have t4 := bcellAt L3 4 rfl; have lt := blockLt L3)
            | (go_at_call 164; refine (hent _ hB3 (bstep hb2 hb3)).mono ?_; clear hent; rintro e w4 ⟨v4, rfl, hs4, hb4⟩; obtain ⟨A9, c9, rfl, hA9⟩ := id hs4; clear hA9; have hB4 := bstep hB3 hb4; have L4 := bblock L3 hb4; clear t0 t1 t2 t3 t4 lt; have t0 := bcellAt L4 0 rfl; have t1 := bcellAt L4 1 rfl; have t2 := bcellAt L4 2 rfl; have t3 := bcellAt L4 3 rfl; have t4 := bcellAt L4 4 rfl; have lt := blockLt L4)
            | (go_at_call 165; refine (hov _ _ _ hs4).mono ?_; clear hov; rintro e w5 ⟨rfl, hb5⟩; have hB5 := bstep hB4 hb5; have L5 := bblock L4 hb5; clear t0 t1 t2 t3 t4 lt; have t0 := bcellAt L5 0 rfl; have t1 := bcellAt L5 1 rfl; have t2 := bcellAt L5 2 rfl; have t3 := bcellAt L5 3 rfl; have t4 := bcellAt L5 4 rfl; have lt := blockLt L5)
            | (go_at_call 70; refine (hat _ hB5 (bstep (bstep (bstep hb2 hb3) hb4) hb5)).mono ?_; clear hat; rintro e w6 ⟨v6, rfl, he6, hb6⟩))
          go_ret
          exact ⟨_, rfl, he6.base (by have := hB5.size; omega), bstep hB5 hb6⟩
      · have hpos : (0 : Int) < (p.length : Int) := by have := List.length_pos_iff.2 hp0; omega
        cases on
        · have hn := hskip ⟨hp0, .inl rfl⟩
          have HNX := Lib.hid hn
          clear hgo hhit hn hat hskip hp0 hent hov
          go_wp2_with (first
            | (go_at_call 157; refine (hen _ hb (brefl _)).mono ?_; clear hen; rintro e w2 ⟨rfl, hb2⟩; have hB2 := bstep hb hb2; have L2 := bblock hLr hb2; clear t0 t1 t2 t3 t4 lt; have t0 := bcellAt L2 0 rfl; have t1 := bcellAt L2 1 rfl; have t2 := bcellAt L2 2 rfl; have t3 := bcellAt L2 3 rfl; have t4 := bcellAt L2 4 rfl; have lt := blockLt L2)
            | (go_at_call 163; refine (hof _ hB2 hb2).mono ?_; clear hof; rintro e w3 ⟨rfl, hb3⟩; have hB3 := bstep hB2 hb3; have L3 := bblock L2 hb3; clear t0 t1 t2 t3 t4 lt; have t0 := bcellAt L3 0 rfl; have t1 := bcellAt L3 1 rfl; have t2 := bcellAt L3 2 rfl; have t3 := bcellAt L3 3 rfl; have t4 := bcellAt L3 4 rfl; have lt := blockLt L3))
          go_roundw
          case rel => exact ⟨k + 1, by omega, by go_num, HNX.out, bstep hb0 (bstep hb2 hb3)⟩
          case measure => simp [intOf]; omega
        · by_cases hk7 : kd = 1
          · subst hk7
            clear hskip
            cases q
            · have hn := hgo (by simp) rfl
              have HNX := Lib.hid hn
              clear hgo hhit hn hat
              go_wp2_with (first
                | (go_at_call 157; refine (hen _ hb (brefl _)).mono ?_; clear hen; rintro e w2 ⟨rfl, hb2⟩; have hB2 := bstep hb hb2; have L2 := bblock hLr hb2; clear t0 t1 t2 t3 t4 lt; have t0 := bcellAt L2 0 rfl; have t1 := bcellAt L2 1 rfl; have t2 := bcellAt L2 2 rfl; have t3 := bcellAt L2 3 rfl; have t4 := bcellAt L2 4 rfl; have lt := blockLt L2)
                | (go_at_call 163; refine (hof _ hB2 hb2).mono ?_; clear hof; rintro e w3 ⟨rfl, hb3⟩; have hB3 := bstep hB2 hb3; have L3 := bblock L2 hb3; clear t0 t1 t2 t3 t4 lt; have t0 := bcellAt L3 0 rfl; have t1 := bcellAt L3 1 rfl; have t2 := bcellAt L3 2 rfl; have t3 := bcellAt L3 3 rfl; have t4 := bcellAt L3 4 rfl; have lt := blockLt L3)
                | (go_at_call 164; refine (hent _ hB3 (bstep hb2 hb3)).mono ?_; clear hent; rintro e w4 ⟨v4, rfl, hs4, hb4⟩; obtain ⟨A9, c9, rfl, hA9⟩ := id hs4; clear hA9; have hB4 := bstep hB3 hb4; have L4 := bblock L3 hb4; clear t0 t1 t2 t3 t4 lt; have t0 := bcellAt L4 0 rfl; have t1 := bcellAt L4 1 rfl; have t2 := bcellAt L4 2 rfl; have t3 := bcellAt L4 3 rfl; have t4 := bcellAt L4 4 rfl; have lt := blockLt L4)
                | (go_at_call 165; refine (hov _ _ _ hs4).mono ?_; clear hov; rintro e w5 ⟨rfl, hb5⟩; have hB5 := bstep hB4 hb5; have L5 := bblock L4 hb5; clear t0 t1 t2 t3 t4 lt; have t0 := bcellAt L5 0 rfl; have t1 := bcellAt L5 1 rfl; have t2 := bcellAt L5 2 rfl; have t3 := bcellAt L5 3 rfl; have t4 := bcellAt L5 4 rfl; have lt := blockLt L5))
              go_roundw
              case rel => exact ⟨k + 1, by omega, by go_num, HNX.out, bstep hb0 (bstep (bstep (bstep hb2 hb3) hb4) hb5)⟩
              case measure => simp [intOf]; omega
            · have hn := hhit (by simp) rfl
              have hfin := hbus _ hn
              subst hfin
              clear hgo hhit hn
              go_wp2_with (first
                | (go_at_call 157; refine (hen _ hb (brefl _)).mono ?_; clear hen; rintro e w2 ⟨rfl, hb2⟩; have hB2 := bstep hb hb2; have L2 := bblock hLr hb2; clear t0 t1 t2 t3 t4 lt; have t0 := bcellAt L2 0 rfl; have t1 := bcellAt L2 1 rfl; have t2 := bcellAt L2 2 rfl; have t3 := bcellAt L2 3 rfl; have t4 := bcellAt L2 4 rfl; have lt := blockLt L2)
                | (go_at_call 163; refine (hof _ hB2 hb2).mono ?_; clear hof; rintro e w3 ⟨rfl, hb3⟩; have hB3 := bstep hB2 hb3; have L3 := bblock L2 hb3; clear t0 t1 t2 t3 t4 lt; have t0 := bcellAt L3 0 rfl; have t1 := bcellAt L3 1 rfl; have t2 := bcellAt L3 2 rfl; have t3 := bcellAt L3 3 rfl; have t4 := bcellAt L3 4 rfl; have lt := blockLt L3)
                | (go_at_call 164; refine (hent _ hB3 (bstep hb2 hb3)).mono ?_; clear hent; rintro e w4 ⟨v4, rfl, hs4, hb4⟩; obtain ⟨A9, c9, rfl, hA9⟩ := id hs4; clear hA9; have hB4 := bstep hB3 hb4; have L4 := bblock L3 hb4; clear t0 t1 t2 t3 t4 lt; have t0 := bcellAt L4 0 rfl; have t1 := bcellAt L4 1 rfl; have t2 := bcellAt L4 2 rfl; have t3 := bcellAt L4 3 rfl; have t4 := bcellAt L4 4 rfl; have lt := blockLt L4)
                | (go_at_call 165; refine (hov _ _ _ hs4).mono ?_; clear hov; rintro e w5 ⟨rfl, hb5⟩; have hB5 := bstep hB4 hb5; have L5 := bblock L4 hb5; clear t0 t1 t2 t3 t4 lt; have t0 := bcellAt L5 0 rfl; have t1 := bcellAt L5 1 rfl; have t2 := bcellAt L5 2 rfl; have t3 := bcellAt L5 3 rfl; have t4 := bcellAt L5 4 rfl; have lt := blockLt L5)
                | (go_at_call 70; refine (hat _ hB5 (bstep (bstep (bstep hb2 hb3) hb4) hb5)).mono ?_; clear hat; rintro e w6 ⟨v6, rfl, he6, hb6⟩))
              go_ret
              exact ⟨_, rfl, he6.base (by have := hB5.size; omega), bstep hB5 hb6⟩
          · have hn := hskip ⟨hp0, .inr hk7⟩
            have q7 : (kd != 1) = true := by rw [bne_iff_ne]; exact hk7
            have HNX := Lib.hid hn
            clear hgo hhit hn hat hskip hp0 hent hov hk7
            go_wp2_with (first
              | (go_at_call 157; refine (hen _ hb (brefl _)).mono ?_; clear hen; rintro e w2 ⟨rfl, hb2⟩; have hB2 := bstep hb hb2; have L2 := bblock hLr hb2; clear t0 t1 t2 t3 t4 lt; have t0 := bcellAt L2 0 rfl; have t1 := bcellAt L2 1 rfl; have t2 := bcellAt L2 2 rfl; have t3 := bcellAt L2 3 rfl; have t4 := bcellAt L2 4 rfl; have lt := blockLt L2)
              | (go_at_call 163; refine (hof _ hB2 hb2).mono ?_; clear hof; rintro e w3 ⟨rfl, hb3⟩; have hB3 := bstep hB2 hb3; have L3 := bblock L2 hb3; clear t0 t1 t2 t3 t4 lt; have t0 := bcellAt L3 0 rfl; have t1 := bcellAt L3 1 rfl; have t2 := bcellAt L3 2 rfl; have t3 := bcellAt L3 3 rfl; have t4 := bcellAt L3 4 rfl; have lt := blockLt L3))
            go_roundw
            case rel => exact ⟨k + 1, by omega, by go_num, HNX.out, bstep hb0 (bstep hb2 hb3)⟩
            case measure => simp [intOf]; omega
    · obtain rfl : k = l.length := by omega
      have hbn : busesL t l = none := by rw [HRk.out, List.drop_length]; rfl
      have hlast := hlast hbn
      have htwi := fun p => htwi p hbn
      have HBN := Lib.hid hbn
      have t0 := bcellAt hLr 0 rfl
      have t1 := bcellAt hLr 1 rfl
      have t2 := bcellAt hLr 2 rfl
      have t3 := bcellAt hLr 3 rfl
      have t4 := bcellAt hLr 4 rfl
      have t5 := bcellAt hLr 5 rfl
      have lt := blockLt hLr
      clear hbn hbus
      cases tw with
      | some p =>
        have hfin := htwi p rfl
        have hpn := htm p rfl
        subst hfin
        simp only [Option.getD_some] at htw
        clear hlast htwi htm
        have hat := fun w2 (h : Below w.heap.size w w2) ok2 v2 h2 => at_walk t hsz p 9 w2 (· < g) ok2 _ v2 (hT.below h) h2
        go_wp2_with (first
          | (go_at_call 166; refine (htw _ hb).mono ?_; clear htw; rintro e w2 ⟨A8, c8, rfl, _, hs2, hb2⟩; have hsp2 := hs2; obtain ⟨A8', c8', he8, _, _, ha8⟩ := hs2; injection he8 with i1 i2 i3; subst i1; subst i3; obtain ⟨b8, off8, rfl, _, _⟩ := ha8.some_of hpn; clear ha8 i2; have hB2 := bstep hb hb2; have L2 := bblock hLr hb2; clear t0 t1 t2 t3 t4 lt t5; have t0 := bcellAt L2 0 rfl; have t1 := bcellAt L2 1 rfl; have t2 := bcellAt L2 2 rfl; have t3 := bcellAt L2 3 rfl; have t4 := bcellAt L2 4 rfl; have lt := blockLt L2)
          | (go_at_call 70; refine (hat _ hB2 _ _ hsp2).mono ?_; clear hat; rintro e w6 ⟨v6, rfl, he6, hb6⟩))
        go_ret
        exact ⟨_, rfl, he6.base hB2.size, bstep hB2 hb6⟩
      | none =>
        have hfin := hlast rfl
        simp only [Option.getD_none, List.length_nil] at htw
        clear hlast htwi htm
        by_cases g9 : 1 < s.1
        · rw [if_pos g9] at hfin
          subst hfin
          go_wp2_with (first
            | (go_at_call 166; refine (htw _ hb).mono ?_; clear htw; rintro e w2 ⟨A8, c8, rfl, h8, hs2, hb2⟩; obtain ⟨rfl, rfl⟩ := h8 trivial; have hB2 := bstep hb hb2; have L2 := bblock hLr hb2; clear t0 t1 t2 t3 t4 lt t5; have t0 := bcellAt L2 0 rfl; have t1 := bcellAt L2 1 rfl; have t2 := bcellAt L2 2 rfl; have t3 := bcellAt L2 3 rfl; have t4 := bcellAt L2 4 rfl; have lt := blockLt L2; have t5 := bcellAt L2 5 rfl))
          go_ret
          exact ⟨_, rfl, ⟨rfl, by decide⟩, hB2⟩
        · rw [if_neg g9] at hfin
          subst hfin
          go_wp2_with (first
            | (go_at_call 166; refine (htw _ hb).mono ?_; clear htw; rintro e w2 ⟨A8, c8, rfl, h8, hs2, hb2⟩; obtain ⟨rfl, rfl⟩ := h8 trivial; have hB2 := bstep hb hb2; have L2 := bblock hLr hb2; clear t0 t1 t2 t3 t4 lt t5; have t0 := bcellAt L2 0 rfl; have t1 := bcellAt L2 1 rfl; have t2 := bcellAt L2 2 rfl; have t3 := bcellAt L2 3 rfl; have t4 := bcellAt L2 4 rfl; have lt := blockLt L2; have t5 := bcellAt L2 5 rfl))
          go_ret
          exact ⟨_, rfl, rfl, hB2⟩
end Go.Proofs.YtdfknlhfdbbogaaGreatDoor

namespace Go.Proofs.YtdfknlhfdbbogaaGreatDoor
open Go.RowKit
set_option linter.unusedSimpArgs false
set_option linter.unusedVariables false
theorem LkRes.step {t : Tr} {vl : Value} {B g : Nat} {w w1 w2 : World} {s : Lk} (h : LkRes t vl B g w s w1) (hb : Below w1.heap.size w1 w2) : LkRes t vl B g w s w2 := by
  obtain ⟨vl', h1, h2, h3, h4⟩ := h
  exact ⟨vl', h1.below hb, h2.below hb, h3.step hb, h4⟩
theorem wayL_ne {t : Tr} {l : List Ln} (h : wayL t l = 0) : ∀ x ∈ l, x.1 ≠ [] := by
  induction l with
  | nil => intro x hx; cases hx
  | cons a r ih =>
    rw [wayL] at h
    split at h
    · cases h
    · rename_i hn
      intro x hx
      rcases List.mem_cons.1 hx with rfl | hx
      · exact fun e => hn (.inl e)
      · exact ih h x hx
theorem rootK_mem (t : Tr) (k : Nat) : ∀ way l, (rootK t k way l).2.2 = 0 → ∀ a ∈ way, a ∈ (rootK t k way l).2.1 := by
  induction k with
  | zero => intro way l h; simp [rootK] at h
  | succ k ih =>
    intro way l h a ha
    rw [rootK_succ] at h ⊢
    split at h
    · rename_i h1; exact absurd h h1
    · rename_i h1
      rw [if_neg h1]
      split at h
      · rename_i h2; exact absurd h h2
      · rename_i h2
        rw [if_neg h2]
        cases hm : (linesM t (throughM t l).1.1).1 with
        | nil => simp [ha]
        | cons x r => rw [hm] at h; exact ih _ _ h a (by simp [ha])
theorem way_ne {t : Tr} {x : Ln} (h : wayM t x = 0) : (throughM t x).1.1 ≠ [] := by
  unfold wayM at h
  split at h
  · rename_i h1; exact absurd h h1
  · rename_i h1
    have h1 : (rootM t x).2.2 = 0 := Classical.byContradiction h1
    split at h
    · cases h
    · have hw := wayL_ne h
      refine hw _ ?_
      unfold rootM at h1 ⊢
      rw [rootK_succ] at h1 ⊢
      split at h1
      · rename_i h2; exact absurd h1 h2
      · rename_i h2
        rw [if_neg h2]
        split at h1
        · rename_i h3; exact absurd h1 h3
        · rename_i h3
          rw [if_neg h3]
          cases hm : (linesM t (throughM t x).1.1).1 with
          | nil => simp
          | cons y r => rw [hm] at h1; exact rootK_mem t _ _ _ h1 _ (by simp)
/-- What one node does to the look. -/
theorem nodeM_state (t : Tr) (p : List Int) (s : Lk) : (nodeM t p s).2 = s ∨ (nodeM t p s).2 = (s.1 + 1, s.2) ∨ ∃ y : Wl, y.2.1 ≠ [] ∧ (nodeM t p s).2 = (s.1, s.2 ++ [y]) := by
  have H : ∀ n k, (wiresM t n p k s).2 = s ∨ (wiresM t n p k s).2 = (s.1 + 1, s.2) ∨ ∃ y : Wl, y.2.1 ≠ [] ∧ (wiresM t n p k s).2 = (s.1, s.2 ++ [y]) := by
    intro n k
    unfold wiresM
    split
    · exact .inl rfl
    · split
      · exact .inl rfl
      · split
        · split
          · exact .inr (.inl rfl)
          · exact .inl rfl
        · split
          · exact .inl rfl
          · rename_i hw
            exact .inr (.inr ⟨_, way_ne (Classical.byContradiction hw), rfl⟩)
  unfold nodeM
  repeat' (first | exact .inl rfl | exact H _ _ | split)
theorem allN_mem_len {n : Nd} {p : List Int} (h : p ∈ allN [] n) : p.length ≤ n.size := by
  rw [← allNd_fst n []] at h
  obtain ⟨x, hx, rfl⟩ := List.mem_map.1 h
  obtain ⟨q, hq, hd⟩ := allNd_down n [] x hx
  have := downN_len hd
  rw [hq, List.nil_append]
  omega
theorem nodesL_skip {t : Tr} {s : Lk} {r : List (List Int)} : nodesL t s ([] :: r) = nodesL t s r := by rw [nodesL, if_pos rfl]
theorem nodesL_err {t : Tr} {s : Lk} {p : List Int} {r : List (List Int)} (h : p ≠ []) (he : (nodeM t p s).1 ≠ 0) : nodesL t s (p :: r) = (atM t p (nodeM t p s).1, (nodeM t p s).2) := by rw [nodesL, if_neg h, if_pos he]
theorem nodesL_go {t : Tr} {s : Lk} {p : List Int} {r : List (List Int)} (h : p ≠ []) (he : (nodeM t p s).1 = 0) : nodesL t s (p :: r) = nodesL t (nodeM t p s).2 r := by rw [nodesL, if_neg h, if_neg (by simp [he])]
theorem validM_a {t : Tr} (h : checkT t ≠ 0) : validM t = .num (checkT t) := by unfold validM; rw [if_pos h]
theorem validM_b {t : Tr} {e : Int} (h : checkT t = 0) (h2 : indexM t = .error e) : validM t = .num e := by unfold validM; rw [if_neg (by simp [h]), h2]
theorem validM_c {t : Tr} {l : List Ref} (h : checkT t = 0) (h2 : indexM t = .ok l) : validM t = match (nodesL t (0, []) (allN [] t.root)).1 with | .none => wholeM t (nodesL t (0, []) (allN [] t.root)).2 | x => x := by unfold validM; rw [if_neg (by simp [h]), h2]; rfl
set_option maxRecDepth 100000 in
set_option maxHeartbeats 2000000 in
theorem valid_walk (t : Tr) (hsz : t.root.size ≤ 536870912) (w : World) (hw : Wd w) (ok : Nat → Prop) (v : Value) (hv : TrV w ok v t) :
    Calls Tryz.prog 19 #[v] w fun e w' => ∃ v', e = .returned v' ∧ ErrV w' w.heap.size v' (validM t) ∧ Below w.heap.size w w' := by
  have hv0 : TrV w (· < w.heap.size) v t := hv.mono fun k _ h => h
  clear hv
  have hck := fun w1 (h : Below w.heap.size w w1) => checkT_walk t (by omega) w1 _ _ (hv0.below h) (hw.below h)
  have hix := fun w1 (h : Below w.heap.size w w1) => index_walk t hsz w1 _ _ (hv0.below h)
  have hal := fun w1 (h : Below w.heap.size w w1) => all69_walk t hsz w1 _ _ (hv0.below h)
  have ha := validM_a (t := t)
  have hb' := fun e => validM_b (t := t) (e := e)
  have hc' := fun l => validM_c (t := t) (l := l)
  have hlen : ∀ p ∈ allN [] t.root, p.length ≤ t.root.size := fun p h => allN_mem_len h
  have hln := allN_length t.root []
  obtain ⟨R, hR⟩ : ∃ R, R = validM t := ⟨_, rfl⟩
  simp only [← hR] at ha hb' hc' ⊢
  clear hR
  obtain ⟨e0, he0⟩ : ∃ e0, e0 = checkT t := ⟨_, rfl⟩
  simp only [← he0] at hck ha hb' hc'
  obtain ⟨l, hl⟩ : ∃ l, l = allN [] t.root := ⟨_, rfl⟩
  simp only [← hl] at hal hc' hlen hln
  clear he0 hl
  obtain ⟨A1, c1, A2, c2, A3, c3, rfl, hrl⟩ := hv0.form
  clear hrl
  by_cases g0 : e0 = 0
  · subst g0
    clear ha
    have hb' := fun e => hb' e rfl
    have hc' := fun l => hc' l rfl
    have hBX := blast w (.cells #[.int .u32 t.boot, .slice A1 t.res.length c1, .string t.root.name, .slice A2 t.root.props.length c2, .slice A3 t.root.kids.length c3] 34) _ rfl
    cases hi : indexM t with
    | error ie =>
      have hfin := hb' ie hi
      simp only [hi] at hix
      subst hfin
      clear hc' hb' hal hi
      go_enter Tryz.func19, Tryz.ntmps19
      go_wp2_with (first
        | (go_at_call 67; refine (hck _ (by repeat (first | assumption | exact Below.refl _ _ | with_reducible refine bset ?_ (by simp) _ | with_reducible refine balloc ?_ _ | with_reducible refine bdrew ?_ | with_reducible refine bdrewN ?_ _ | with_reducible refine bstep ?_ (by assumption)))).mono ?_; clear hck; rintro e w1 ⟨rfl, hb1⟩; have hbw1 := bstep (balloc (brefl w) _) hb1; have T1 := bblock hBX hb1; have t0 := bcellAt T1 0 rfl; have t1 := bcellAt T1 1 rfl; have t2 := bcellAt T1 2 rfl; have t3 := bcellAt T1 3 rfl; have t4 := bcellAt T1 4 rfl; have lt := blockLt T1)
        | (go_at_call 68; refine (hix _ hbw1).mono ?_; clear hix; rintro e w2 ⟨v2, e2, rfl, hres, hb2⟩; rcases hres with ⟨_, _, hres, _⟩ | ⟨hne, hres⟩; cases hres; injection hres with hres; subst hres; have hbw2 := bstep hbw1 hb2; have q2 : (ie != 0) = true := (by rw [bne_iff_ne]; exact hne); have HNE := Lib.hid hne; clear hne))
      go_ret
      exact ⟨_, rfl, ⟨rfl, HNE.out⟩, hbw2⟩
    | ok lr =>
      have hRc := hc' lr hi
      have HRC := Lib.hid hRc
      simp only [hi] at hix
      clear hc' hb' hi hRc
      go_enter Tryz.func19, Tryz.ntmps19
      go_wp2_with (first
        | (go_at_call 67; refine (hck _ (by repeat (first | assumption | exact Below.refl _ _ | with_reducible refine bset ?_ (by simp) _ | with_reducible refine balloc ?_ _ | with_reducible refine bdrew ?_ | with_reducible refine bdrewN ?_ _ | with_reducible refine bstep ?_ (by assumption)))).mono ?_; clear hck; rintro e w1 ⟨rfl, hb1⟩; have hbw1 := bstep (balloc (brefl w) _) hb1; have T1 := bblock hBX hb1; have t0 := bcellAt T1 0 rfl; have t1 := bcellAt T1 1 rfl; have t2 := bcellAt T1 2 rfl; have t3 := bcellAt T1 3 rfl; have t4 := bcellAt T1 4 rfl; have lt := blockLt T1)
        | (go_at_call 68; refine (hix _ hbw1).mono ?_; clear hix; rintro e w2 ⟨v2, e2, rfl, hres, hb2⟩; rcases hres with ⟨rfl, lr, hres, hrw, hrl⟩ | ⟨hne, hres⟩; rotate_left; cases hres; clear hres; obtain ⟨A8, c8, rfl, hA8⟩ := hrw.form; clear hA8 hrw; have hbw2 := bstep hbw1 hb2; have T2 := bblock T1 hb2; have ltT := blockLt T2; clear t0 t1 t2 t3 t4 lt; have t0 := bcellAt T2 0 rfl; have t1 := bcellAt T2 1 rfl; have t2 := bcellAt T2 2 rfl; have t3 := bcellAt T2 3 rfl; have t4 := bcellAt T2 4 rfl; have lt := blockLt T2)
        | (go_at_call 69; refine (hal _ (balloc hbw2 _)).mono ?_; clear hal; rintro e w5 ⟨v5, rfl, hr5, hb5⟩; obtain ⟨A5, c5, rfl, hc5, hl5, ha5⟩ := hr5.form; have hbw5 := bstep (balloc hbw2 _) hb5; have L5 := bblock (blast w2 (.cells #[.int .u32 t.boot, .slice A1 t.res.length c1, .string t.root.name, .slice A2 t.root.props.length c2, .slice A3 t.root.kids.length c3, .int .i64 0, .slice none 0 0] 152) _ rfl) hb5; have T5 := bblock (bblock_alloc T2 _) hb5; have hz5 := hb5.size; have hz2 := hbw2.size; clear t0 t1 t2 t3 t4 lt; ))
      simp only [World.size_alloc] at hz5
      have hT5 : TrV w5 (· < w2.heap.size) (.agg #[.int .u32 t.boot, .slice A1 t.res.length c1, .string t.root.name, .slice A2 t.root.props.length c2, .slice A3 t.root.kids.length c3]) t := (hv0.below hbw5).mono fun j h _ => by have h9 : j < w.heap.size := h; show j < w2.heap.size; omega
      have hlk5 : LkB w5 w2.heap.size t 0 (.slice none 0 0) := ⟨A1, c1, A2, c2, A3, c3, L5, hT5⟩
      go_loopw [31] (fun i wr => ∃ (k : Nat) (s : Lk) (vl : Value), k ≤ l.length ∧ i = .int .i64 k ∧ nodesL t (0, []) l = nodesL t s (l.drop k) ∧ 0 ≤ s.1 ∧ s.1 ≤ k ∧ s.2.length ≤ k ∧ (∀ q ∈ s.2, q.2.1 ≠ []) ∧ LkB wr w2.heap.size t s.1 vl ∧ Row tWl 403 wr w5.heap.size vl s.2 ∧ Kept (· = w2.heap.size) w5 wr) (fun i _ => l.length - (intOf i).toNat)
      case atStart => exact ⟨0, (0, []), .slice none 0 0, by omega, rfl, by simp, by simp, by simp, by simp, by simp, hlk5, Own.nil, Kept.refl _ _⟩
      case round =>
        clear hlk5 L5 hT5
        obtain ⟨k, s, vl, hk, rfl, hRk, hs0, hs1, hs2, hs3, hlk, hrow, hK⟩ := hrel
        have hKw : Below w.heap.size w wr := ((Kept.below (X := fun _ => False) hbw5).trans hK (fun i hi h => by have h9 : i = w2.heap.size := h; omega)).toBelow fun _ _ h => h
        have HRk := Lib.hid hRk
        clear hRk
        by_cases hkl : k < l.length
        · have hx : l[k]? = some l[k] := List.getElem?_eq_getElem hkl
          obtain ⟨p, hxe⟩ : ∃ p, p = l[k] := ⟨_, rfl⟩
          rw [← hxe] at hx
          have hdr : l.drop k = p :: l.drop (k + 1) := by rw [List.drop_eq_getElem_cons hkl, ← hxe]
          have hpl := hlen p (List.mem_of_getElem? hx)
          have hRd := HRk.out
          rw [hdr] at hRd
          have ha6 : SlA (tSl tInt) wr (fun j => w2.heap.size < j ∧ j < w5.heap.size) A5 l := (ha5.mono (ok' := fun j => w2.heap.size < j ∧ j < w5.heap.size) fun j h hlt => ⟨by have h9 : (w2.alloc (.cells #[.int .u32 t.boot, .slice A1 t.res.length c1, .string t.root.name, .slice A2 t.root.props.length c2, .slice A3 t.root.kids.length c3, .int .i64 0, .slice none 0 0] 152)).heap.size ≤ j := h; simp only [World.size_alloc] at h9; omega, hlt⟩).move fun j hj hlt => hK.block j hlt (by have := hj.1; omega)
          obtain ⟨b, off, Ap, cp, rfl, hob, hlb, r0, hcp, hlp, hap⟩ := ha6.sl_at hx
          have hsp : Sl tInt wr (fun j => w2.heap.size < j ∧ j < w5.heap.size) (.slice Ap p.length cp) p := ⟨Ap, cp, rfl, hcp, hlp, hap⟩
          have hT6 : wr.heap[w.heap.size]? = some (.cells #[.int .u32 t.boot, .slice A1 t.res.length c1, .string t.root.name, .slice A2 t.root.props.length c2, .slice A3 t.root.kids.length c3] 34 (0, 0)) := (hK.block _ (by omega) (by omega)).trans T5
          have hk0 : (0 : Int) ≤ (k : Int) := by omega
          have hk1 : (k : Int) < (l.length : Int) := by omega
          have hzr := hK.size
          clear hxe hdr
          by_cases hp0 : p = []
          · subst hp0
            rw [nodesL_skip] at hRd
            have HN := Lib.hid hRd
            clear hRd
            go_wp2_with fail
            go_roundw
            case rel => exact ⟨k + 1, s, vl, by omega, by go_num, HN.out, hs0, by omega, by omega, hs3, hlk, hrow, hK⟩
            case measure => simp [intOf]; omega
          · have hpos : ((p.length : Int) == 0) = false := by rw [beq_eq_false_iff_ne]; have := List.length_pos_iff.2 hp0; omega
            have hnode := fun w6 (h : Below wr.heap.size wr w6) => node_walk2 t hsz p hp0 (by omega) s hs0 (by omega) (by omega) w6 (hw.below (bstep hKw h)) w2.heap.size w5.heap.size vl _ _ (hlk.below h) (hrow.below h) (by omega) (Nat.le_trans hzr h.size) (hsp.below h)
            have hst := nodeM_state t p s
            have herr := nodesL_err (t := t) (s := s) (p := p) (r := l.drop (k + 1)) hp0
            have hgo := nodesL_go (t := t) (s := s) (p := p) (r := l.drop (k + 1)) hp0
            have hRk2 : nodesL t s (l.drop k) = nodesL t s (p :: l.drop (k + 1)) := HRk.out.symm.trans hRd
            obtain ⟨e1, s1, hns⟩ : ∃ e1 s1, nodeM t p s = (e1, s1) := ⟨_, _, rfl⟩
            simp only [hns] at hnode hst herr hgo
            have hat := fun w6 ok6 v6 ok7 v7 h h2 => at_walk t hsz p e1 w6 ok6 ok7 v6 v7 h h2
            clear hns hRd
            have t0 := bcellAt hT6 0 rfl
            have t1 := bcellAt hT6 1 rfl
            have t2 := bcellAt hT6 2 rfl
            have t3 := bcellAt hT6 3 rfl
            have t4 := bcellAt hT6 4 rfl
            have lt := blockLt hT6
            go_upto_region 12 with fail
            go_cut [9] (fun v wx => ErrV wx wr.heap.size v (atM t p e1) ∧ LkRes t vl w5.heap.size w2.heap.size wr s1 wx)
            case first =>
              have hsz5 := hK.size
              obtain ⟨Av, cv, rfl, _, _, hvf⟩ := hrow.form
              clear hvf
              go_region_law (first
                | (go_simp; go_at_call 71; (refine (hnode _ ?_).mono ?_); exact (by repeat (first | assumption | exact Below.refl _ _ | with_reducible refine bset ?_ (by simp) _ | with_reducible refine balloc ?_ _ | with_reducible refine bdrew ?_ | with_reducible refine bdrewN ?_ _ | with_reducible refine bstep ?_ (by assumption))); rintro e w6 ⟨rfl, hres⟩; have hT7 : w6.heap[w.heap.size]? = some (.cells #[.int .u32 t.boot, .slice A1 t.res.length c1, .string t.root.name, .slice A2 t.root.props.length c2, .slice A3 t.root.kids.length c3] 34 (0, 0)) := (by obtain ⟨_, _, _, hk6, _⟩ := hres; exact (hk6.block _ (by simp; omega) (by rintro (h | h); omega; have := (hrow.lt _ h).1; omega)).trans hT6); have t0 := bcellAt hT7 0 rfl; have t1 := bcellAt hT7 1 rfl; have t2 := bcellAt hT7 2 rfl; have t3 := bcellAt hT7 3 rfl; have t4 := bcellAt hT7 4 rfl; have lt := blockLt hT7; have hz6 : wr.heap.size ≤ w6.heap.size := (by obtain ⟨_, _, _, hk6, _⟩ := hres; exact hk6.size); have hsp6 : Sl tInt w6 (fun j => w2.heap.size < j ∧ j < w5.heap.size) (.slice Ap p.length cp) p := (by obtain ⟨_, _, _, hk6, _⟩ := hres; exact hsp.move fun j hj hlt => hk6.block j hlt (by rintro (h | h); omega; have := (hrow.lt _ h).1; omega)); have hv6 : TrV w6 (· < w.heap.size) (.agg #[.int .u32 t.boot, .slice A1 t.res.length c1, .string t.root.name, .slice A2 t.root.props.length c2, .slice A3 t.root.kids.length c3]) t := (by obtain ⟨_, _, _, hk6, _⟩ := hres; exact (hv0.below hKw).move fun j hj hlt => hk6.block j hlt (by have h9 : j < w.heap.size := hj; rintro (h | h); omega; have := (hrow.lt _ h).1; omega)))
                | (go_simp; go_at_call 70; (refine (hat _ _ _ _ _ hv6 hsp6).mono ?_); rintro e w7 ⟨v7, rfl, hE7, hb7⟩))
              all_goals go_wp2_with fail
              all_goals go_meet
              all_goals exact ⟨hE7.base hz6, LkRes.lift (bdrew (brefl wr)) (hres.step hb7)⟩
            case rest =>
              obtain ⟨hE, hres⟩ := hcut
              clear hnode hat t0 t1 t2 t3 t4 lt
              obtain ⟨vl', h1, h2, h3, h4⟩ := hres
              have hK9 : Kept (· = w2.heap.size) w5 wc := hK.trans h3 fun i hi h => by
                rcases h with h | h
                · exact h
                · have := (hrow.lt _ h).1; omega
              by_cases g1 : e1 = 0
              · subst g1
                have hE0 := hE
                unfold atM at hE0
                rw [if_pos rfl] at hE0
                have hE1 : u9 = .nilIface := hE0
                subst hE1
                have hgo := hgo rfl
                have HN := Lib.hid (HRk.out.trans (hRk2.trans hgo))
                have hb1 : 0 ≤ s1.1 ∧ s1.1 ≤ k + 1 ∧ s1.2.length ≤ k + 1 ∧ ∀ q ∈ s1.2, q.2.1 ≠ [] := by
                  rcases hst with h | h | ⟨y, hy, h⟩
                  · rw [h]; exact ⟨hs0, by omega, by omega, hs3⟩
                  · rw [h]; exact ⟨by show 0 ≤ s.1 + 1; omega, by show s.1 + 1 ≤ _; omega, by show s.2.length ≤ _; omega, hs3⟩
                  · rw [h]
                    refine ⟨hs0, by show s.1 ≤ _; omega, by simp; omega, fun q hq => ?_⟩
                    rcases List.mem_append.1 hq with hq | hq
                    · exact hs3 q hq
                    · rw [List.mem_singleton.1 hq]; exact hy
                obtain ⟨b1, b2, b3, b4⟩ := hb1
                clear herr hgo hst hE hE0
                go_wp2_with fail
                go_roundw
                case rel => exact ⟨k + 1, s1, vl', by omega, by go_num, HN.out, b1, by omega, b3, b4, h1, h2, hK9⟩
                case measure => simp [intOf]; omega
              · have hR2 := HRk.out.trans (hRk2.trans (herr g1))
                have hE0 := hE
                unfold atM at hE0
                rw [if_neg g1] at hE0
                obtain ⟨bE, hu, _⟩ := id hE0
                subst hu
                have hfin : R = atM t p e1 := by rw [HRC.out, hR2]; unfold atM; rw [if_neg g1]
                subst hfin
                clear herr hgo hst hR2 hE0
                go_wp2_with fail
                go_ret
                exact ⟨_, rfl, hE.base hKw.size, ((Kept.below (X := fun _ => False) hbw5).trans hK9 (fun i hi h => by have h9 : i = w2.heap.size := h; omega)).toBelow fun _ _ h => h⟩
        · obtain rfl : k = l.length := by omega
          have hn : nodesL t (0, []) l = (.none, s) := by rw [HRk.out, List.drop_length]; rfl
          have hfin : R = wholeM t s := by rw [HRC.out, hn]
          subst hfin
          have hwh := fun w6 (h : Below wr.heap.size wr w6) => whole_walk2 t hsz s hs3 w6 (hw.below (bstep hKw h)) w2.heap.size w5.heap.size vl (hlk.below h) (hrow.below h) (by omega)
          clear hn
          go_wp2_with (first
            | (go_at_call 72; refine (hwh _ (brefl _)).mono ?_; clear hwh; rintro e w6 ⟨v6, rfl, hE6, hb6⟩))
          go_ret
          exact ⟨_, rfl, hE6.base hKw.size, bstep hKw hb6⟩
  · have hfin := ha g0
    have q0 : (e0 != 0) = true := by rw [bne_iff_ne]; exact g0
    have G0 := Lib.hid g0
    subst hfin
    clear hb' hc' ha hix hal g0
    go_enter Tryz.func19, Tryz.ntmps19
    go_wp2_with (first
      | (go_at_call 67; refine (hck _ (by repeat (first | assumption | exact Below.refl _ _ | with_reducible refine bset ?_ (by simp) _ | with_reducible refine balloc ?_ _ | with_reducible refine bdrew ?_ | with_reducible refine bdrewN ?_ _ | with_reducible refine bstep ?_ (by assumption)))).mono ?_; clear hck; rintro e w1 ⟨rfl, hb1⟩; have hbw1 := bstep (balloc (brefl w) _) hb1))
    go_ret
    exact ⟨_, rfl, ⟨rfl, G0.out⟩, hbw1⟩
end Go.Proofs.YtdfknlhfdbbogaaGreatDoor
