/-
  handle.of: the handles of a node, and all below it. No condition.
-/
import Derived.Test.YtdfknlhfdbbogaaGreatDoorWindows
import Derived.Test.YtdfknlhfdbbogaaGreatDoorSets
namespace Go.Proofs.YtdfknlhfdbbogaaGreatDoor
open Go.RowKit
set_option linter.unusedSimpArgs false
set_option linter.unusedVariables false
/-- Old blocks are as they were but for those of X. -/
structure Kept (X : Nat → Prop) (w w' : World) : Prop where
  os : w'.os = w.os
  tape : w'.tape = w.tape
  output : w'.output = w.output
  size : w.heap.size ≤ w'.heap.size
  block : ∀ k, k < w.heap.size → ¬ X k → w'.heap[k]? = w.heap[k]?
theorem Kept.refl (X : Nat → Prop) (w : World) : Kept X w w := ⟨rfl, rfl, rfl, Nat.le_refl _, fun _ _ _ => rfl⟩
theorem Kept.trans {X Y : Nat → Prop} {a b c : World} (h : Kept X a b) (k : Kept Y b c) (hxy : ∀ i, i < a.heap.size → Y i → X i) : Kept X a c := ⟨k.os.trans h.os, k.tape.trans h.tape, k.output.trans h.output, Nat.le_trans h.size k.size, fun i hi hx => (k.block i (Nat.lt_of_lt_of_le hi h.size) fun hy => hx (hxy i hi hy)).trans (h.block i hi hx)⟩
theorem Kept.below {X : Nat → Prop} {w w' : World} (h : Below w.heap.size w w') : Kept X w w' := ⟨h.os, h.tape, h.output, h.size, fun k hk _ => h.block k hk⟩
theorem Kept.grown {X : Nat → Prop} {w w' : World} {row : Option Nat} (h : w.grownBy w' row) (hx : ∀ k, k < w.heap.size → row = some k → X k) : Kept X w w' := ⟨h.os, h.tape, h.output, h.size, fun k hk hn => h.block k hk fun e => hn (hx k hk e.symm)⟩
theorem Kept.step {X : Nat → Prop} {w W W' : World} (h : Kept X w W) (hb : Below W.heap.size W W') : Kept X w W' := h.trans (Kept.below (X := fun _ => False) hb) fun _ _ h => h.elim
theorem Kept.toBelow {X : Nat → Prop} {w w' : World} (h : Kept X w w') (hx : ∀ k, k < w.heap.size → ¬ X k) : Below w.heap.size w w' := ⟨h.os, h.tape, h.output, h.size, fun k hk => h.block k hk (hx k hk)⟩
abbrev tRef : Ty Ref := tPair tU32 (tSl tInt)
theorem elRef : El tRef 146 398 32 := El.mk' (z := .agg #[.int .u32 0, .slice none 0 0]) Tryz.underlying146 (by kernel_rfl) rfl
theorem rep_ref {w : World} {ok : Nat → Prop} {x : Int} {pl : List Int} {v : Value} (h1 : 0 ≤ x) (h2 : x < 4294967296) (h : Sl tInt w ok v pl) : tRef.rep w ok (x, pl) [.int .u32 x, v] := ⟨[_], [_], rfl, rep_num h1 h2, rep_sl h⟩
theorem known_snoc (l : List Ref) (x : Int) (p : List Int) : known (l ++ [(x, p)]) = fun y => decide (y = x) || known l y := by
  funext y
  simp [known, Bool.or_comm, eq_comm]
/-- What the walk of handle.of leaves. -/
def OfRes (n : Nd) (place : List Int) (l : List Ref) (vl : Value) (B b m : Nat) (w : World) (v2 : Value) (e2 : Int) (w' : World) : Prop :=
  Kept (fun k => k = b ∨ vl.ownBlock = some k) w w' ∧
    ((e2 = 0 ∧ ∃ l' m', ofN place l n = .ok l' ∧ Row tRef 398 w' B v2 l' ∧ SetU w' b m' (known l') ∧ m' ≤ m + n.size ∧ l'.length ≤ l.length + n.size ∧ (v2.ownBlock = vl.ownBlock ∨ ∃ g, v2.ownBlock = some g ∧ w.heap.size ≤ g)) ∨
     (e2 ≠ 0 ∧ ofN place l n = .error e2))
/-- Behind a node's own handle. -/
def OfHead (n : Nd) (place : List Int) (l : List Ref) (vl : Value) (B b m : Nat) (w : World) (v2 : Value) (w' : World) : Prop :=
  Kept (fun k => k = b ∨ vl.ownBlock = some k) w w' ∧ ∃ l1 m1, ofOne n place l = .ok l1 ∧ Row tRef 398 w' B v2 l1 ∧ SetU w' b m1 (known l1) ∧ m1 ≤ m + 1 ∧ l1.length ≤ l.length + 1 ∧ (v2.ownBlock = vl.ownBlock ∨ ∃ g, v2.ownBlock = some g ∧ w.heap.size ≤ g)
/-- Behind k kids. -/
def OfLoop (n : Nd) (place : List Int) (l1 : List Ref) (m1 : Nat) (vl : Value) (B b : Nat) (w : World) (k : Nat) (a : Value) (wr : World) : Prop :=
  ∃ (lk : List Ref) (mk : Nat), ofL place 0 l1 (n.kids.take k) = .ok lk ∧ Row tRef 398 wr B a lk ∧ SetU wr b mk (known lk) ∧ mk ≤ m1 + Nd.sizes (n.kids.take k) ∧ lk.length ≤ l1.length + Nd.sizes (n.kids.take k) ∧ (a.ownBlock = vl.ownBlock ∨ ∃ g, a.ownBlock = some g ∧ w.heap.size ≤ g) ∧ Kept (fun k => k = b ∨ vl.ownBlock = some k) w wr
theorem OfRes.lift {n : Nd} {pl : List Int} {l : List Ref} {a vl v2 : Value} {B b m : Nat} {w w5 w6 : World} {e2 : Int} (h : OfRes n pl l a B b m w5 v2 e2 w6) (hk : Kept (fun k => k = b ∨ vl.ownBlock = some k) w w5) (ho : a.ownBlock = vl.ownBlock ∨ ∃ g, a.ownBlock = some g ∧ w.heap.size ≤ g) : OfRes n pl l vl B b m w v2 e2 w6 := by
  obtain ⟨h1, h2⟩ := h
  refine ⟨hk.trans h1 (fun i hi hy => ?_), ?_⟩
  · rcases hy with hy | hy
    · exact .inl hy
    · rcases ho with ho | ⟨g, ho, hg⟩
      · right; rw [← ho]; exact hy
      · rw [ho] at hy; injection hy with hy; omega
  · rcases h2 with ⟨h0, l', m', h3, h4, h5, h6, h7, h8⟩ | h2
    · refine .inl ⟨h0, l', m', h3, h4, h5, h6, h7, ?_⟩
      rcases h8 with h8 | ⟨g, h8, hg⟩
      · rw [h8]; exact ho
      · exact .inr ⟨g, h8, Nat.le_trans hk.size hg⟩
    · exact .inr h2
theorem sizes_take {l : List Nd} {k : Nat} {x : Nd} (hx : l[k]? = some x) : Nd.sizes (l.take (k + 1)) = Nd.sizes (l.take k) + x.size ∧ Nd.sizes (l.take (k + 1)) ≤ Nd.sizes l := by
  have H : ∀ a b : List Nd, Nd.sizes (a ++ b) = Nd.sizes a + Nd.sizes b := by
    intro a b
    induction a with
    | nil => simp [Nd.sizes]
    | cons y r ih => simp only [List.cons_append, Nd.sizes, ih]; omega
  refine ⟨by rw [Nd.take_snoc hx, H]; simp [Nd.sizes], ?_⟩
  have := H (l.take (k + 1)) (l.drop (k + 1))
  rw [List.take_append_drop] at this
  omega
set_option maxRecDepth 100000 in
set_option maxHeartbeats 4000000 in
theorem of_walk (n : Nd) : n.size ≤ 1073741824 → ∀ (place : List Int) (l : List Ref) (w : World) (okN okP : Nat → Prop) (v pv vl : Value) (B b m : Nat), NdV w okN v n → Sl tInt w okP pv place → Row tRef 398 w B vl l → SetU w b m (known l) → b < B → B ≤ w.heap.size →
    m + n.size ≤ 1073741824 → l.length + n.size ≤ 1073741824 → place.length + n.size ≤ 1073741824 → (∀ k, okN k → k < w.heap.size → k ≠ b ∧ some k ≠ vl.ownBlock) → (∀ k, okP k → k < w.heap.size → k ≠ b ∧ some k ≠ vl.ownBlock) →
    Calls Tryz.prog 152 #[v, pv, vl, .map (some b)] w fun e w' => ∃ v2 e2, e = .returned (.tuple #[v2, .int .i64 e2]) ∧ OfRes n place l vl B b m w v2 e2 w' := by
  induction n using Nd.ind with
  | h n ih =>
    intro hsz place l w okN okP v pv vl B b m hv hp hrow hset hbB hBw hm hlen hplen hokN hokP
    obtain ⟨A2, c2, A, c, rfl, hc2, hl2, ha2, hc, hl, ha⟩ := hv.form
    have hp0 := hp
    obtain ⟨Ap, cp, rfl, hcp, hlp, hap⟩ := hp
    have hone := fun w1 (h : Below w.heap.size w w1) => one_walk n hsz phandle w1 okN _ (hv.below h)
    have e1 : phandle = ⟨#[112, 104, 97, 110, 100, 108, 101]⟩ := rfl
    have hlt := one_lt hv phandle
    have z3 := Nd.sizes_length n.kids
    have z1 := Nd.size_eq n
    have hd : ofOne n place l = if (oneN n phandle).2.2 ≠ 0 then .error (oneN n phandle).2.2
        else if (oneN n phandle).2.1 = false then .ok l
        else if ((oneN n phandle).1 : Int) < 1 ∨ (4294967294 : Int) < (oneN n phandle).1 then .error 11
        else if known l (oneN n phandle).1 = true then .error 9
        else .ok (l ++ [(((oneN n phandle).1 : Int), place)]) := rfl
    obtain ⟨x, f, e0, ho⟩ : ∃ x f e0, oneN n phandle = (x, f, e0) := ⟨_, _, _, rfl⟩
    rw [ho] at hd
    simp only [ho] at hone
    rw [ho] at hlt
    simp only [e1] at hone
    simp only at hd hlt
    have hN := ofN_eq place l n
    have HN := Lib.hid hN
    have hxlt : (x : Int) < 4294967296 := by omega
    have hx0 : (0 : Int) ≤ x := by omega
    clear ho hN e1 hlt
    obtain ⟨y, hy⟩ : ∃ y : Int, (x : Int) = y := ⟨_, rfl⟩
    simp only [hy] at hone hd hxlt hx0
    clear hy
    by_cases q0 : e0 = 0
    · subst q0
      rw [if_neg (by simp)] at hd
      have hok : (f = false ∧ ofOne n place l = .ok l) ∨ (f = true ∧ (y < 1 ∨ (4294967294 : Int) < y) ∧ ofOne n place l = .error 11) ∨ (f = true ∧ ¬ y < 1 ∧ ¬ (4294967294 : Int) < y ∧ known l y = true ∧ ofOne n place l = .error 9) ∨
          (f = true ∧ ¬ y < 1 ∧ ¬ (4294967294 : Int) < y ∧ known l y = false ∧ ofOne n place l = .ok (l ++ [(y, place)])) := by
        cases f
        · left; exact ⟨rfl, by simpa using hd⟩
        · rw [if_neg (by simp)] at hd
          by_cases qr : y < 1 ∨ (4294967294 : Int) < y
          · rw [if_pos qr] at hd; exact .inr (.inl ⟨rfl, qr, hd⟩)
          · rw [if_neg qr] at hd
            by_cases qk : known l y = true
            · rw [if_pos qk] at hd; exact .inr (.inr (.inl ⟨rfl, by omega, by omega, qk, hd⟩))
            · rw [if_neg qk] at hd; exact .inr (.inr (.inr ⟨rfl, by omega, by omega, by simpa using qk, hd⟩))
      clear hd
      go_enter Tryz.func152, Tryz.ntmps152
      go_upto_block 0 with (first | (go_at_call 258; refine (hone _ (by repeat (first | assumption | exact Below.refl _ _ | with_reducible refine bset ?_ (by simp) _ | with_reducible refine balloc ?_ _ | with_reducible refine bdrew ?_ | with_reducible refine bdrewN ?_ _ | with_reducible refine bstep ?_ (by assumption)))).mono ?_; clear hone; rintro e w1 ⟨rfl, hb1⟩; have hbox := bblock (blast w _ _ rfl) hb1; have hbw := bstep (balloc (brefl w) _) hb1; have hset1 := hset.below hbw))
      go_cut [2] (fun a wx => OfHead n place l vl B b m w a wx ∧ wx.heap[w.heap.size]? = some (.cells #[.string n.name, .slice A2 n.props.length c2, .slice A n.kids.length c] 32 (0, 0)))
      case first =>
        have hlk := hset1.look (x := y) hx0 hxlt
        rcases hok with ⟨rfl, hok⟩ | ⟨rfl, qr, hok⟩ | ⟨rfl, q1, q2, qk, hok⟩ | ⟨rfl, q1, q2, qk, hok⟩
        · have HO := Lib.hid hok
          clear hok hlk ih
          go_wp2_with fail
          go_meet
          exact ⟨⟨Kept.below hbw, l, m, HO.out, hrow.below hbw, hset1, by omega, by omega, .inl rfl⟩, hbox⟩
        · have HF := Lib.hid (show ofN place l n = .error 11 by rw [HN.out, hok])
          clear hok hlk HN ih
          by_cases qr1 : y < 1
          · clear qr
            go_wp2_with fail
            go_ret2
            exact ⟨_, _, rfl, Kept.below hbw, .inr ⟨by decide, HF.out⟩⟩
          · have qr2 : (4294967294 : Int) < y := by omega
            clear qr
            go_wp2_with fail
            go_ret2
            exact ⟨_, _, rfl, Kept.below hbw, .inr ⟨by decide, HF.out⟩⟩
        · have HF := Lib.hid (show ofN place l n = .error 9 by rw [HN.out, hok])
          rw [qk] at hlk
          clear hok HN ih qk
          go_wp2_with fail
          go_ret2
          exact ⟨_, _, rfl, Kept.below hbw, .inr ⟨by decide, HF.out⟩⟩
        · have HO := Lib.hid hok
          rw [qk] at hlk
          clear hok qk ih
          have hrow1 := hrow.below hbw
          have hs1 := hbw.size
          go_wp2_with (first
            | (at_mapUpdate; obtain ⟨D, hown, hS⟩ := id hset1; refine wpList_mapUpdate_own _ rfl _ _ _ 282 rfl 27 4 keyed27 Tryz.underlying282 (plainElem (H := Unit) Tryz.prog 4) b m D rfl hown (by unfold maxLen; omega) _ _ _ rfl rfl (key27 (x := y) (by omega) (by omega)) _ [] (plainElem_bool Tryz.underlying4 true) ?_; intro w2 hown2 hg2; have hset2 := SetU.put hown hS (by omega) (by omega) hown2; have hrow2 := hrow1.move (w1 := w2) (fun k hk hlt => hg2.block k hlt (by have : B ≤ k := hk; simp; omega)); have hp2 : Sl tInt w2 okP (.slice Ap place.length cp) place := hp0.move (fun k hk hlt => (hg2.block k (Nat.lt_of_lt_of_le hlt hbw.size) (by have := hokP k hk hlt; simp; exact this.1)).trans (hbw.block k hlt)); have hbox2 := gblock hbox hg2 (by simp; omega); have hs2 := hg2.size; clear hlk hset1)
            | (go_at_call 180; refine (intsClone_walk place (by omega) _ okP _ hp2).mono ?_; rintro e w3 ⟨v3, rfl, hr3, hb3⟩; obtain ⟨A5, c5, rfl, hA5⟩ := hr3.form; clear hA5; have hs3 := hb3.size)
            | (at_builtin; refine wpList_row1 rfl elRef _ _ rfl (hrow2.below (balloc hb3 _)) rfl rfl (blast _ _ _ (by simp)) (y := (y, place)) (rep_ref (by omega) (by omega) ((hr3.sl.below (balloc (brefl _) _)).mono (fun k h5 hlt5 => ⟨by have : w2.heap.size ≤ k := h5; omega, fun e5 => by have := (hrow2.lt k e5.symm).2; have : w2.heap.size ≤ k := h5; omega⟩))) (by simp; omega) (by simp; omega) ?_; intro g cap w4 hrow4 hg4 hat4 hlt4))
          go_meet
          have hnb : some b ≠ vl.ownBlock := fun e => by have := (hrow.lt b e.symm).1; omega
          refine ⟨⟨(((Kept.below hbw).trans (Kept.grown (X := fun k => k = b) hg2 (fun k _ h => by simpa using h.symm)) (fun i _ h => .inl h)).step (balloc hb3 _)).trans (Kept.grown (X := fun k => vl.ownBlock = some k) hg4 (fun k _ h => h)) (fun i _ h => .inr h), _, m + 1, HO.out, hrow4, ?_, by omega, by simp, ?_⟩, ?_⟩
          · rw [known_snoc]
            exact (hset2.below (balloc hb3 _)).kept hg4 hnb
          · rcases hat4 with h | h
            · exact .inl h.symm
            · exact .inr ⟨g, rfl, by rw [h]; simp; omega⟩
          · exact gblock (bblock hbox2 (balloc hb3 _)) hg4 (fun e => by have := (hrow.lt _ e.symm).2; omega)
      case rest =>
        obtain ⟨⟨hkept, l1, m1, hok1, hrow1, hset1, hm1, hl1, hown1⟩, hbox1⟩ := hcut
        have HO := Lib.hid (show ofN place l n = ofL place 0 l1 n.kids by rw [HN.out, hok1])
        have k2 := bcellAt hbox1 2 rfl
        clear hok hok1 HN hbox1
        go_wp2_with fail
        go_loopw [2, 56] (fun a i wr => ∃ k : Nat, k ≤ n.kids.length ∧ i = .int .i64 k ∧ OfLoop n place l1 m1 vl B b w k a wr) (fun _ i _ => n.kids.length - (intOf i).toNat)
        case atStart => exact ⟨0, by omega, rfl, l1, m1, by simp [ofL], hrow1, hset1, by omega, by omega, hown1, hkept⟩
        case round =>
          clear hrow1 hset1 hkept k2 hown1
          obtain ⟨k, hk, rfl, lk, mk, hofl, hrow, hset, hmk, hlk, hown, hkept⟩ := hrel
          have HL := Lib.hid hofl
          clear hofl
          by_cases hkl : k < n.kids.length
          · have hx : n.kids[k]? = some n.kids[k] := List.getElem?_eq_getElem hkl
            have hmem := List.getElem_mem hkl
            have hak : SlA tNd wr (fun j => okN j ∧ j < w.heap.size) A n.kids := (ha.mono (ok' := fun j => okN j ∧ j < w.heap.size) fun j h h2 => ⟨h, h2⟩).move fun j hj hlt => hkept.block j hlt (fun h => by have := hokN j hj.1 hlt; rcases h with h | h; exact this.1 h; exact this.2 h.symm)
            have hpk : Sl tInt wr okP (.slice Ap place.length cp) place := hp0.move fun j hj hlt => hkept.block j hlt (fun h => by have := hokP j hj hlt; rcases h with h | h; exact this.1 h; exact this.2 h.symm)
            obtain ⟨b2, off, A3, c3, A4, c4, rfl, hob, hlb, r0, r1, r2, hnv⟩ := hak.node_at hx
            have hks := Nd.kid_size hmem
            obtain ⟨hst1, hst2⟩ := sizes_take hx
            obtain ⟨x, hxe⟩ : ∃ x, x = n.kids[k] := ⟨_, rfl⟩
            rw [← hxe] at hx r0 r1 r2 hnv hks hmem hst1
            have hws := hkept.size
            clear hxe hak
            go_upto_region 14 with fail
            go_cut [2, 12] (fun a' e' wx => ∃ v2 e2, a' = v2 ∧ e' = .int .i64 e2 ∧ OfRes x (place ++ [(k : Int)]) lk vl B b mk w v2 e2 wx)
            case first =>
              obtain ⟨W, hW⟩ : ∃ W, W = wr.alloc (.cells #[.string x.name, .slice A3 x.props.length c3, .slice A4 x.kids.length c4] 32) := ⟨_, rfl⟩
              rw [← hW]
              have hWb : Below wr.heap.size wr W := by rw [hW]; exact balloc (brefl _) _
              have hP : W.heap[wr.heap.size]? = some (.cells #[.string x.name, .slice A3 x.props.length c3, .slice A4 x.kids.length c4] 32 (0, 0)) := by rw [hW]; exact blast _ _ _ rfl
              have hWs : W.heap.size = wr.heap.size + 1 := by rw [hW]; simp
              have f0 := bcellAt (v := .string x.name) hP 0 rfl
              have f1 := bcellAt (v := .slice A3 x.props.length c3) hP 1 rfl
              have f2 := bcellAt (v := .slice A4 x.kids.length c4) hP 2 rfl
              have fl := blockLt hP
              have HP := Lib.hid hP
              clear hW hP r0 r1 r2
              go_region_law (first
                | (go_simp; go_at_call 180; (refine (intsClone_walk place (by omega) _ okP _ (hpk.below (bstep hWb ?_))).mono ?_); exact (by repeat (first | assumption | exact Below.refl _ _ | with_reducible refine bset ?_ (by simp) _ | with_reducible refine balloc ?_ _ | with_reducible refine bdrew ?_ | with_reducible refine bdrewN ?_ _ | with_reducible refine bstep ?_ (by assumption))); rintro e w4 ⟨v3, rfl, hr4, hb4⟩; obtain ⟨A5, c5, rfl, hA5⟩ := hr4.form; clear hA5; have hB4 : Below W.heap.size W w4 := bstep (by repeat (first | assumption | exact Below.refl _ _ | with_reducible refine bset ?_ (by simp) _ | with_reducible refine balloc ?_ _ | with_reducible refine bdrew ?_ | with_reducible refine bdrewN ?_ _ | with_reducible refine bstep ?_ (by assumption))) hb4; have g0 := bkeep hB4 f0; have g1 := bkeep hB4 f1; have g2 := bkeep hB4 f2; have hs4 := hB4.size; have hl4 : wr.heap.size < w4.heap.size := (by omega); (try (have hkc : w4.heap[wr.heap.size + 1]? = some (.cells #[.int .i64 (k : Int)] 3 (0, 0)) := bblock (blast W.drew _ (wr.heap.size + 1) hWs.symm) hb4)))
                | (refine step_row1 (by rfl) elInt _ _ (by rfl) (hr4.below (by repeat (first | assumption | exact Below.refl _ _ | with_reducible refine bset ?_ (by simp) _ | with_reducible refine balloc ?_ _ | with_reducible refine bdrew ?_ | with_reducible refine bdrewN ?_ _ | with_reducible refine bstep ?_ (by assumption)))) (by rfl) (by rfl) (by first | exact blast _ _ _ (by simp) | exact hkc) (rep_num (x := (k : Int)) (by omega) (by omega)) (by simp; omega) (by have h9 := hb4.size; simp [hWs] at h9 ⊢ <;> omega) ?_; intro g cap w5 hrow5 hg5 hat5 hlt5; have hB5 : Below W.heap.size W w5 := bgrown (w := W) (by repeat (first | assumption | exact Below.refl _ _ | with_reducible refine bset ?_ (by simp) _ | with_reducible refine balloc ?_ _ | with_reducible refine bdrew ?_ | with_reducible refine bdrewN ?_ _ | with_reducible refine bstep ?_ (by assumption))) hg5 (hr4.base (by simp; try omega)); have j0 := bkeep hB5 f0; have j1 := bkeep hB5 f1; have j2 := bkeep hB5 f2)
                | (go_simp; go_at_call 152; (refine (ih x hmem (by omega) (place ++ [(k : Int)]) lk _ (fun j => okN j ∧ j < w.heap.size) (W.heap.size ≤ ·) _ _ _ B b mk (hnv.below (bstep hWb hB5)) (hrow5.sl.mono (fun j h _ => by simp at h; omega)) (hrow.below (bstep hWb hB5)) (hset.below (bstep hWb hB5)) hbB (by have := hB5.size; omega) (by omega) (by omega) (by simp; omega) ?_ ?_).mono ?_); (intro j hj hlt; have := hokN j hj.1 hj.2; refine ⟨this.1, fun e => ?_⟩; rcases hown with h | ⟨g9, h, h9⟩; exact this.2 (e.trans h); rw [h] at e; injection e with e; omega); (intro j hj hlt; have hj2 : W.heap.size ≤ j := hj; exact ⟨by omega, fun e => by have := (hrow.lt j e.symm).2; omega⟩); rintro e w6 ⟨v2, e2, rfl, hres⟩))
              all_goals go_wp2_with fail
              all_goals go_meet
              all_goals exact ⟨_, _, rfl, rfl, hres.lift (hkept.step (bstep hWb hB5)) hown⟩
            case rest =>
              obtain ⟨v2, e2, rfl, rfl, hres⟩ := hcut
              obtain ⟨hkept2, hres⟩ := hres
              have hnext := ofL_next (place := place) (l := l1) (ks := n.kids) (k := k) hx HL.out
              rcases hres with ⟨rfl, lk', mk', h3, h4, h5, h6, h7, h8⟩ | ⟨hne, herr⟩
              · rw [h3] at hnext
                have HNX := Lib.hid hnext
                clear hnext h3
                go_wp2_with fail
                go_roundw
                case rel => exact ⟨k + 1, by omega, by go_num, lk', mk', HNX.out, h4, h5, by omega, by omega, h8, hkept2⟩
                case measure => simp [intOf]; omega
              · rw [herr] at hnext
                have hfin : ofN place l n = .error e2 := by rw [HO.out]; exact ofL_stop hnext
                have HF := Lib.hid hfin
                have q3 : (e2 != 0) = true := by rw [bne_iff_ne]; exact hne
                have HNE := Lib.hid hne
                clear hnext hfin herr hne
                go_wp2_with fail
                go_ret2
                exact ⟨_, _, rfl, hkept2, .inr ⟨HNE.out, HF.out⟩⟩
          · obtain rfl : k = n.kids.length := by omega
            have h9 := HL.out
            rw [List.take_length] at h9 hmk hlk
            have hfin : ofN place l n = .ok lk := by rw [HO.out, h9]
            have HF := Lib.hid hfin
            clear h9 hfin
            go_wp2_with fail
            go_ret2
            exact ⟨_, _, rfl, hkept, .inl ⟨rfl, lk, mk, HF.out, hrow, hset, by omega, by omega, hown⟩⟩
    · rw [if_pos q0] at hd
      have hfin : ofN place l n = .error e0 := by rw [HN.out, hd]
      have HF := Lib.hid hfin
      have q3 : (e0 != 0) = true := by rw [bne_iff_ne]; exact q0
      clear hfin hd HN ih
      go_enter Tryz.func152, Tryz.ntmps152
      go_wp2_with (first | (go_at_call 258; refine (hone _ (by repeat (first | assumption | exact Below.refl _ _ | with_reducible refine bset ?_ (by simp) _ | with_reducible refine balloc ?_ _ | with_reducible refine bdrew ?_ | with_reducible refine bdrewN ?_ _ | with_reducible refine bstep ?_ (by assumption)))).mono ?_; clear hone; rintro e w1 ⟨rfl, hb1⟩))
      go_ret2
      exact ⟨_, _, rfl, Kept.below (by repeat (first | assumption | exact Below.refl _ _ | with_reducible refine bset ?_ (by simp) _ | with_reducible refine balloc ?_ _ | with_reducible refine bdrew ?_ | with_reducible refine bdrewN ?_ _ | with_reducible refine bstep ?_ (by assumption))), .inr ⟨q0, HF.out⟩⟩
end Go.Proofs.YtdfknlhfdbbogaaGreatDoor
