/-
  The types that the program's rows hold, as readings; nodes. No condition.
-/
import Derived.Test.YtdfknlhfdbbogaaGreatDoorRep
namespace Go.Proofs.YtdfknlhfdbbogaaGreatDoor
open Go.RowKit
set_option linter.unusedSimpArgs false
set_option linter.unusedVariables false

/-- Whole numbers of a kind, within bounds. -/
def tNum (k : IntKind) (lo hi : Int) : Ty Int where
  sz := 1
  pos := by decide
  rep _ _ x cs := cs = [.int k x] ∧ lo ≤ x ∧ x < hi
  len h := by rw [h.1]; rfl
  one h u hu := by rw [h.1] at hu; simp at hu; subst hu; rfl
  move h _ := h
  mono h _ := h
abbrev tByte : Ty Int := tNum .u8 0 256
abbrev tInt : Ty Int := tNum .i64 (-9223372036854775808) 9223372036854775808
abbrev tU32 : Ty Int := tNum .u32 0 4294967296
abbrev tU64 : Ty Int := tNum .u64 0 18446744073709551616
/-- Texts. -/
def tStr : Ty ByteArray where
  sz := 1
  pos := by decide
  rep _ _ x cs := cs = [.string x]
  len h := by rw [h]; rfl
  one h u hu := by rw [h] at hu; simp at hu; subst hu; rfl
  move h _ := h
  mono h _ := h
/-- Slices. -/
def tSl {α : Type} (T : Ty α) : Ty (List α) where
  sz := 1
  pos := by decide
  rep w ok xs cs := ∃ v, cs = [v] ∧ Sl T w ok v xs
  len h := by obtain ⟨v, rfl, _⟩ := h; rfl
  one h u hu := by
    obtain ⟨v, rfl, A, c, rfl, _⟩ := h
    simp at hu
    subst hu
    rfl
  move h hm := by obtain ⟨v, rfl, h⟩ := h; exact ⟨v, rfl, h.move hm⟩
  mono h hm := by obtain ⟨v, rfl, h⟩ := h; exact ⟨v, rfl, h.mono hm⟩
/-- Two, one behind the other. -/
def tPair {α β : Type} (T : Ty α) (U : Ty β) : Ty (α × β) where
  sz := T.sz + U.sz
  pos := by have := T.pos; omega
  rep w ok x cs := ∃ ds es, cs = ds ++ es ∧ T.rep w ok x.1 ds ∧ U.rep w ok x.2 es
  len h := by obtain ⟨ds, es, rfl, h, k⟩ := h; rw [List.length_append, T.len h, U.len k]
  one h u hu := by
    obtain ⟨ds, es, rfl, h, k⟩ := h
    rcases List.mem_append.1 hu with hu | hu
    · exact T.one h u hu
    · exact U.one k u hu
  move h hm := by obtain ⟨ds, es, rfl, h, k⟩ := h; exact ⟨ds, es, rfl, T.move h hm, U.move k hm⟩
  mono h hm := by obtain ⟨ds, es, rfl, h, k⟩ := h; exact ⟨ds, es, rfl, T.mono h hm, U.mono k hm⟩

/-- A property: its name, its value. -/
abbrev Pr := ByteArray × List Int
abbrev tPr : Ty Pr := tPair tStr (tSl tByte)
/-- A node. -/
inductive Nd where
  | mk (name : ByteArray) (props : List Pr) (kids : List Nd)
namespace Nd
def name : Nd → ByteArray | .mk n _ _ => n
def props : Nd → List Pr | .mk _ p _ => p
def kids : Nd → List Nd | .mk _ _ k => k
@[simp] theorem name_mk (n p k) : (Nd.mk n p k).name = n := rfl
@[simp] theorem props_mk (n p k) : (Nd.mk n p k).props = p := rfl
@[simp] theorem kids_mk (n p k) : (Nd.mk n p k).kids = k := rfl
end Nd
inductive RepN (w : World) (ok : Nat → Prop) : Nd → List Value → Prop
  | mk (name : ByteArray) (props : List Pr) (kids : List Nd) (vp : Value) (A : Option Addr) (c : Nat) (cells : List Value) (hp : Sl tPr w ok vp props) (hc : kids.length ≤ c) (hl : kids.length ≤ 9223372036854775807) (hcl : cells.length = kids.length * 3)
      (hk : ∀ (j : Nat) (x : Nd), kids[j]? = some x → RepN w ok x (chunk 3 j cells))
      (ha : kids ≠ [] → ∃ b off, A = some ⟨b, off, none⟩ ∧ ok b ∧ b < w.heap.size ∧ ∀ j u, cells[j]? = some u → w.cell? ⟨b, off + j, none⟩ = some u) :
      RepN w ok (.mk name props kids) [.string name, vp, .slice A kids.length c]
/-- Nodes. -/
def tNd : Ty Nd where
  sz := 3
  pos := by decide
  rep := RepN
  len h := by cases h; rfl
  one h u hu := by
    cases h with
    | mk name props kids vp A c cells hp hc hl hcl hk ha =>
      obtain ⟨A', c', rfl, _⟩ := hp
      simp at hu
      rcases hu with rfl | rfl | rfl <;> rfl
  move {w w1 ok x cs} h hm := by
    induction h with
    | mk name props kids vp A c cells hp hc hl hcl hk ha ih =>
      refine .mk name props kids vp A c cells (hp.move hm) hc hl hcl (fun j x hx => ih j x hx) (fun hn => ?_)
      obtain ⟨b, off, rfl, hb, hlt, hcell⟩ := ha hn
      have he := hm b hb hlt
      refine ⟨b, off, rfl, hb, ?_, fun j u hu => (World.cell?_of_block (a := ⟨b, off + j, none⟩) he).trans (hcell j u hu)⟩
      have : (w1.heap[b]?).isSome := by rw [he]; simp [hlt]
      simpa using this
  mono {w ok ok' x cs} h hm := by
    induction h with
    | mk name props kids vp A c cells hp hc hl hcl hk ha ih =>
      refine .mk name props kids vp A c cells (hp.mono hm) hc hl hcl (fun j x hx => ih j x hx) (fun hn => ?_)
      obtain ⟨b, off, rfl, hb, hlt, hcell⟩ := ha hn
      exact ⟨b, off, rfl, hm b hb hlt, hlt, hcell⟩
theorem RepN.open {w : World} {ok : Nat → Prop} {n : Nd} {cs : List Value} (h : tNd.rep w ok n cs) : ∃ vp vk, cs = [.string n.name, vp, vk] ∧ Sl tPr w ok vp n.props ∧ Sl tNd w ok vk n.kids := by
  cases h with
  | mk name props kids vp A c cells hp hc hl hcl hk ha => exact ⟨vp, _, rfl, hp, A, c, rfl, hc, hl, cells, ⟨hcl, hk⟩, ha⟩
theorem RepN.shut {w : World} {ok : Nat → Prop} {n : Nd} {vp vk : Value} (hp : Sl tPr w ok vp n.props) (hk : Sl tNd w ok vk n.kids) : tNd.rep w ok n [.string n.name, vp, vk] := by
  obtain ⟨A, c, rfl, hc, hl, cells, ⟨hcl, hr⟩, ha⟩ := hk
  cases n with
  | mk name props kids => exact .mk name props kids vp A c cells hp hc hl hcl hr ha
theorem rep_num {k : IntKind} {lo hi : Int} {w : World} {ok : Nat → Prop} {x : Int} (h1 : lo ≤ x) (h2 : x < hi) : (tNum k lo hi).rep w ok x [.int k x] := ⟨rfl, h1, h2⟩
theorem rep_str {w : World} {ok : Nat → Prop} {x : ByteArray} : tStr.rep w ok x [.string x] := rfl
theorem rep_sl {α : Type} {T : Ty α} {w : World} {ok : Nat → Prop} {v : Value} {x : List α} (h : Sl T w ok v x) : (tSl T).rep w ok x [v] := ⟨v, rfl, h⟩
theorem rep_pr {w : World} {ok : Nat → Prop} {v : Value} {x : Pr} (h : Sl tByte w ok v x.2) : tPr.rep w ok x [.string x.1, v] := ⟨[_], [_], rfl, rep_str, rep_sl h⟩
theorem pr_open {w : World} {ok : Nat → Prop} {x : Pr} {cs : List Value} (h : tPr.rep w ok x cs) : ∃ v, cs = [.string x.1, v] ∧ Sl tByte w ok v x.2 := by
  obtain ⟨ds, es, rfl, hd, v, rfl, hv⟩ := h
  obtain rfl : ds = _ := hd
  exact ⟨v, rfl, hv⟩

/-- The value of a node; of a tree. -/
def NdV (w : World) (ok : Nat → Prop) (v : Value) (n : Nd) : Prop := ∃ vp vk, v = .agg #[.string n.name, vp, vk] ∧ Sl tPr w ok vp n.props ∧ Sl tNd w ok vk n.kids
theorem NdV.move {w w1 : World} {ok : Nat → Prop} {v : Value} {n : Nd} (h : NdV w ok v n) (hm : ∀ k, ok k → k < w.heap.size → w1.heap[k]? = w.heap[k]?) : NdV w1 ok v n := by
  obtain ⟨vp, vk, rfl, h1, h2⟩ := h
  exact ⟨vp, vk, rfl, h1.move hm, h2.move hm⟩
theorem NdV.mono {w : World} {ok ok' : Nat → Prop} {v : Value} {n : Nd} (h : NdV w ok v n) (hm : ∀ k, ok k → k < w.heap.size → ok' k) : NdV w ok' v n := by
  obtain ⟨vp, vk, rfl, h1, h2⟩ := h
  exact ⟨vp, vk, rfl, h1.mono hm, h2.mono hm⟩
theorem NdV.below {w w1 : World} {ok : Nat → Prop} {v : Value} {n : Nd} (h : NdV w ok v n) (hb : Below w.heap.size w w1) : NdV w1 ok v n := h.move fun k _ hk => hb.block k hk
theorem NdV.rep {w : World} {ok : Nat → Prop} {v : Value} {n : Nd} (h : NdV w ok v n) : ∃ cs, v = .agg cs.toArray ∧ tNd.rep w ok n cs := by
  obtain ⟨vp, vk, rfl, h1, h2⟩ := h
  exact ⟨_, rfl, RepN.shut h1 h2⟩

/-- Reservations: at, size. -/
abbrev tRes : Ty (Int × Int) := tPair tU64 tU64
structure Tr where
  boot : Int
  res : List (Int × Int)
  root : Nd
def TrV (w : World) (ok : Nat → Prop) (v : Value) (t : Tr) : Prop := ∃ vr vp vk, v = .agg #[.int .u32 t.boot, vr, .string t.root.name, vp, vk] ∧ 0 ≤ t.boot ∧ t.boot < 4294967296 ∧ Sl tRes w ok vr t.res ∧ Sl tPr w ok vp t.root.props ∧ Sl tNd w ok vk t.root.kids
theorem TrV.move {w w1 : World} {ok : Nat → Prop} {v : Value} {t : Tr} (h : TrV w ok v t) (hm : ∀ k, ok k → k < w.heap.size → w1.heap[k]? = w.heap[k]?) : TrV w1 ok v t := by
  obtain ⟨vr, vp, vk, rfl, h0, h00, h1, h2, h3⟩ := h
  exact ⟨vr, vp, vk, rfl, h0, h00, h1.move hm, h2.move hm, h3.move hm⟩
theorem TrV.mono {w : World} {ok ok' : Nat → Prop} {v : Value} {t : Tr} (h : TrV w ok v t) (hm : ∀ k, ok k → k < w.heap.size → ok' k) : TrV w ok' v t := by
  obtain ⟨vr, vp, vk, rfl, h0, h00, h1, h2, h3⟩ := h
  exact ⟨vr, vp, vk, rfl, h0, h00, h1.mono hm, h2.mono hm, h3.mono hm⟩
theorem TrV.below {w w1 : World} {ok : Nat → Prop} {v : Value} {t : Tr} (h : TrV w ok v t) (hb : Below w.heap.size w w1) : TrV w1 ok v t := h.move fun k _ hk => hb.block k hk

/-! ### What a tree counts -/
namespace Nd
theorem ind {P : Nd → Prop} (h : ∀ n, (∀ k ∈ n.kids, P k) → P n) (n : Nd) : P n := by
  have H : ∀ (m : Nat) (n : Nd), SizeOf.sizeOf n < m → P n := by
    intro m
    induction m with
    | zero => intro n hn; omega
    | succ m ih =>
      intro n hn
      refine h n fun k hk => ih k ?_
      have := List.sizeOf_lt_of_mem hk
      cases n
      simp only [kids_mk, Nd.mk.sizeOf_spec] at this hn
      omega
  exact H _ n (Nat.lt_succ_self _)
def propsSize : List Pr → Nat
  | [] => 0
  | p :: r => 1 + p.1.size + p.2.length + propsSize r
mutual
/-- How much there is of it: nodes, properties, letters. -/
def size : Nd → Nat
  | .mk n p ks => 1 + n.size + propsSize p + sizes ks
def sizes : List Nd → Nat
  | [] => 0
  | k :: r => size k + sizes r
end
mutual
def nodes : Nd → Nat
  | .mk _ _ ks => 1 + nodesL ks
def nodesL : List Nd → Nat
  | [] => 0
  | k :: r => nodes k + nodesL r
end
mutual
def nprops : Nd → Nat
  | .mk _ p ks => p.length + npropsL ks
def npropsL : List Nd → Nat
  | [] => 0
  | k :: r => nprops k + npropsL r
end
theorem propsSize_mem {l : List Pr} {p : Pr} (h : p ∈ l) : 1 + p.1.size + p.2.length ≤ propsSize l := by
  induction l with
  | nil => cases h
  | cons a r ih =>
    rcases List.mem_cons.1 h with rfl | h
    · simp only [propsSize]; omega
    · have := ih h; simp only [propsSize]; omega
theorem propsSize_length (l : List Pr) : l.length ≤ propsSize l := by
  induction l with
  | nil => simp
  | cons a r ih => simp only [propsSize, List.length_cons]; omega
theorem sizes_mem {l : List Nd} {k : Nd} (h : k ∈ l) : size k ≤ sizes l := by
  induction l with
  | nil => cases h
  | cons a r ih =>
    rcases List.mem_cons.1 h with rfl | h
    · simp only [sizes]; omega
    · have := ih h; simp only [sizes]; omega
theorem size_eq (n : Nd) : n.size = 1 + n.name.size + propsSize n.props + sizes n.kids := by cases n; simp only [size, name, props, kids]
theorem size_pos (n : Nd) : 1 ≤ n.size := by rw [size_eq]; omega
theorem sizes_length (l : List Nd) : l.length ≤ sizes l := by
  induction l with
  | nil => simp
  | cons a r ih => have := size_pos a; simp only [sizes, List.length_cons]; omega
theorem nodes_eq (n : Nd) : n.nodes = 1 + nodesL n.kids := by cases n; simp only [nodes, kids]
theorem nprops_eq (n : Nd) : n.nprops = n.props.length + npropsL n.kids := by cases n; simp only [nprops, props, kids]
theorem nodesL_append (a b : List Nd) : nodesL (a ++ b) = nodesL a + nodesL b := by
  induction a with
  | nil => simp [nodesL]
  | cons x r ih => simp only [List.cons_append, nodesL, ih]; omega
theorem npropsL_append (a b : List Nd) : npropsL (a ++ b) = npropsL a + npropsL b := by
  induction a with
  | nil => simp [npropsL]
  | cons x r ih => simp only [List.cons_append, npropsL, ih]; omega
theorem nodesL_le {l : List Nd} (h : ∀ k ∈ l, k.nodes ≤ k.size) : nodesL l ≤ sizes l := by
  induction l with
  | nil => simp [nodesL]
  | cons a r ih =>
    have := ih fun k hk => h k (List.mem_cons_of_mem _ hk)
    have := h a (by simp)
    simp only [nodesL, sizes]; omega
theorem npropsL_le {l : List Nd} (h : ∀ k ∈ l, k.nprops ≤ k.size) : npropsL l ≤ sizes l := by
  induction l with
  | nil => simp [npropsL]
  | cons a r ih =>
    have := ih fun k hk => h k (List.mem_cons_of_mem _ hk)
    have := h a (by simp)
    simp only [npropsL, sizes]; omega
theorem nodes_le (n : Nd) : n.nodes ≤ n.size := by
  induction n using ind with
  | h n ih => rw [nodes_eq, size_eq]; have := nodesL_le ih; omega
theorem nprops_le (n : Nd) : n.nprops ≤ n.size := by
  induction n using ind with
  | h n ih => rw [nprops_eq, size_eq]; have := npropsL_le ih; have := propsSize_length n.props; omega
theorem kid_size {n k : Nd} (h : k ∈ n.kids) : k.size < n.size := by rw [size_eq n]; have := sizes_mem h; omega
theorem take_snoc {α : Type} {l : List α} {k : Nat} {x : α} (h : l[k]? = some x) : l.take (k + 1) = l.take k ++ [x] := by
  rw [List.take_add_one, h]; rfl
end Nd

/-! ### Elements, read out -/
theorem NdV.form {w : World} {ok : Nat → Prop} {v : Value} {n : Nd} (h : NdV w ok v n) : ∃ A1 c1 A2 c2, v = .agg #[.string n.name, .slice A1 n.props.length c1, .slice A2 n.kids.length c2] ∧
    n.props.length ≤ c1 ∧ n.props.length ≤ 9223372036854775807 ∧ SlA tPr w ok A1 n.props ∧ n.kids.length ≤ c2 ∧ n.kids.length ≤ 9223372036854775807 ∧ SlA tNd w ok A2 n.kids := by
  obtain ⟨vp, vk, rfl, ⟨A1, c1, rfl, h1, h2, h3⟩, A2, c2, rfl, h4, h5, h6⟩ := h
  exact ⟨A1, c1, A2, c2, rfl, h1, h2, h3, h4, h5, h6⟩
theorem SlA.node_at {w : World} {ok : Nat → Prop} {A : Option Addr} {xs : List Nd} {j : Nat} {n : Nd} (h : SlA tNd w ok A xs) (hx : xs[j]? = some n) : ∃ b off A1 c1 A2 c2, A = some ⟨b, off, none⟩ ∧ ok b ∧ b < w.heap.size ∧
    w.cell? ⟨b, off + j * 3, none⟩ = some (.string n.name) ∧ w.cell? ⟨b, off + j * 3 + 1, none⟩ = some (.slice A1 n.props.length c1) ∧ w.cell? ⟨b, off + j * 3 + 2, none⟩ = some (.slice A2 n.kids.length c2) ∧
    NdV w ok (.agg #[.string n.name, .slice A1 n.props.length c1, .slice A2 n.kids.length c2]) n := by
  obtain ⟨b, off, cs, rfl, hb, hlt, hr, hc⟩ := h.at hx
  obtain ⟨vp, vk, rfl, ⟨A1, c1, rfl, h1, h2, h3⟩, A2, c2, rfl, h4, h5, h6⟩ := RepN.open hr
  exact ⟨b, off, A1, c1, A2, c2, rfl, hb, hlt, hc 0 _ rfl, hc 1 _ rfl, hc 2 _ rfl, _, _, rfl, ⟨A1, c1, rfl, h1, h2, h3⟩, A2, c2, rfl, h4, h5, h6⟩
theorem SlA.prop_at {w : World} {ok : Nat → Prop} {A : Option Addr} {xs : List Pr} {j : Nat} {p : Pr} (h : SlA tPr w ok A xs) (hx : xs[j]? = some p) : ∃ b off A1 c1, A = some ⟨b, off, none⟩ ∧ ok b ∧ b < w.heap.size ∧
    w.cell? ⟨b, off + j * 2, none⟩ = some (.string p.1) ∧ w.cell? ⟨b, off + j * 2 + 1, none⟩ = some (.slice A1 p.2.length c1) ∧ p.2.length ≤ c1 ∧ p.2.length ≤ 9223372036854775807 ∧ SlA tByte w ok A1 p.2 := by
  obtain ⟨b, off, cs, rfl, hb, hlt, hr, hc⟩ := h.at hx
  obtain ⟨v, rfl, A1, c1, rfl, h1, h2, h3⟩ := pr_open hr
  exact ⟨b, off, A1, c1, rfl, hb, hlt, hc 0 _ rfl, hc 1 _ rfl, h1, h2, h3⟩
theorem SlA.num_at {k : IntKind} {lo hi : Int} {w : World} {ok : Nat → Prop} {A : Option Addr} {xs : List Int} {j : Nat} {x : Int} (h : SlA (tNum k lo hi) w ok A xs) (hx : xs[j]? = some x) : ∃ b off, A = some ⟨b, off, none⟩ ∧ ok b ∧ b < w.heap.size ∧
    w.cell? ⟨b, off + j, none⟩ = some (.int k x) ∧ lo ≤ x ∧ x < hi := by
  obtain ⟨b, off, cs, rfl, hb, hlt, ⟨rfl, h1, h2⟩, hc⟩ := h.at hx
  have := hc 0 _ rfl
  exact ⟨b, off, rfl, hb, hlt, by simpa [tNum] using this, h1, h2⟩
theorem SlA.str_at {w : World} {ok : Nat → Prop} {A : Option Addr} {xs : List ByteArray} {j : Nat} {x : ByteArray} (h : SlA tStr w ok A xs) (hx : xs[j]? = some x) : ∃ b off, A = some ⟨b, off, none⟩ ∧ ok b ∧ b < w.heap.size ∧
    w.cell? ⟨b, off + j, none⟩ = some (.string x) := by
  obtain ⟨b, off, cs, rfl, hb, hlt, hr, hc⟩ := h.at hx
  obtain rfl : cs = _ := hr
  have := hc 0 _ rfl
  exact ⟨b, off, rfl, hb, hlt, by simpa [tStr] using this⟩
theorem SlA.sl_at {α : Type} {T : Ty α} {w : World} {ok : Nat → Prop} {A : Option Addr} {xs : List (List α)} {j : Nat} {x : List α} (h : SlA (tSl T) w ok A xs) (hx : xs[j]? = some x) : ∃ b off A1 c1, A = some ⟨b, off, none⟩ ∧ ok b ∧ b < w.heap.size ∧
    w.cell? ⟨b, off + j, none⟩ = some (.slice A1 x.length c1) ∧ x.length ≤ c1 ∧ x.length ≤ 9223372036854775807 ∧ SlA T w ok A1 x := by
  obtain ⟨b, off, cs, rfl, hb, hlt, hr, hc⟩ := h.at hx
  obtain ⟨v, rfl, A1, c1, rfl, h1, h2, h3⟩ := hr
  have := hc 0 _ rfl
  exact ⟨b, off, A1, c1, rfl, hb, hlt, by simpa [tSl] using this, h1, h2, h3⟩
end Go.Proofs.YtdfknlhfdbbogaaGreatDoor
