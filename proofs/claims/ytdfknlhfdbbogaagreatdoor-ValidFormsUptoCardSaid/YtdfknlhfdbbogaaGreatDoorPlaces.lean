/-
  Plain laws on places: those of all nodes, handles in their order. No condition.
-/
import Derived.Test.YtdfknlhfdbbogaaGreatDoorMirror
namespace Go.Proofs.YtdfknlhfdbbogaaGreatDoor
open Go.RowKit
set_option linter.unusedSimpArgs false
set_option linter.unusedVariables false
theorem ofN_eq (place : List Int) (l : List Ref) (n : Nd) : ofN place l n = match ofOne n place l with
    | .error e => .error e
    | .ok l' => ofL place 0 l' n.kids := by cases n; rw [ofN]; rfl
theorem allN_eq (place : List Int) (n : Nd) : allN place n = place :: allL place 0 n.kids := by cases n; rw [allN]; rfl
theorem ofL_append (place : List Int) (xs ys : List Nd) : ∀ (k : Nat) (l : List Ref), ofL place k l (xs ++ ys) = match ofL place k l xs with
    | .error e => .error e
    | .ok l' => ofL place (k + xs.length) l' ys := by
  induction xs with
  | nil => intro k l; simp [ofL]
  | cons x r ih =>
    intro k l
    rw [List.cons_append, ofL, ofL]
    cases ofN (place ++ [(k : Int)]) l x with
    | error e => rfl
    | ok l' =>
      simp only
      rw [ih, List.length_cons, show k + 1 + r.length = k + (r.length + 1) by omega]
theorem ofL_one (place : List Int) (k : Nat) (l : List Ref) (x : Nd) : ofL place k l [x] = ofN (place ++ [(k : Int)]) l x := by
  rw [ofL]
  cases ofN (place ++ [(k : Int)]) l x <;> simp [ofL]
/-- One kid more. -/
theorem ofL_next {place : List Int} {l l' : List Ref} {ks : List Nd} {k : Nat} {x : Nd} (hx : ks[k]? = some x) (h : ofL place 0 l (ks.take k) = .ok l') : ofL place 0 l (ks.take (k + 1)) = ofN (place ++ [(k : Int)]) l' x := by
  have hk := (List.getElem?_eq_some_iff.1 hx).1
  rw [Nd.take_snoc hx, ofL_append, h]
  simp only
  rw [List.length_take, Nat.min_eq_left (by omega), ofL_one, Nat.zero_add]
theorem ofL_stop {place : List Int} {l : List Ref} {ks : List Nd} {k : Nat} {e : Int} (h : ofL place 0 l (ks.take k) = .error e) : ofL place 0 l ks = .error e := by
  have h2 := ofL_append place (ks.take k) (ks.drop k) 0 l
  rw [List.take_append_drop, h] at h2
  exact h2
theorem allL_append (place : List Int) (xs ys : List Nd) : ∀ k : Nat, allL place k (xs ++ ys) = allL place k xs ++ allL place (k + xs.length) ys := by
  induction xs with
  | nil => intro k; simp [allL]
  | cons x r ih => intro k; rw [List.cons_append, allL, allL, ih, List.length_cons, List.append_assoc, show k + 1 + r.length = k + (r.length + 1) by omega]
theorem allL_next {place : List Int} {ks : List Nd} {k : Nat} {x : Nd} (hx : ks[k]? = some x) : allL place 0 (ks.take (k + 1)) = allL place 0 (ks.take k) ++ allN (place ++ [(k : Int)]) x := by
  have hk := (List.getElem?_eq_some_iff.1 hx).1
  rw [Nd.take_snoc hx, allL_append, List.length_take, Nat.min_eq_left (by omega), Nat.zero_add]
  simp [allL]
mutual
def allNd (place : List Int) : Nd → List (List Int × Nd)
  | .mk a p ks => (place, .mk a p ks) :: allNdL place 0 ks
def allNdL (place : List Int) (k : Nat) : List Nd → List (List Int × Nd)
  | [] => []
  | x :: r => allNd (place ++ [(k : Int)]) x ++ allNdL place (k + 1) r
end
theorem allNd_eq (place : List Int) (n : Nd) : allNd place n = (place, n) :: allNdL place 0 n.kids := by cases n; rw [allNd]; rfl
theorem allNd_fst (n : Nd) : ∀ place, (allNd place n).map (·.1) = allN place n := by
  induction n using Nd.ind with
  | h n ih =>
    intro place
    rw [allNd_eq, allN_eq, List.map_cons]
    congr 1
    have H : ∀ (ks : List Nd) (k : Nat), (∀ x ∈ ks, ∀ place, (allNd place x).map (·.1) = allN place x) → (allNdL place k ks).map (·.1) = allL place k ks := by
      intro ks
      induction ks with
      | nil => intro k _; simp [allNdL, allL]
      | cons x r ihr => intro k h; rw [allNdL, allL, List.map_append, h x (by simp), ihr _ fun y hy => h y (by simp [hy])]
    exact H _ _ ih
theorem downN_append {n : Nd} {p q : List Int} : downN n (p ++ q) = (downN n p).bind fun m => downN m q := by
  induction p generalizing n with
  | nil => rfl
  | cons a r ih =>
    rw [List.cons_append, downN, downN]
    split
    · cases n.kids[a.toNat]? with
      | none => rfl
      | some y => exact ih
    · rfl
theorem allNd_down (n : Nd) : ∀ place x, x ∈ allNd place n → ∃ q, x.1 = place ++ q ∧ downN n q = some x.2 := by
  induction n using Nd.ind with
  | h n ih =>
    intro place x hx
    rw [allNd_eq] at hx
    rcases List.mem_cons.1 hx with rfl | hx
    · exact ⟨[], by simp, rfl⟩
    · have H : ∀ (ks : List Nd) (k : Nat), (∀ j y, ks[j]? = some y → n.kids[k + j]? = some y) → x ∈ allNdL place k ks → ∃ (j : Nat) (y : Nd), n.kids[j]? = some y ∧ x ∈ allNd (place ++ [(j : Int)]) y := by
        intro ks
        induction ks with
        | nil => intro k _ h; simp [allNdL] at h
        | cons y r ihr =>
          intro k hk h
          rw [allNdL] at h
          rcases List.mem_append.1 h with h | h
          · exact ⟨k, y, by simpa using hk 0 y rfl, h⟩
          · exact ihr (k + 1) (fun j z hz => by have := hk (j + 1) z (by simpa using hz); rwa [show k + (j + 1) = k + 1 + j by omega] at this) h
      obtain ⟨j, y, hy, hx2⟩ := H n.kids 0 (fun j z hz => by simpa using hz) hx
      obtain ⟨q, hq, hd⟩ := ih y (List.mem_of_getElem? hy) _ _ hx2
      have hj := (List.getElem?_eq_some_iff.1 hy).1
      refine ⟨(j : Int) :: q, by rw [hq]; simp, ?_⟩
      rw [downN, if_pos (by omega)]
      simp [hy, hd]
def foldOf (l : List Ref) : List (List Int × Nd) → Except Int (List Ref)
  | [] => .ok l
  | x :: r => match ofOne x.2 x.1 l with
    | .error e => .error e
    | .ok l' => foldOf l' r
theorem foldOf_append (xs ys : List (List Int × Nd)) : ∀ l, foldOf l (xs ++ ys) = match foldOf l xs with
    | .error e => .error e
    | .ok l' => foldOf l' ys := by
  induction xs with
  | nil => intro l; simp [foldOf]
  | cons x r ih =>
    intro l
    rw [List.cons_append, foldOf, foldOf]
    cases ofOne x.2 x.1 l with
    | error e => rfl
    | ok l' => exact ih l'
theorem ofN_fold (n : Nd) : ∀ place l, ofN place l n = foldOf l (allNd place n) := by
  induction n using Nd.ind with
  | h n ih =>
    intro place l
    rw [ofN_eq, allNd_eq, foldOf]
    cases ofOne n place l with
    | error e => rfl
    | ok l' =>
      simp only
      have H : ∀ (ks : List Nd) (k : Nat) (l : List Ref), (∀ x ∈ ks, ∀ place l, ofN place l x = foldOf l (allNd place x)) → ofL place k l ks = foldOf l (allNdL place k ks) := by
        intro ks
        induction ks with
        | nil => intro k l _; simp [ofL, allNdL, foldOf]
        | cons x r ihr =>
          intro k l h
          rw [ofL, allNdL, foldOf_append, h x (by simp)]
          cases foldOf l (allNd (place ++ [(k : Int)]) x) with
          | error e => rfl
          | ok l2 => exact ihr _ _ fun y hy => h y (by simp [hy])
      exact H _ _ _ ih
/-- How many there are. -/
theorem allN_length (n : Nd) : ∀ place, (allN place n).length ≤ n.size := by
  induction n using Nd.ind with
  | h n ih =>
    intro place
    have H : ∀ (ks : List Nd) (k : Nat), (∀ x ∈ ks, ∀ place, (allN place x).length ≤ x.size) → (allL place k ks).length ≤ Nd.sizes ks := by
      intro ks
      induction ks with
      | nil => intro k _; simp [allL]
      | cons x r ihr =>
        intro k h
        have h1 := h x (by simp) (place ++ [(k : Int)])
        have h2 := ihr (k + 1) fun y hy => h y (by simp [hy])
        rw [allL, List.length_append, Nd.sizes]
        omega
    have := H n.kids 0 ih
    rw [allN_eq, List.length_cons, Nd.size_eq]
    omega
theorem ofOne_length {n : Nd} {place : List Int} {l l' : List Ref} (h : ofOne n place l = .ok l') : l'.length ≤ l.length + 1 := by
  unfold ofOne at h
  split at h
  · cases h
  · split at h
    · injection h with h; subst h; omega
    · split at h
      · cases h
      · split at h
        · cases h
        · injection h with h; subst h; simp
theorem ofN_length (n : Nd) : ∀ place l l', ofN place l n = .ok l' → l'.length ≤ l.length + n.size := by
  induction n using Nd.ind with
  | h n ih =>
    intro place l l' h
    rw [ofN_eq] at h
    cases ho : ofOne n place l with
    | error e => rw [ho] at h; cases h
    | ok l1 =>
      rw [ho] at h
      simp only at h
      have h1 := ofOne_length ho
      have H : ∀ (ks : List Nd) (k : Nat) (l l' : List Ref), (∀ x ∈ ks, ∀ place l l', ofN place l x = .ok l' → l'.length ≤ l.length + x.size) → ofL place k l ks = .ok l' → l'.length ≤ l.length + Nd.sizes ks := by
        intro ks
        induction ks with
        | nil => intro k l l' _ h; simp [ofL] at h; subst h; omega
        | cons x r ihr =>
          intro k l l' h h2
          rw [ofL] at h2
          cases hx : ofN (place ++ [(k : Int)]) l x with
          | error e => rw [hx] at h2; cases h2
          | ok l2 =>
            rw [hx] at h2
            have h3 := h x (by simp) _ _ _ hx
            have h4 := ihr _ _ _ (fun y hy => h y (by simp [hy])) h2
            rw [Nd.sizes]
            omega
      have := H _ _ _ _ ih h
      rw [Nd.size_eq]
      omega
end Go.Proofs.YtdfknlhfdbbogaaGreatDoor
