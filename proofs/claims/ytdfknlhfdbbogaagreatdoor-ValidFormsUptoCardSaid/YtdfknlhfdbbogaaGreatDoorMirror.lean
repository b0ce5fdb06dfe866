/-
  What the layers from prop to valid compute, in plain Lean: the mirrors that the walks speak of. No condition.
-/
import Derived.Test.YtdfknlhfdbbogaaGreatDoorProps
namespace Go.Proofs.YtdfknlhfdbbogaaGreatDoor
open Go.RowKit
set_option linter.unusedSimpArgs false
set_option linter.unusedVariables false
/-- The numbers' end. -/
def big : Int := 18446744073709551616
/-! ### prop -/
def cells4 (b : List Int) : List Int := (List.range (b.length / 4)).map fun i => (numN ((b.drop (4 * i)).take 4) : Int)
def cellsM (b : List Int) : List Int × Int := if b.length % 4 ≠ 0 then ([], 4) else (cells4 b, 0)
/-- What stands from a place on, up to a nought. -/
def txtAt (b : List Int) (at_ : Int) : ByteArray × Bool :=
  if 0 ≤ at_ ∧ at_ < b.length ∧ 0 ≤ Lib.indexByte (Lib.bytesOf (b.drop at_.toNat)) 0 then (strOfNums ((b.drop at_.toNat).take (Lib.indexByte (Lib.bytesOf (b.drop at_.toNat)) 0).toNat), true) else (⟨#[]⟩, false)
/-- The text that a value is. -/
def textM (b : List Int) : ByteArray × Int := if (txtAt b 0).2 = true ∧ (txtAt b 0).1.size + 1 = b.length then ((txtAt b 0).1, 0) else (⟨#[]⟩, 4)
/-- The texts that a value is. -/
def textsM (b : List Int) : List ByteArray × Int :=
  if b = [] then ([], 0)
  else if Lib.hasSuffix (Lib.bytesOf b) [0] = true then (Lib.splitB ⟨#[0]⟩ 0 (Lib.countB (strOfNums b.dropLast) ⟨#[0]⟩) (strOfNums b.dropLast), 0)
  else ([], 4)
def wideN (l : List Int) : Int := l.foldl (fun v c => v * 4294967296 + c) 0
/-! ### handle -/
/-- Handles: the number, the place. -/
abbrev Ref := Int × List Int
def known (l : List Ref) (x : Int) : Bool := l.any fun r => decide (r.1 = x)
def phandle : ByteArray := ⟨#[112, 104, 97, 110, 100, 108, 101]⟩
/-- A node's own: what is wrong, or the list with it. -/
def ofOne (n : Nd) (place : List Int) (l : List Ref) : Except Int (List Ref) :=
  if (oneN n phandle).2.2 ≠ 0 then .error (oneN n phandle).2.2
  else if (oneN n phandle).2.1 = false then .ok l
  else if ((oneN n phandle).1 : Int) < 1 ∨ (4294967294 : Int) < (oneN n phandle).1 then .error 11
  else if known l (oneN n phandle).1 = true then .error 9
  else .ok (l ++ [(((oneN n phandle).1 : Int), place)])
mutual
def ofN (place : List Int) (l : List Ref) : Nd → Except Int (List Ref)
  | .mk a p ks => match ofOne (.mk a p ks) place l with
    | .error e => .error e
    | .ok l' => ofL place 0 l' ks
def ofL (place : List Int) (k : Nat) (l : List Ref) : List Nd → Except Int (List Ref)
  | [] => .ok l
  | x :: r => match ofN (place ++ [(k : Int)]) l x with
    | .error e => .error e
    | .ok l' => ofL place (k + 1) l' r
end
def indexM (t : Tr) : Except Int (List Ref) := ofN [] [] t.root
def hfind (h : Int) : List Ref → List Int × Int
  | [] => ([], 11)
  | r :: l => if r.1 = h then (r.2, 0) else hfind h l
def findH (t : Tr) (h : Int) : List Int × Int := match indexM t with
  | .error e => ([], e)
  | .ok l => hfind h l
/-! ### path -/
mutual
def allN (place : List Int) : Nd → List (List Int)
  | .mk _ _ ks => place :: allL place 0 ks
def allL (place : List Int) (k : Nat) : List Nd → List (List Int)
  | [] => []
  | x :: r => allN (place ++ [(k : Int)]) x ++ allL place (k + 1) r
end
def slash : ByteArray := ⟨#[47]⟩
def pathL : Nd → List Int → List UInt8
  | _, [] => []
  | n, k :: r => match n.kids[k.toNat]? with
    | some x => 47 :: (x.name.data.toList ++ pathL x r)
    | none => []
def pathM (t : Tr) (place : List Int) : ByteArray × Int := if (getN t place).2 ≠ 0 then (⟨#[]⟩, (getN t place).2) else if place = [] then (slash, 0) else (⟨(pathL t.root place).toArray⟩, 0)
/-! ### region -/
abbrev Win := Int × Int
def acells : ByteArray := ⟨#[35, 97, 100, 100, 114, 101, 115, 115, 45, 99, 101, 108, 108, 115]⟩
def scells : ByteArray := ⟨#[35, 115, 105, 122, 101, 45, 99, 101, 108, 108, 115]⟩
def regS : ByteArray := ⟨#[114, 101, 103]⟩
def countM (n : Nd) (s : ByteArray) (without : Int) : Int × Int :=
  if (oneN n s).2.2 ≠ 0 ∨ 2 < (oneN n s).1 then (0, 10) else if (oneN n s).2.1 = false then (without, 0) else (((oneN n s).1 : Int), 0)
def countsM (n : Nd) : Int × Int × Int :=
  if (countM n acells 2).2 ≠ 0 then (0, 0, (countM n acells 2).2) else if (countM n scells 1).2 ≠ 0 then (0, 0, (countM n scells 1).2) else ((countM n acells 2).1, (countM n scells 1).1, 0)
def regW (a s : Nat) (cells : List Int) : List Win := (List.range (cells.length / (a + s))).map fun j => (wideN ((cells.drop (j * (a + s))).take a), wideN ((cells.drop (j * (a + s) + a)).take s))
def regM (parent n : Nd) : List Win × Int := match n.find regS with
  | none => ([], 0)
  | some b =>
    if (countsM parent).2.2 ≠ 0 then ([], (countsM parent).2.2)
    else if (countsM parent).1 = 0 ∨ b.length % (4 * ((countsM parent).1.toNat + (countsM parent).2.1.toNat)) ≠ 0 then ([], 10)
    else (regW (countsM parent).1.toNat (countsM parent).2.1.toNat (cells4 b), 0)
def wholeB (at_ size : Int) : Bool := decide (size = 0 ∨ at_ + size ≤ big)
def insideB (w : Win) (at_ size : Int) : Bool := decide (0 < size ∧ w.1 ≤ at_ ∧ at_ + size ≤ w.1 + w.2 ∧ w.1 + w.2 ≤ big)
def meetB (a b : Win) : Bool := decide (0 < a.2 ∧ 0 < b.2 ∧ a.1 < b.1 + b.2 ∧ b.1 < a.1 + a.2)
/-! ### xlate -/
abbrev Rng := Int × Int × Int
def rangesS : ByteArray := ⟨#[114, 97, 110, 103, 101, 115]⟩
def rngW (a b s : Nat) (cells : List Int) : List Rng := (List.range (cells.length / (a + b + s))).map fun j => (wideN ((cells.drop (j * (a + b + s))).take a), wideN ((cells.drop (j * (a + b + s) + a)).take b), wideN ((cells.drop (j * (a + b + s) + a + b)).take s))
def rangesM (parent n : Nd) : List Rng × Bool × Int := match n.find rangesS with
  | none => ([], false, 0)
  | some b =>
    if (countsM n).2.2 ≠ 0 then ([], false, (countsM n).2.2)
    else if (countsM parent).2.2 ≠ 0 then ([], false, (countsM parent).2.2)
    else if (countsM n).1 = 0 ∨ (countsM parent).1 = 0 ∨ b.length % (4 * ((countsM n).1.toNat + (countsM parent).1.toNat + (countsM n).2.1.toNat)) ≠ 0 then ([], false, 10)
    else if b = [] then ([(0, 0, big - 1)], true, 0)
    else (rngW (countsM n).1.toNat (countsM parent).1.toNat (countsM n).2.1.toNat (cells4 b), true, 0)
def stepL (at_ size : Int) : List Rng → Int × Int
  | [] => (0, 12)
  | r :: l => if insideB (r.1, r.2.2) at_ size = true then (if big < r.2.1 + (at_ - r.1) + size then (0, 12) else (r.2.1 + (at_ - r.1), 0)) else stepL at_ size l
def stepM (parent n : Nd) (at_ size : Int) : Int × Int := if (rangesM parent n).2.2 ≠ 0 then (0, (rangesM parent n).2.2) else stepL at_ size (rangesM parent n).1
def upK (t : Tr) (place : List Int) (size : Int) : Nat → Int → Int × Int
  | 0, at_ => (at_, 0)
  | k + 1, at_ => if (stepM (getN t (place.take k)).1 (getN t (place.take (k + 1))).1 at_ size).2 ≠ 0 then (0, (stepM (getN t (place.take k)).1 (getN t (place.take (k + 1))).1 at_ size).2) else upK t place size k (stepM (getN t (place.take k)).1 (getN t (place.take (k + 1))).1 at_ size).1
def upM (t : Tr) (place : List Int) (at_ size : Int) : Int × Int := if (getN t place).2 ≠ 0 then (0, 8) else upK t place size place.length at_
def winL (t : Tr) (up : List Int) : List Win → List Win × Int
  | [] => ([], 0)
  | w :: l => if (upM t up w.1 w.2).2 ≠ 0 then ([], (upM t up w.1 w.2).2) else if (winL t up l).2 ≠ 0 then ([], (winL t up l).2) else (((upM t up w.1 w.2).1, w.2) :: (winL t up l).1, 0)
def windowsM (t : Tr) (place : List Int) : List Win × Int :=
  if (getN t place).2 ≠ 0 then ([], 8) else if place = [] then ([], 1)
  else if (regM (getN t place.dropLast).1 (getN t place).1).2 ≠ 0 then ([], (regM (getN t place.dropLast).1 (getN t place).1).2)
  else winL t place.dropLast (regM (getN t place.dropLast).1 (getN t place).1).1
/-! ### irq -/
abbrev Ln := List Int × Int
def icS : ByteArray := (⟨#[105, 110, 116, 101, 114, 114, 117, 112, 116, 45, 99, 111, 110, 116, 114, 111, 108, 108, 101, 114]⟩ : ByteArray)
def icellsS : ByteArray := (⟨#[35, 105, 110, 116, 101, 114, 114, 117, 112, 116, 45, 99, 101, 108, 108, 115]⟩ : ByteArray)
def iparentS : ByteArray := (⟨#[105, 110, 116, 101, 114, 114, 117, 112, 116, 45, 112, 97, 114, 101, 110, 116]⟩ : ByteArray)
def ixS : ByteArray := (⟨#[105, 110, 116, 101, 114, 114, 117, 112, 116, 115, 45, 101, 120, 116, 101, 110, 100, 101, 100]⟩ : ByteArray)
def isS : ByteArray := (⟨#[105, 110, 116, 101, 114, 114, 117, 112, 116, 115]⟩ : ByteArray)
def imapS : ByteArray := (⟨#[105, 110, 116, 101, 114, 114, 117, 112, 116, 45, 109, 97, 112]⟩ : ByteArray)
def imaskS : ByteArray := (⟨#[105, 110, 116, 101, 114, 114, 117, 112, 116, 45, 109, 97, 112, 45, 109, 97, 115, 107]⟩ : ByteArray)
def controllerM (n : Nd) : Bool := (n.find icS).isSome && (oneN n icellsS).2.1 && decide ((oneN n icellsS).2.2 = 0) && decide ((oneN n icellsS).1 = 1)
/-- From k up to the root. -/
def parentK (t : Tr) (place : List Int) : Nat → List Int × Int
  | 0 => if (oneN t.root iparentS).2.2 ≠ 0 then ([], (oneN t.root iparentS).2.2) else if (oneN t.root iparentS).2.1 = true then findH t (oneN t.root iparentS).1 else ([], 8)
  | k + 1 => if (oneN (getN t (place.take (k + 1))).1 iparentS).2.2 ≠ 0 then ([], (oneN (getN t (place.take (k + 1))).1 iparentS).2.2) else if (oneN (getN t (place.take (k + 1))).1 iparentS).2.1 = true then findH t (oneN (getN t (place.take (k + 1))).1 iparentS).1 else parentK t place k
def parentM (t : Tr) (place : List Int) : List Int × Int := if (getN t place).2 ≠ 0 then ([], (getN t place).2) else parentK t place place.length
def pairsL (t : Tr) : List Int → List Ln × Int
  | a :: b :: r => if (findH t a).2 ≠ 0 then ([], (findH t a).2) else if (pairsL t r).2 ≠ 0 then ([], (pairsL t r).2) else (((findH t a).1, b) :: (pairsL t r).1, 0)
  | _ => ([], 0)
def extendedM (t : Tr) (b : List Int) : List Ln × Int := if (cellsM b).2 ≠ 0 ∨ (cellsM b).1.length % 2 ≠ 0 then ([], 4) else pairsL t (cellsM b).1
def linesM (t : Tr) (place : List Int) : List Ln × Int :=
  if (getN t place).2 ≠ 0 then ([], (getN t place).2)
  else match (getN t place).1.find ixS with
    | some b => extendedM t b
    | none =>
      if (cellsM (((getN t place).1.find isS).getD [])).2 ≠ 0 ∨ (cellsM (((getN t place).1.find isS).getD [])).1 = [] then ([], (cellsM (((getN t place).1.find isS).getD [])).2)
      else if (parentM t place).2 ≠ 0 then ([], (parentM t place).2)
      else ((cellsM (((getN t place).1.find isS).getD [])).1.map fun c => ((parentM t place).1, c), 0)
def andU (a b : Int) : Int := ((a.toNat &&& b.toNat : Nat) : Int)
def mapL (t : Tr) (mask line : Int) : List Int → Ln × Int
  | a :: b :: c :: r => if andU a mask = andU line mask then (if (findH t b).2 ≠ 0 then (([], 0), (findH t b).2) else (((findH t b).1, c), 0)) else mapL t mask line r
  | _ => (([], 0), 8)
def mappedM (t : Tr) (n : Nd) (line : Int) : Ln × Int := match n.find imapS with
  | none => (([], 0), 8)
  | some b =>
    if (cellsM b).2 ≠ 0 ∨ (oneN n imaskS).2.2 ≠ 0 ∨ (cellsM b).1.length % 3 ≠ 0 then (([], 0), 4)
    else mapL t (if (oneN n imaskS).2.1 = true then ((oneN n imaskS).1 : Int) else 4294967295) line (cellsM b).1
def throughK (t : Tr) : Nat → Ln → Ln × Int
  | 0, _ => (([], 0), 14)
  | k + 1, l =>
    if (getN t l.1).2 ≠ 0 then (([], 0), (getN t l.1).2)
    else if controllerM (getN t l.1).1 = true then (l, 0)
    else if (mappedM t (getN t l.1).1 l.2).2 ≠ 0 then (([], 0), (mappedM t (getN t l.1).1 l.2).2)
    else throughK t k (mappedM t (getN t l.1).1 l.2).1
def throughM (t : Tr) (l : Ln) : Ln × Int := throughK t 16 l
/-- The line at the last controller, those on the way, what is wrong. -/
def rootK (t : Tr) : Nat → List Ln → Ln → Ln × List Ln × Int
  | 0, _, _ => (([], 0), [], 14)
  | k + 1, way, l =>
    if (throughM t l).2 ≠ 0 then (([], 0), [], (throughM t l).2)
    else if (linesM t (throughM t l).1.1).2 ≠ 0 then (([], 0), [], (linesM t (throughM t l).1.1).2)
    else match (linesM t (throughM t l).1.1).1 with
      | [] => ((throughM t l).1, way ++ [(throughM t l).1], 0)
      | x :: _ => rootK t k (way ++ [(throughM t l).1]) x
def rootM (t : Tr) (l : Ln) : Ln × List Ln × Int := rootK t 16 [] l
/-! ### valid -/
def kindOfS (s : ByteArray) : Int :=
  if s = (⟨#[115, 105, 109, 112, 108, 101, 45, 98, 117, 115]⟩ : ByteArray) then 1 else if s = (⟨#[97, 114, 98, 111, 114, 44, 114, 97, 109]⟩ : ByteArray) then 2 else if s = (⟨#[97, 114, 98, 111, 114, 44, 117, 97, 114, 116]⟩ : ByteArray) then 3 else if s = (⟨#[97, 114, 98, 111, 114, 44, 99, 108, 111, 99, 107]⟩ : ByteArray) then 4
  else if s = (⟨#[97, 114, 98, 111, 114, 44, 103, 112, 105, 111]⟩ : ByteArray) then 5 else if s = (⟨#[97, 114, 98, 111, 114, 44, 114, 116, 99]⟩ : ByteArray) then 6 else if s = (⟨#[97, 114, 98, 111, 114, 44, 99, 116, 114, 108]⟩ : ByteArray) then 7 else 0
def sizeOfK (k : Int) : Int := if k = 3 ∨ k = 4 ∨ k = 6 ∨ k = 7 then 16 else if k = 5 then 32 else 0
def compS : ByteArray := (⟨#[99, 111, 109, 112, 97, 116, 105, 98, 108, 101]⟩ : ByteArray)
def statusS : ByteArray := (⟨#[115, 116, 97, 116, 117, 115]⟩ : ByteArray)
def kindL : List ByteArray → Int × Bool
  | [] => (0, true)
  | s :: r => if kindOfS s ≠ 0 then (kindOfS s, false) else kindL r
/-- What a node is; whether it says so, but nothing known; what is wrong. -/
def kindM (n : Nd) : Int × Bool × Int := match n.find compS with
  | none => (0, false, 0)
  | some b => if (textsM b).2 ≠ 0 then (0, false, (textsM b).2) else ((kindL (textsM b).1).1, (kindL (textsM b).1).2, 0)
def ofM (t : Tr) (place : List Int) : Int × Int := if (getN t place).2 ≠ 0 then (0, (getN t place).2) else ((kindM (getN t place).1).1, (kindM (getN t place).1).2.2)
def okayS : ByteArray := (⟨#[111, 107, 97, 121]⟩ : ByteArray)
def okS : ByteArray := (⟨#[111, 107]⟩ : ByteArray)
def statusM (n : Nd) : Bool × Int := match n.find statusS with
  | none => (true, 0)
  | some b => (decide ((textM b).1 = okayS ∨ (textM b).1 = okS), (textM b).2)
def onL : Nd → List Int → Bool × Int
  | n, [] => if (statusM n).2 ≠ 0 then (false, (statusM n).2) else ((statusM n).1, 0)
  | n, k :: r =>
    if (statusM n).2 ≠ 0 then (false, (statusM n).2)
    else match n.kids[k.toNat]? with
      | none => (false, 8)
      | some x => if (onL x r).2 ≠ 0 then (false, (onL x r).2) else ((statusM n).1 && (onL x r).1, 0)
def enabledM (t : Tr) (place : List Int) : Bool × Int := if (getN t place).2 ≠ 0 then (false, (getN t place).2) else onL t.root place
/-- Are all above, but the root, buses? -/
def busesM (t : Tr) (place : List Int) : Bool := (List.range place.length).all fun k => decide (k = 0 ∨ ((ofM t (place.take k)).2 = 0 ∧ (ofM t (place.take k)).1 = 1))
def windowM (t : Tr) (place : List Int) (k : Int) : Int :=
  if (windowsM t place).2 ≠ 0 then (windowsM t place).2
  else match (windowsM t place).1 with
    | [w] => if (k = 2 ∧ (w.2 < 1 ∨ 65536 < w.2)) ∨ (k ≠ 2 ∧ w.2 ≠ sizeOfK k) then 12 else if insideB w w.1 w.2 = true then 0 else 12
    | _ => 12
def wayL (t : Tr) : List Ln → Int
  | [] => 0
  | x :: r => if x.1 = [] ∨ (ofM t x.1).2 ≠ 0 ∨ (enabledM t x.1).2 ≠ 0 ∨ (ofM t x.1).1 ≠ 7 ∨ (enabledM t x.1).1 = false then 15 else wayL t r
def wayM (t : Tr) (l : Ln) : Int :=
  if (rootM t l).2.2 ≠ 0 then (rootM t l).2.2
  else if (rootM t l).2.1.any (fun x => decide (32 ≤ x.2)) = true then 12
  else wayL t (rootM t l).2.1
/-- The look's state: controllers without lines; lines: whose, to which. -/
abbrev Lk := Int × List (List Int × Ln)
def wiresM (t : Tr) (n : Nd) (place : List Int) (k : Int) (s : Lk) : Int × Lk :=
  if (linesM t place).2 ≠ 0 then ((linesM t place).2, s)
  else if (k = 7 ∧ controllerM n = false) ∨ 1 < (linesM t place).1.length ∨ (k = 2 ∧ 0 < (linesM t place).1.length) then (4, s)
  else match (linesM t place).1 with
    | [] => (0, (if k = 7 then s.1 + 1 else s.1, s.2))
    | x :: _ => if wayM t x ≠ 0 then (wayM t x, s) else ((throughM t x).2, (s.1, s.2 ++ [(place, (throughM t x).1)]))
def beyondB (r : Rng) : Bool := decide (0 < r.2.2 ∧ (big < r.1 + r.2.2 ∨ big < r.2.1 + r.2.2))
def busM (t : Tr) (n : Nd) (place : List Int) : Int :=
  if (rangesM (getN t place.dropLast).1 n).2.2 ≠ 0 then (rangesM (getN t place.dropLast).1 n).2.2
  else if (rangesM (getN t place.dropLast).1 n).2.1 = false ∨ (rangesM (getN t place.dropLast).1 n).1.any beyondB = true then 12 else 0
def nodeM (t : Tr) (place : List Int) (s : Lk) : Int × Lk :=
  if (statusM (getN t place).1).2 ≠ 0 then ((statusM (getN t place).1).2, s)
  else if (enabledM t place).2 ≠ 0 ∨ (enabledM t place).1 = false then (0, s)
  else if (kindM (getN t place).1).2.2 ≠ 0 then ((kindM (getN t place).1).2.2, s)
  else if (kindM (getN t place).1).2.1 = true then (15, s)
  else if (kindM (getN t place).1).1 = 0 then (0, s)
  else if (kindM (getN t place).1).1 = 1 then (busM t (getN t place).1 place, s)
  else if busesM t place = false then (15, s)
  else if windowM t place (kindM (getN t place).1).1 ≠ 0 then (windowM t place (kindM (getN t place).1).1, s)
  else wiresM t (getN t place).1 place (kindM (getN t place).1).1 s
def entriesL (t : Tr) (place : List Int) (n : Nd) (k : Nat) : List Nd → List Win
  | [] => []
  | x :: r =>
    (if (enabledM t (place ++ [(k : Int)])).2 ≠ 0 ∨ (ofM t (place ++ [(k : Int)])).2 ≠ 0 ∨ (enabledM t (place ++ [(k : Int)])).1 = false ∨ (ofM t (place ++ [(k : Int)])).1 = 0 then []
     else if (ofM t (place ++ [(k : Int)])).1 ≠ 1 then (regM n x).1
     else (rangesM n x).1.map fun r => (r.2.1, r.2.2)) ++ entriesL t place n (k + 1) r
def entriesM (t : Tr) (place : List Int) : List Win × Int := if (getN t place).2 ≠ 0 then ([], (getN t place).2) else (entriesL t place (getN t place).1 0 (getN t place).1.kids, 0)
def overlapL (seen : List Win) : List Win → Bool
  | [] => false
  | a :: r => seen.any (meetB a) || overlapL (seen ++ [a]) r
def overlapM (l : List Win) : Bool := overlapL [] l
def twiceL (seen : List (List Int × Ln)) : List (List Int × Ln) → Option (List Int)
  | [] => none
  | a :: r => if seen.any (fun b => decide (a.2.2 = b.2.2 ∧ a.2.1 = b.2.1)) = true then some a.2.1 else twiceL (seen ++ [a]) r
/-- What is wrong: nothing; a number alone; a number, and a path. -/
inductive Wrong where
  | none
  | num (e : Int)
  | at (path : ByteArray) (e : Int)
def atM (t : Tr) (place : List Int) (e : Int) : Wrong := if e = 0 then .none else .at (pathM t place).1 e
def nodesL (t : Tr) (s : Lk) : List (List Int) → Wrong × Lk
  | [] => (.none, s)
  | p :: r => if p = [] then nodesL t s r else if (nodeM t p s).1 ≠ 0 then (atM t p (nodeM t p s).1, (nodeM t p s).2) else nodesL t (nodeM t p s).2 r
def busesL (t : Tr) : List (List Int) → Option (List Int)
  | [] => none
  | p :: r => if p ≠ [] ∧ ((enabledM t p).1 = false ∨ (ofM t p).1 ≠ 1) then busesL t r else if overlapM (entriesM t p).1 = true then some p else busesL t r
def wholeM (t : Tr) (s : Lk) : Wrong := match busesL t (allN [] t.root) with
  | some p => atM t p 13
  | none => match twiceL [] s.2 with
    | some p => atM t p 9
    | none => if 1 < s.1 then .num 1 else .none
def validM (t : Tr) : Wrong :=
  if checkT t ≠ 0 then .num (checkT t)
  else match indexM t with
    | .error e => .num e
    | .ok _ => match (nodesL t (0, []) (allN [] t.root)).1 with
      | .none => wholeM t (nodesL t (0, []) (allN [] t.root)).2
      | x => x
/-- The number that an error wraps, and the paths on the way. -/
def Wrong.cause : Wrong → Int × List ByteArray
  | .none => (0, [])
  | .num e => (e, [])
  | .at p e => (e, [p])
end Go.Proofs.YtdfknlhfdbbogaaGreatDoor
