/- Chapter 4, plain: what a name's text is read as, and how a name is written. No program in sight. -/
import Derived.Lib.IndexLaws
import Derived.Lib.Split
import Derived.Lib.ValidLaws
namespace Go.Proofs.YtegigcneimjimaaGreatDoor
open Go.Lib

def letB (c : UInt8) : Bool := (decide (97 ≤ c.toNat) && decide (c.toNat ≤ 122)) || (decide (65 ≤ c.toNat) && decide (c.toNat ≤ 90))
def digB (c : UInt8) : Bool := decide (48 ≤ c.toNat) && decide (c.toNat ≤ 57)
def inTyB (c : UInt8) : Bool := letB c || digB c || c == 45 || c == 46
def specL : List UInt8 := [34, 43, 44, 59, 60, 62, 92]
def escL : List UInt8 := [34, 43, 44, 59, 60, 62, 92, 61, 35, 32]
/-- The value of a digit of sixteen; none is -1. -/
def hexD (c : UInt8) : Int :=
  if 48 ≤ c.toNat ∧ c.toNat ≤ 57 then (c.toNat : Int) - 48
  else if 97 ≤ c.toNat ∧ c.toNat ≤ 102 then (c.toNat : Int) - 97 + 10
  else if 65 ≤ c.toNat ∧ c.toNat ≤ 70 then (c.toNat : Int) - 65 + 10
  else -1
def hexB (a b : UInt8) : UInt8 := UInt8.ofNat ((hexD a).toNat * 16 + (hexD b).toNat)
/-- One number of a row with points between. -/
def numB (n : List UInt8) : Bool := !n.isEmpty && !(decide (1 < n.length) && n.getD 0 0 == 48) && n.all digB
def oidB (s : List UInt8) : Bool := (split s [46]).all numB && decide (1 < (split s [46]).length)
def isTyB (s : List UInt8) : Bool :=
  if s = [] ∨ 64 < s.length then false
  else if letB (s.getD 0 0) then s.all (fun c => inTyB c && c != 46)
  else oidB s

def blanksB (r : List UInt8) : List UInt8 := r.dropWhile (· == 32)
def unhexL : List UInt8 → List UInt8
  | a :: b :: t => hexB a b :: unhexL t
  | _ => []
def isHex (c : UInt8) : Bool := decide (0 ≤ hexD c)
/-- A value of digits, behind its sign. -/
def rHex (r : List UInt8) : Option (List UInt8 × List UInt8) :=
  if (r.takeWhile isHex).length % 2 = 0 ∧ r.takeWhile isHex ≠ [] then some (unhexL (r.takeWhile isHex), r.dropWhile isHex) else none
/-- What stands behind a backslash. -/
def rEsc : List UInt8 → Option (UInt8 × List UInt8)
  | [] => none
  | c :: t =>
    if c ∈ escL then some (c, t)
    else match t with
      | [] => none
      | d :: u => if isHex c && isHex d then some (hexB c d, u) else none
/-- A value: the bytes so far, how many stay, what is left. -/
def rVal : Nat → List UInt8 → List UInt8 → Nat → Option (List UInt8 × List UInt8)
  | _, [], b, n => some (b.take n, [])
  | 0, _ :: _, _, _ => none
  | f + 1, c :: t, b, n =>
    if c = 44 ∨ c = 43 then some (b.take n, c :: t)
    else if c = 92 then
      match rEsc t with
      | none => none
      | some (x, u) => rVal f u (b ++ [x]) (b.length + 1)
    else if c = 0 ∨ c ∈ specL then none
    else rVal f t (b ++ [c]) (if c = 32 then n else b.length + 1)
def rValue (r : List UInt8) : Option (List UInt8 × List UInt8) :=
  match r with
  | 35 :: t => rHex t
  | _ => rVal r.length r [] 0
abbrev Av := List UInt8 × List UInt8
def rPair (r : List UInt8) : Option (Av × List UInt8) :=
  let r1 := blanksB r
  let t := r1.takeWhile inTyB
  if isTyB t then
    match blanksB (r1.dropWhile inTyB) with
    | 61 :: r3 =>
      match rValue (blanksB r3) with
      | some (v, r4) => some ((t, v), blanksB r4)
      | none => none
    | _ => none
  else none
def rPart : Nat → List UInt8 → List Av → Option (List Av × List UInt8)
  | 0, _, _ => none
  | f + 1, r, o =>
    match rPair r with
    | none => none
    | some (a, u) =>
      match u with
      | 43 :: u' => rPart f u' (o ++ [a])
      | _ => some (o ++ [a], u)
def rName : Nat → List UInt8 → List (List Av) → Option (List (List Av))
  | 0, _, _ => none
  | f + 1, r, o =>
    match rPart (r.length + 1) r [] with
    | none => none
    | some (p, u) =>
      match u with
      | 44 :: u' => rName f u' (o ++ [p])
      | [] => some (o ++ [p])
      | _ => none
def nameB (s : List UInt8) : Option (List (List Av)) := if s = [] then some [] else rName (s.length + 1) s []
def longB (d : List (List Av)) : Bool := decide (20 < d.length) || d.any (fun r => decide (4 < r.length) || r.any (fun a => decide (1024 < a.2.length)))
/-- What Parse answers: the name, and the error's number. -/
def parseB (s : List UInt8) : List (List Av) × Int :=
  if 65536 < s.length then ([], 2)
  else match nameB s with
    | none => ([], 30)
    | some d => if longB d then ([], 2) else (d, 0)

def hexC (n : Nat) : UInt8 := ([48, 49, 50, 51, 52, 53, 54, 55, 56, 57, 97, 98, 99, 100, 101, 102] : List UInt8).getD n 0
def hexL (v : List UInt8) : List UInt8 := v.flatMap fun c => [hexC (c.toNat / 16), hexC (c.toNat % 16)]
/-- A value's bytes as they are written; first says whether the value begins here. -/
def wrB : Bool → List UInt8 → List UInt8
  | _, [] => []
  | first, c :: t =>
    (if c = 0 then [92, 48, 48]
     else if c ∈ specL ∨ (first = true ∧ (c = 35 ∨ c = 32)) ∨ (t = [] ∧ c = 32) then [92, c]
     else [c]) ++ wrB false t
def writtenB (v : List UInt8) : List UInt8 := if validD v then wrB true v else 35 :: hexL v
def avB (a : Av) : List UInt8 := a.1 ++ [61] ++ writtenB a.2
def joinB (sep : UInt8) : List (List UInt8) → List UInt8
  | [] => []
  | [x] => x
  | x :: t => x ++ [sep] ++ joinB sep t
def partB (r : List Av) : List UInt8 := joinB 43 (r.map avB)
def rightB (d : List (List Av)) : Bool := d.all fun r => !r.isEmpty && r.all fun a => isTyB a.1
def printB (d : List (List Av)) : List UInt8 × Int :=
  if rightB d = false then ([], 30)
  else if longB d then ([], 2)
  else if 65536 < (joinB 44 (d.map partB)).length then ([], 2)
  else (joinB 44 (d.map partB), 0)
end Go.Proofs.YtegigcneimjimaaGreatDoor
