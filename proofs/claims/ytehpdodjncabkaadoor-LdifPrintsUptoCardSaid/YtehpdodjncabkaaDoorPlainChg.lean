/- Chapter 18, plain: how a record is written. -/
import Derived.Test.YtehpdodjncabkaaDoorLdifX
import Derived.Test.YtehpdodjncabkaaDoorPlainDn
namespace Go.Proofs.YtehpdodjncabkaaDoor
open Go.Lib

abbrev At := List UInt8 × List (List UInt8)
abbrev Md := Int × List UInt8 × List (List UInt8)
structure Chg where
  time : List UInt8
  who : List UInt8
  dn : List UInt8
  kind : Int
  attrs : List At
  mods : List Md
  newRdn : List UInt8
  newSup : List UInt8
  delOld : Bool
  hasSup : Bool
def kindW (k : Int) : List UInt8 := if k = 0 then [97, 100, 100] else if k = 1 then [100, 101, 108, 101, 116, 101] else if k = 2 then [109, 111, 100, 105, 102, 121] else [109, 111, 100, 114, 100, 110]
def opW (k : Int) : List UInt8 := if k = 0 then [97, 100, 100] else if k = 1 then [100, 101, 108, 101, 116, 101] else [114, 101, 112, 108, 97, 99, 101]
def valsB (t : List UInt8) (vs : List (List UInt8)) : List UInt8 := vs.flatMap fun v => lineB t v
def attrB (al : List At) : List UInt8 := al.flatMap fun a => valsB a.1 a.2
def modB1 (m : Md) : List UInt8 := lineB (opW m.1) m.2.1 ++ valsB m.2.1 m.2.2 ++ [45, 10]
def modB (ms : List Md) : List UInt8 := ms.flatMap modB1
def moveB (c : Chg) : List UInt8 :=
  lineB [110, 101, 119, 114, 100, 110] c.newRdn ++ lineB [100, 101, 108, 101, 116, 101, 111, 108, 100, 114, 100, 110] (if c.delOld then [49] else [48]) ++ (if c.hasSup then lineB [110, 101, 119, 115, 117, 112, 101, 114, 105, 111, 114] c.newSup else [])
def restC (c : Chg) : List UInt8 := if c.kind = 0 then attrB c.attrs else if c.kind = 2 then modB c.mods else if c.kind = 3 then moveB c else []
def headC (c : Chg) : List UInt8 := lineB [116, 105, 109, 101] c.time ++ lineB [119, 104, 111] c.who ++ lineB [100, 110] c.dn ++ lineB [99, 104, 97, 110, 103, 101, 116, 121, 112, 101] (kindW c.kind)
def textC (c : Chg) : List UInt8 := headC c ++ restC c ++ [10]
/-- Attributes that can be written: each a type, with values, and no two beside one another of one type. -/
def attrsOk : Option (List UInt8) → List At → Bool
  | _, [] => true
  | p, a :: t => isTyB a.1 && !a.2.isEmpty && !(p == some a.1) && attrsOk (some a.1) t
def modsOk (ms : List Md) : Bool := ms.all fun m => decide (0 ≤ m.1) && decide (m.1 ≤ 2) && isTyB m.2.1
def onlyC (c : Chg) : Bool :=
  decide (0 ≤ c.kind) && decide (c.kind ≤ 3) && (decide (c.kind = 0) || c.attrs.isEmpty) && (decide (c.kind = 2) || c.mods.isEmpty) && (c.newSup.isEmpty || c.hasSup) && (decide (c.kind = 3) || (c.newRdn.isEmpty && !c.delOld && !c.hasSup))
def rightC (c : Chg) : Bool := onlyC c && attrsOk none c.attrs && modsOk c.mods
def printC (c : Chg) : List UInt8 × Int :=
  if rightC c = false then ([], 110)
  else if 65536 < (textC c).length then ([], 2)
  else (textC c, 0)
end Go.Proofs.YtehpdodjncabkaaDoor
