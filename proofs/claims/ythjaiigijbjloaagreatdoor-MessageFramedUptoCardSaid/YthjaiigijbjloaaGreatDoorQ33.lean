/- MgM. -/
import Derived.Test.YthjaiigijbjloaaGreatDoorQ20
namespace Go.Proofs.YthjaiigijbjloaaGreatDoor
open Go.RowKit Go.Lib
abbrev Md := Int × List UInt8 × List (List UInt8)
structure Ct where
 oid : List UInt8
 crit : Bool
 has : Bool
 value : List UInt8
def MdsM (w : World) (v : Value) (ml : List Md) : Prop :=
 ∃ a cap, v = .slice a ml.length cap ∧ ml.length ≤ cap ∧ (ml ≠ [] → ∃ g o, a = some ⟨g, o, none⟩ ∧ ∀ (j : Nat) (x : Md), ml[j]? = some x → w.cell? ⟨g, o + j * 3, none⟩ = some (.int .i64 x.1) ∧ w.cell? ⟨g, o + j * 3 + 1, none⟩ = some (.string ⟨x.2.1.toArray⟩) ∧ ∃ u, w.cell? ⟨g, o + j * 3 + 2, none⟩ = some u ∧ StrsM w u x.2.2)
theorem MdsM.below {w w' : World} {v : Value} {ml : List Md} (h : MdsM w v ml) (hb : Below w.heap.size w w') : MdsM w' v ml := by
 obtain ⟨a, cap, hv, hc, hr⟩ := h
 refine ⟨a, cap, hv, hc, fun h0 => ?_⟩
 obtain ⟨g, o, ha, hcell⟩ := hr h0
 refine ⟨g, o, ha, fun j x hj => ?_⟩
 obtain ⟨h1, h2, u, h3, h4⟩ := hcell j x hj
 exact ⟨(hb.cell (lt_of_cell h1)).trans h1, (hb.cell (lt_of_cell h2)).trans h2, u, (hb.cell (lt_of_cell h3)).trans h3, h4.below hb⟩
def CtsM (w : World) (v : Value) (cl : List Ct) : Prop :=
 ∃ a cap, v = .slice a cl.length cap ∧ cl.length ≤ cap ∧ (cl ≠ [] → ∃ g o, a = some ⟨g, o, none⟩ ∧ ∀ (j : Nat) (x : Ct), cl[j]? = some x → w.cell? ⟨g, o + j * 4, none⟩ = some (.string ⟨x.oid.toArray⟩) ∧ w.cell? ⟨g, o + j * 4 + 1, none⟩ = some (.bool x.crit) ∧ w.cell? ⟨g, o + j * 4 + 2, none⟩ = some (.bool x.has) ∧ w.cell? ⟨g, o + j * 4 + 3, none⟩ = some (.string ⟨x.value.toArray⟩))
theorem CtsM.below {w w' : World} {v : Value} {cl : List Ct} (h : CtsM w v cl) (hb : Below w.heap.size w w') : CtsM w' v cl := by
 obtain ⟨a, cap, hv, hc, hr⟩ := h
 refine ⟨a, cap, hv, hc, fun h0 => ?_⟩
 obtain ⟨g, o, ha, hcell⟩ := hr h0
 refine ⟨g, o, ha, fun j x hj => ?_⟩
 obtain ⟨h1, h2, h3, h4⟩ := hcell j x hj
 exact ⟨(hb.cell (lt_of_cell h1)).trans h1, (hb.cell (lt_of_cell h2)).trans h2, (hb.cell (lt_of_cell h3)).trans h3, (hb.cell (lt_of_cell h4)).trans h4⟩
structure Ls where
 filt : List Fl := []
 sel : List (List UInt8) := []
 mods : List Md := []
 attrs : List (List UInt8 × List (List UInt8)) := []
 ctl : List Ct := []
structure MgM (w : World) (m : Mg) (l : Ls) : Prop where
 filt : FlsM w m.filt l.filt
 sel : StrsM w m.sel l.sel
 mods : MdsM w m.mods l.mods
 attrs : AttrsM w m.attrs l.attrs
 ctl : CtsM w m.ctl l.ctl
theorem MgM.below {w w' : World} {m : Mg} {l : Ls} (h : MgM w m l) (hb : Below w.heap.size w w') : MgM w' m l :=
 ⟨h.filt.below hb, h.sel.below hb, h.mods.below hb, h.attrs.below hb, h.ctl.below hb⟩
def bareM (m : Mg) : Mg :=
 if m.op = 0 then { id := m.id, op := m.op, ctl := m.ctl, ver := m.ver, dn := m.dn, sasl := m.sasl, secret := m.secret }
 else if m.op = 3 then { id := m.id, op := m.op, ctl := m.ctl, dn := m.dn, scope := m.scope, deref := m.deref, size := m.size, time := m.time, types := m.types, filt := m.filt, sel := m.sel }
 else if m.op = 6 then { id := m.id, op := m.op, ctl := m.ctl, dn := m.dn, mods := m.mods }
 else if m.op = 8 ∨ m.op = 4 then { id := m.id, op := m.op, ctl := m.ctl, dn := m.dn, attrs := m.attrs }
 else if m.op = 10 then { id := m.id, op := m.op, ctl := m.ctl, dn := m.dn }
 else if m.op = 12 then { id := m.id, op := m.op, ctl := m.ctl, dn := m.dn, newRdn := m.newRdn, delOld := m.delOld, hasSup := m.hasSup, newSup := m.newSup }
 else if m.op = 14 then { id := m.id, op := m.op, ctl := m.ctl, dn := m.dn, typ := m.typ, value := m.value }
 else if m.op = 16 then { id := m.id, op := m.op, ctl := m.ctl, target := m.target }
 else if m.op = 23 then { id := m.id, op := m.op, ctl := m.ctl, oid := m.oid, has := m.has, value := m.value }
 else if m.op = 24 then { id := m.id, op := m.op, ctl := m.ctl, code := m.code, matched := m.matched, text := m.text, oid := m.oid, has := m.has, value := m.value }
 else if isResL.contains m.op then { id := m.id, op := m.op, ctl := m.ctl, code := m.code, matched := m.matched, text := m.text }
 else { id := m.id, op := m.op, ctl := m.ctl }
def rngB (n most : Int) : Bool := decide (0 ≤ n) && decide (n ≤ most)
def kindB (m : Mg) (l : Ls) : Bool :=
 if m.op = 0 then decide (1 ≤ m.ver) && decide (m.ver ≤ 127)
 else if m.op = 2 then true
 else if m.op = 3 then rngB m.scope 2 && rngB m.deref 3 && rngB m.size 2147483647 && rngB m.time 2147483647 && filtB l.filt
 else if m.op = 6 then l.mods.all (fun x => rngB x.1 2)
 else if m.op = 8 ∨ m.op = 4 then true
 else if m.op = 10 then true
 else if m.op = 12 then m.hasSup || decide (m.newSup = [])
 else if m.op = 14 then true
 else if m.op = 16 then rngB m.target 2147483647
 else if m.op = 23 then m.has || decide (m.value = [])
 else if m.op = 24 then rngB m.code 2147483647 && (m.has || decide (m.value = []))
 else if isResL.contains m.op then rngB m.code 2147483647
 else false
end Go.Proofs.YthjaiigijbjloaaGreatDoor
