/- chancerylaw18: light, alive, the law LdifBack. -/
import Derived.Test.YtehpdodjncabkaaDoorLdQ
import Derived.Test.YtehpdodjncabkaaDoorLwB
namespace Go.Proofs.YtehpdodjncabkaaDoor
open Go.RowKit Go.Lib

def lightC (c : Chg) : Bool := decide (c.attrs.length ≤ 200 ∧ c.mods.length ≤ 200)
def aliveR : Chg := ⟨[50, 48, 50, 52, 48, 49, 48, 49, 48, 48, 48, 48, 48, 48, 90], [], [100, 99, 61, 122], 1, [], [], [], [], false, false⟩
theorem aliveR_text : printC aliveR = ([116, 105, 109, 101, 58, 32, 50, 48, 50, 52, 48, 49, 48, 49, 48, 48, 48, 48, 48, 48, 90, 10, 119, 104, 111, 58, 58, 32, 10, 100, 110, 58, 32, 100, 99, 61, 122, 10, 99, 104, 97, 110, 103, 101, 116, 121, 112, 101, 58, 32, 100, 101, 108, 101, 116, 101, 10, 10], 0) := by decide +kernel
theorem aliveR_small : Small aliveR := ⟨by decide +kernel, by decide +kernel, by decide +kernel, fun x hx => (by cases hx), fun x hx => (by cases hx), fun _ => of_decide_eq_true (by decide +kernel)⟩
theorem alive_b64 : b64 [97, 98] = [89, 87, 73, 61] := by decide +kernel
theorem attrs_none (w : World) : AttrsAt w (.slice none 0 0) [] := ⟨none, 0, rfl, Nat.le_refl _, fun h => absurd rfl h⟩
theorem mods_none (w : World) : ModsAt w (.slice none 0 0) [] := ⟨none, 0, rfl, Nat.le_refl _, fun h => absurd rfl h⟩
set_option maxRecDepth 100000 in
set_option maxHeartbeats 2000000 in
theorem alive_any (w : World) (hE : Env w) : Calls Tryd.prog 8 #[] w fun e w' => e = .returned (.bool true) ∧ Below w.heap.size w w' := by
  have k1 := Print_any aliveR _ _ w (attrs_none w) (mods_none w) hE aliveR_small
  rw [aliveR_text] at k1
  simp only [chgA, aliveR] at k1
  go_enter Tryd.func8, Tryd.ntmps8
  go_wp2_with (first | (go_at_call 10; refine Calls.mono (show Calls _ _ _ _ _ from k1) ?_; rintro e w1 ⟨rfl, hb1⟩; have k2 := Base64_any [97, 98] w1 (by decide); rw [alive_b64] at k2) | (go_at_call 17; refine Calls.mono (show Calls _ _ _ _ _ from k2) ?_; rintro e w2 ⟨rfl, hb2⟩))
  go_ret
  exact ⟨rfl, below_ext hb1 hb2⟩
set_option maxRecDepth 100000 in
set_option maxHeartbeats 2000000 in
theorem light_any (c : Chg) (vA vM : Value) (w : World) (hA : AttrsAt w vA c.attrs) (hM : ModsAt w vM c.mods) :
    Calls Tryd.prog 7 #[.agg (chgA c vA vM)] w fun e w' => e = .returned (.bool (lightC c)) ∧ Below w.heap.size w w' := by
  obtain ⟨aA, cA, rfl, _⟩ := hA
  obtain ⟨aM, cM, rfl, _⟩ := hM
  obtain ⟨time, who, dn, kind, attrs, mods, newRdn, newSup, delOld, hasSup⟩ := c
  unfold chgA lightC
  simp only
  have hb1 : Below w.heap.size w (w.alloc (.cells #[.string ⟨time.toArray⟩, .string ⟨who.toArray⟩, .string ⟨dn.toArray⟩, .int .i64 kind, .slice aA attrs.length cA, .slice aM mods.length cM, .string ⟨newRdn.toArray⟩, .string ⟨newSup.toArray⟩, .bool delOld, .bool hasSup] 25)) := (Below.refl _ _).alloc (Nat.le_refl _) _
  have hk1 : (w.alloc (.cells #[.string ⟨time.toArray⟩, .string ⟨who.toArray⟩, .string ⟨dn.toArray⟩, .int .i64 kind, .slice aA attrs.length cA, .slice aM mods.length cM, .string ⟨newRdn.toArray⟩, .string ⟨newSup.toArray⟩, .bool delOld, .bool hasSup] 25)).heap[w.heap.size]? = some (.cells #[.string ⟨time.toArray⟩, .string ⟨who.toArray⟩, .string ⟨dn.toArray⟩, .int .i64 kind, .slice aA attrs.length cA, .slice aM mods.length cM, .string ⟨newRdn.toArray⟩, .string ⟨newSup.toArray⟩, .bool delOld, .bool hasSup] 25 (0, 0)) := alloc_at _ _ _ rfl
  obtain ⟨⟨c0, c1, c2, c3, c4, c5, c6, c7, c8, c9⟩, _⟩ := ten_cells hk1
  by_cases h1 : attrs.length ≤ 200
  · have g1 : decide ((attrs.length : Int) ≤ 200) = true := decide_eq_true (by omega)
    by_cases h2 : mods.length ≤ 200
    · have g2 : decide ((mods.length : Int) ≤ 200) = true := decide_eq_true (by omega)
      rw [decide_eq_true (show attrs.length ≤ 200 ∧ mods.length ≤ 200 from ⟨h1, h2⟩)]
      go_enter Tryd.func7, Tryd.ntmps7
      go_wp2_with fail
      go_ret
      exact ⟨rfl, hb1⟩
    · have g2 : decide ((mods.length : Int) ≤ 200) = false := decide_eq_false (by omega)
      rw [decide_eq_false (show ¬ (attrs.length ≤ 200 ∧ mods.length ≤ 200) by omega)]
      go_enter Tryd.func7, Tryd.ntmps7
      go_wp2_with fail
      go_ret
      exact ⟨rfl, hb1⟩
  · have g1 : decide ((attrs.length : Int) ≤ 200) = false := decide_eq_false (by omega)
    rw [decide_eq_false (show ¬ (attrs.length ≤ 200 ∧ mods.length ≤ 200) by omega)]
    go_enter Tryd.func7, Tryd.ntmps7
    go_wp2_with fail
    go_ret
    exact ⟨rfl, hb1⟩
theorem printC_empty {c : Chg} (h : (printC c).2 ≠ 0) : (printC c).1 = [] := by
  revert h
  unfold printC
  split
  · intro _; rfl
  · split
    · intro _; rfl
    · intro h; exact absurd rfl h
theorem Small.len {c : Chg} (h : Small c) : LenC c :=
  ⟨Nat.le_trans h.2.1 (by decide), Nat.le_trans h.2.2.1 (by decide), fun x hx => Nat.le_trans (h.2.2.2.1 x hx).2.1 (by decide), fun x hx => Nat.le_trans (h.2.2.2.2.1 x hx).2.1 (by decide)⟩
def LbArgs (vA vM uA uM : Value) (c d : Chg) (w w' : World) : Prop :=
  w'.heap[w.heap.size]? = some (.cells (chgA c vA vM) 25 (0, 0)) ∧ w'.heap[w.heap.size + 1]? = some (.cells (chgA d uA uM) 25 (0, 0)) ∧ Below w.heap.size w w'
theorem LbArgs.on {vA vM uA uM : Value} {c d : Chg} {w w1 w2 : World} (h : LbArgs vA vM uA uM c d w w1) (hb : Below w1.heap.size w1 w2) : LbArgs vA vM uA uM c d w w2 := by
  obtain ⟨h1, h2, h3⟩ := h
  exact ⟨(hb.block _ (Array.getElem?_eq_some_iff.1 h1).1).trans h1, (hb.block _ (Array.getElem?_eq_some_iff.1 h2).1).trans h2, below_ext h3 hb⟩
theorem LbArgs.cells {vA vM uA uM : Value} {c d : Chg} {w w1 : World} (h : LbArgs vA vM uA uM c d w w1) :
    (w1.cell? ⟨w.heap.size, 0, none⟩ = some (.string ⟨c.time.toArray⟩) ∧ w1.cell? ⟨w.heap.size, 1, none⟩ = some (.string ⟨c.who.toArray⟩) ∧ w1.cell? ⟨w.heap.size, 2, none⟩ = some (.string ⟨c.dn.toArray⟩) ∧ w1.cell? ⟨w.heap.size, 3, none⟩ = some (.int .i64 c.kind) ∧ w1.cell? ⟨w.heap.size, 4, none⟩ = some vA ∧ w1.cell? ⟨w.heap.size, 5, none⟩ = some vM ∧ w1.cell? ⟨w.heap.size, 6, none⟩ = some (.string ⟨c.newRdn.toArray⟩) ∧ w1.cell? ⟨w.heap.size, 7, none⟩ = some (.string ⟨c.newSup.toArray⟩) ∧ w1.cell? ⟨w.heap.size, 8, none⟩ = some (.bool c.delOld) ∧ w1.cell? ⟨w.heap.size, 9, none⟩ = some (.bool c.hasSup)) ∧
    (w1.cell? ⟨w.heap.size + 1, 0, none⟩ = some (.string ⟨d.time.toArray⟩) ∧ w1.cell? ⟨w.heap.size + 1, 1, none⟩ = some (.string ⟨d.who.toArray⟩) ∧ w1.cell? ⟨w.heap.size + 1, 2, none⟩ = some (.string ⟨d.dn.toArray⟩) ∧ w1.cell? ⟨w.heap.size + 1, 3, none⟩ = some (.int .i64 d.kind) ∧ w1.cell? ⟨w.heap.size + 1, 4, none⟩ = some uA ∧ w1.cell? ⟨w.heap.size + 1, 5, none⟩ = some uM ∧ w1.cell? ⟨w.heap.size + 1, 6, none⟩ = some (.string ⟨d.newRdn.toArray⟩) ∧ w1.cell? ⟨w.heap.size + 1, 7, none⟩ = some (.string ⟨d.newSup.toArray⟩) ∧ w1.cell? ⟨w.heap.size + 1, 8, none⟩ = some (.bool d.delOld) ∧ w1.cell? ⟨w.heap.size + 1, 9, none⟩ = some (.bool d.hasSup)) :=
  ⟨(ten_cells h.1).1, (ten_cells h.2.1).1⟩
end Go.Proofs.YtehpdodjncabkaaDoor
