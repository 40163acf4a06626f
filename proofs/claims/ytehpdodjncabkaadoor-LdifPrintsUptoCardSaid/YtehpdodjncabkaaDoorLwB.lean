/- chanceryref18.Same: what it returns. (Written by gensame.py.) -/
import Derived.Test.YtehpdodjncabkaaDoorLwA
import Derived.Test.YtehpdodjncabkaaDoorLdU
namespace Go.Proofs.YtehpdodjncabkaaDoor
open Go.RowKit Go.Lib

def sameC (c d : Chg) : Bool := decide (c.time = d.time ∧ c.who = d.who ∧ c.dn = d.dn ∧ c.kind = d.kind ∧ c.attrs = d.attrs ∧ c.mods = d.mods ∧ c.newRdn = d.newRdn ∧ c.newSup = d.newSup ∧ c.delOld = d.delOld ∧ c.hasSup = d.hasSup)
theorem sameC_iff (c d : Chg) : sameC c d = true ↔ c = d := by
  obtain ⟨a0, a1, a2, a3, a4, a5, a6, a7, a8, a9⟩ := c
  obtain ⟨b0, b1, b2, b3, b4, b5, b6, b7, b8, b9⟩ := d
  simp [sameC]
theorem below_drw {B : Nat} {a w : World} (h : Below B a w) (n : Nat) : Below B a (w.drewN n) := ⟨h.os, h.tape, h.output, h.size, h.block⟩
def LenC (c : Chg) : Prop := c.attrs.length ≤ 140737488355328 ∧ c.mods.length ≤ 140737488355328 ∧ (∀ x ∈ c.attrs, x.2.length ≤ 140737488355328) ∧ (∀ x ∈ c.mods, x.2.2.length ≤ 140737488355328)
set_option maxRecDepth 100000 in
set_option maxHeartbeats 8000000 in
theorem Same_any (c d : Chg) (vA vM uA uM : Value) (w : World) (hA : AttrsAt w vA c.attrs) (hM : ModsAt w vM c.mods) (hA2 : AttrsAt w uA d.attrs) (hM2 : ModsAt w uM d.mods) (hl : LenC c) (hl2 : LenC d) :
    Calls Tryd.prog 14 #[.agg (chgA c vA vM), .agg (chgA d uA uM)] w fun e w' => e = .returned (.bool (sameC c d)) ∧ Below w.heap.size w w' := by
  obtain ⟨ANS, hANS⟩ : ∃ b, sameC c d = b := ⟨_, rfl⟩
  rw [hANS]
  unfold sameC at hANS
  have HS := Lib.hid hANS
  clear hANS
  unfold chgA
  have hb1 : Below w.heap.size w (w.alloc (.cells #[.string ⟨c.time.toArray⟩, .string ⟨c.who.toArray⟩, .string ⟨c.dn.toArray⟩, .int .i64 c.kind, vA, vM, .string ⟨c.newRdn.toArray⟩, .string ⟨c.newSup.toArray⟩, .bool c.delOld, .bool c.hasSup] 25)) := (Below.refl _ _).alloc (Nat.le_refl _) _
  obtain ⟨w1, hw1⟩ : ∃ x, w.alloc (.cells #[.string ⟨c.time.toArray⟩, .string ⟨c.who.toArray⟩, .string ⟨c.dn.toArray⟩, .int .i64 c.kind, vA, vM, .string ⟨c.newRdn.toArray⟩, .string ⟨c.newSup.toArray⟩, .bool c.delOld, .bool c.hasSup] 25) = x := ⟨_, rfl⟩
  have hk1 : w1.heap[w.heap.size]? = some (.cells #[.string ⟨c.time.toArray⟩, .string ⟨c.who.toArray⟩, .string ⟨c.dn.toArray⟩, .int .i64 c.kind, vA, vM, .string ⟨c.newRdn.toArray⟩, .string ⟨c.newSup.toArray⟩, .bool c.delOld, .bool c.hasSup] 25 (0, 0)) := by rw [← hw1]; exact alloc_at _ _ _ rfl
  have hs1 : w1.heap.size = w.heap.size + 1 := by rw [← hw1]; simp
  rw [hw1] at hb1
  obtain ⟨w2, hw2⟩ : ∃ x, w1.alloc (.cells #[.string ⟨d.time.toArray⟩, .string ⟨d.who.toArray⟩, .string ⟨d.dn.toArray⟩, .int .i64 d.kind, uA, uM, .string ⟨d.newRdn.toArray⟩, .string ⟨d.newSup.toArray⟩, .bool d.delOld, .bool d.hasSup] 25) = x := ⟨_, rfl⟩
  have hk2 : w2.heap[w1.heap.size]? = some (.cells #[.string ⟨d.time.toArray⟩, .string ⟨d.who.toArray⟩, .string ⟨d.dn.toArray⟩, .int .i64 d.kind, uA, uM, .string ⟨d.newRdn.toArray⟩, .string ⟨d.newSup.toArray⟩, .bool d.delOld, .bool d.hasSup] 25 (0, 0)) := by rw [← hw2]; exact alloc_at _ _ _ rfl
  have hk3 : w2.heap[w.heap.size]? = some (.cells #[.string ⟨c.time.toArray⟩, .string ⟨c.who.toArray⟩, .string ⟨c.dn.toArray⟩, .int .i64 c.kind, vA, vM, .string ⟨c.newRdn.toArray⟩, .string ⟨c.newSup.toArray⟩, .bool c.delOld, .bool c.hasSup] 25 (0, 0)) := by rw [← hw2]; exact (Lib.alloc_old _ _ _ (by omega)).trans hk1
  have hb2 : Below w.heap.size w w2 := by rw [← hw2]; exact hb1.alloc (by omega) _
  rw [hs1] at hk2
  obtain ⟨⟨c0, c1, c2, c3, c4, c5, c6, c7, c8, c9⟩, _⟩ := ten_cells hk3
  obtain ⟨⟨d0, d1, d2, d3, d4, d5, d6, d7, d8, d9⟩, _⟩ := ten_cells hk2
  have ka := SameAttrs_any vA uA c.attrs d.attrs w2 (hA.below hb2) (hA2.below hb2) hl.1 hl2.1 hl.2.2.1 hl2.2.2.1
  have km := fun n => SameMods_any vM uM c.mods d.mods (w2.drewN n) ((hM.below hb2).drewN n) ((hM2.below hb2).drewN n) hl.2.1 hl2.2.1 hl.2.2.2 hl2.2.2.2
  clear hA hM hA2 hM2 hl hl2 hk1 hk2 hk3
  clear hs1 hb1
  subst hw2
  subst hw1
  go_enter Tryd.func14, Tryd.ntmps14
  by_cases e0 : c.time = d.time
  · have g0 : (c.time == d.time) = true := by simpa using e0
    by_cases e1 : c.who = d.who
    · have g1 : (c.who == d.who) = true := by simpa using e1
      by_cases e2 : c.dn = d.dn
      · have g2 : (c.dn == d.dn) = true := by simpa using e2
        by_cases e3 : c.kind = d.kind
        · have g3 : (c.kind == d.kind) = true := by simpa using e3
          by_cases e4 : c.attrs = d.attrs
          · rw [decide_eq_true e4] at ka
            by_cases e5 : c.mods = d.mods
            · rw [decide_eq_true e5] at km
              by_cases e6 : c.newRdn = d.newRdn
              · have g6 : (c.newRdn == d.newRdn) = true := by simpa using e6
                by_cases e7 : c.newSup = d.newSup
                · have g7 : (c.newSup == d.newSup) = true := by simpa using e7
                  by_cases e8 : c.delOld = d.delOld
                  · have g8 : (c.delOld == d.delOld) = true := by simpa using e8
                    by_cases e9 : c.hasSup = d.hasSup
                    · have g9 : (c.hasSup == d.hasSup) = true := by simpa using e9
                      have hT : ANS = true := by rw [← HS.out]; exact decide_eq_true ⟨e0, e1, e2, e3, e4, e5, e6, e7, e8, e9⟩
                      subst hT
                      clear HS e0 e1 e2 e3 e4 e5 e6 e7 e8 e9
                      go_wp2_with (first | (go_at_call 37; refine Calls.mono (show Calls _ _ _ _ _ from ka) ?_; rintro e w3 ⟨rfl, m, rfl⟩) | (go_at_call 38; refine Calls.mono (show Calls _ _ _ _ _ from km _) ?_; rintro e w4 ⟨rfl, m2, rfl⟩))
                      go_ret
                      first | exact ⟨rfl, hb2⟩ | exact ⟨rfl, below_drw hb2 _⟩ | exact ⟨rfl, below_drw (below_drw hb2 _) _⟩
                    · have g9 : (c.hasSup == d.hasSup) = false := by simpa using e9
                      have hF : ANS = false := by rw [← HS.out]; exact decide_eq_false (fun h => e9 h.2.2.2.2.2.2.2.2.2)
                      subst hF
                      clear HS e0 e1 e2 e3 e4 e5 e6 e7 e8 e9
                      go_wp2_with (first | (go_at_call 37; refine Calls.mono (show Calls _ _ _ _ _ from ka) ?_; rintro e w3 ⟨rfl, m, rfl⟩) | (go_at_call 38; refine Calls.mono (show Calls _ _ _ _ _ from km _) ?_; rintro e w4 ⟨rfl, m2, rfl⟩))
                      go_ret
                      first | exact ⟨rfl, hb2⟩ | exact ⟨rfl, below_drw hb2 _⟩ | exact ⟨rfl, below_drw (below_drw hb2 _) _⟩
                  · have g8 : (c.delOld == d.delOld) = false := by simpa using e8
                    have hF : ANS = false := by rw [← HS.out]; exact decide_eq_false (fun h => e8 h.2.2.2.2.2.2.2.2.1)
                    subst hF
                    clear HS e0 e1 e2 e3 e4 e5 e6 e7 e8
                    go_wp2_with (first | (go_at_call 37; refine Calls.mono (show Calls _ _ _ _ _ from ka) ?_; rintro e w3 ⟨rfl, m, rfl⟩) | (go_at_call 38; refine Calls.mono (show Calls _ _ _ _ _ from km _) ?_; rintro e w4 ⟨rfl, m2, rfl⟩))
                    go_ret
                    first | exact ⟨rfl, hb2⟩ | exact ⟨rfl, below_drw hb2 _⟩ | exact ⟨rfl, below_drw (below_drw hb2 _) _⟩
                · have g7 : (c.newSup == d.newSup) = false := by simpa using e7
                  have hF : ANS = false := by rw [← HS.out]; exact decide_eq_false (fun h => e7 h.2.2.2.2.2.2.2.1)
                  subst hF
                  clear HS e0 e1 e2 e3 e4 e5 e6 e7
                  go_wp2_with (first | (go_at_call 37; refine Calls.mono (show Calls _ _ _ _ _ from ka) ?_; rintro e w3 ⟨rfl, m, rfl⟩) | (go_at_call 38; refine Calls.mono (show Calls _ _ _ _ _ from km _) ?_; rintro e w4 ⟨rfl, m2, rfl⟩))
                  go_ret
                  first | exact ⟨rfl, hb2⟩ | exact ⟨rfl, below_drw hb2 _⟩ | exact ⟨rfl, below_drw (below_drw hb2 _) _⟩
              · have g6 : (c.newRdn == d.newRdn) = false := by simpa using e6
                have hF : ANS = false := by rw [← HS.out]; exact decide_eq_false (fun h => e6 h.2.2.2.2.2.2.1)
                subst hF
                clear HS e0 e1 e2 e3 e4 e5 e6
                go_wp2_with (first | (go_at_call 37; refine Calls.mono (show Calls _ _ _ _ _ from ka) ?_; rintro e w3 ⟨rfl, m, rfl⟩) | (go_at_call 38; refine Calls.mono (show Calls _ _ _ _ _ from km _) ?_; rintro e w4 ⟨rfl, m2, rfl⟩))
                go_ret
                first | exact ⟨rfl, hb2⟩ | exact ⟨rfl, below_drw hb2 _⟩ | exact ⟨rfl, below_drw (below_drw hb2 _) _⟩
            · rw [decide_eq_false e5] at km
              have hF : ANS = false := by rw [← HS.out]; exact decide_eq_false (fun h => e5 h.2.2.2.2.2.1)
              subst hF
              clear HS e0 e1 e2 e3 e4 e5
              go_wp2_with (first | (go_at_call 37; refine Calls.mono (show Calls _ _ _ _ _ from ka) ?_; rintro e w3 ⟨rfl, m, rfl⟩) | (go_at_call 38; refine Calls.mono (show Calls _ _ _ _ _ from km _) ?_; rintro e w4 ⟨rfl, m2, rfl⟩))
              go_ret
              first | exact ⟨rfl, hb2⟩ | exact ⟨rfl, below_drw hb2 _⟩ | exact ⟨rfl, below_drw (below_drw hb2 _) _⟩
          · rw [decide_eq_false e4] at ka
            have hF : ANS = false := by rw [← HS.out]; exact decide_eq_false (fun h => e4 h.2.2.2.2.1)
            subst hF
            clear HS e0 e1 e2 e3 e4
            go_wp2_with (first | (go_at_call 37; refine Calls.mono (show Calls _ _ _ _ _ from ka) ?_; rintro e w3 ⟨rfl, m, rfl⟩) | (go_at_call 38; refine Calls.mono (show Calls _ _ _ _ _ from km _) ?_; rintro e w4 ⟨rfl, m2, rfl⟩))
            go_ret
            first | exact ⟨rfl, hb2⟩ | exact ⟨rfl, below_drw hb2 _⟩ | exact ⟨rfl, below_drw (below_drw hb2 _) _⟩
        · have g3 : (c.kind == d.kind) = false := by simpa using e3
          have hF : ANS = false := by rw [← HS.out]; exact decide_eq_false (fun h => e3 h.2.2.2.1)
          subst hF
          clear HS e0 e1 e2 e3
          go_wp2_with (first | (go_at_call 37; refine Calls.mono (show Calls _ _ _ _ _ from ka) ?_; rintro e w3 ⟨rfl, m, rfl⟩) | (go_at_call 38; refine Calls.mono (show Calls _ _ _ _ _ from km _) ?_; rintro e w4 ⟨rfl, m2, rfl⟩))
          go_ret
          first | exact ⟨rfl, hb2⟩ | exact ⟨rfl, below_drw hb2 _⟩ | exact ⟨rfl, below_drw (below_drw hb2 _) _⟩
      · have g2 : (c.dn == d.dn) = false := by simpa using e2
        have hF : ANS = false := by rw [← HS.out]; exact decide_eq_false (fun h => e2 h.2.2.1)
        subst hF
        clear HS e0 e1 e2
        go_wp2_with (first | (go_at_call 37; refine Calls.mono (show Calls _ _ _ _ _ from ka) ?_; rintro e w3 ⟨rfl, m, rfl⟩) | (go_at_call 38; refine Calls.mono (show Calls _ _ _ _ _ from km _) ?_; rintro e w4 ⟨rfl, m2, rfl⟩))
        go_ret
        first | exact ⟨rfl, hb2⟩ | exact ⟨rfl, below_drw hb2 _⟩ | exact ⟨rfl, below_drw (below_drw hb2 _) _⟩
    · have g1 : (c.who == d.who) = false := by simpa using e1
      have hF : ANS = false := by rw [← HS.out]; exact decide_eq_false (fun h => e1 h.2.1)
      subst hF
      clear HS e0 e1
      go_wp2_with (first | (go_at_call 37; refine Calls.mono (show Calls _ _ _ _ _ from ka) ?_; rintro e w3 ⟨rfl, m, rfl⟩) | (go_at_call 38; refine Calls.mono (show Calls _ _ _ _ _ from km _) ?_; rintro e w4 ⟨rfl, m2, rfl⟩))
      go_ret
      first | exact ⟨rfl, hb2⟩ | exact ⟨rfl, below_drw hb2 _⟩ | exact ⟨rfl, below_drw (below_drw hb2 _) _⟩
  · have g0 : (c.time == d.time) = false := by simpa using e0
    have hF : ANS = false := by rw [← HS.out]; exact decide_eq_false (fun h => e0 h.1)
    subst hF
    clear HS e0
    go_wp2_with (first | (go_at_call 37; refine Calls.mono (show Calls _ _ _ _ _ from ka) ?_; rintro e w3 ⟨rfl, m, rfl⟩) | (go_at_call 38; refine Calls.mono (show Calls _ _ _ _ _ from km _) ?_; rintro e w4 ⟨rfl, m2, rfl⟩))
    go_ret
    first | exact ⟨rfl, hb2⟩ | exact ⟨rfl, below_drw hb2 _⟩ | exact ⟨rfl, below_drw (below_drw hb2 _) _⟩
end Go.Proofs.YtehpdodjncabkaaDoor
