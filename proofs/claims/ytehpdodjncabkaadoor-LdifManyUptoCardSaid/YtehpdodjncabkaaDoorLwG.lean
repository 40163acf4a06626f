/- chancerybook.SameChanges: what it returns. -/
import Derived.Test.YtehpdodjncabkaaDoorLwF
import Derived.Test.YtehpdodjncabkaaDoorLwC
namespace Go.Proofs.YtehpdodjncabkaaDoor
open Go.RowKit Go.Lib

def sameL : List Chg → List Chg → Bool
  | [], [] => true
  | a :: r, b :: q => sameC a b && sameL r q
  | _, _ => false
theorem sameL_self : ∀ l : List Chg, sameL l l = true
  | [] => rfl
  | a :: l => by rw [sameL, sameL_self l, (sameC_iff a a).2 rfl]; rfl
theorem sameL_len : ∀ r q : List Chg, sameL r q = true → r.length = q.length
  | [], [], _ => rfl
  | [], _ :: _, h => by cases h
  | _ :: _, [], h => by cases h
  | a :: r, b :: q, h => by
    simp only [sameL, Bool.and_eq_true] at h
    simp [sameL_len r q h.2]
theorem ChgsAt.at {w : World} {v : Value} {cs : List Chg} (h : ChgsAt w v cs) {k : Nat} {x : Chg} (hx : cs[k]? = some x) : ∃ g o cap vA vM, v = .slice (some ⟨g, o, none⟩) cs.length cap ∧ cs.length ≤ cap ∧
    (w.cell? ⟨g, o + k * 10, none⟩ = some (.string ⟨x.time.toArray⟩) ∧ w.cell? ⟨g, o + k * 10 + 1, none⟩ = some (.string ⟨x.who.toArray⟩) ∧ w.cell? ⟨g, o + k * 10 + 2, none⟩ = some (.string ⟨x.dn.toArray⟩) ∧ w.cell? ⟨g, o + k * 10 + 3, none⟩ = some (.int .i64 x.kind) ∧ w.cell? ⟨g, o + k * 10 + 4, none⟩ = some vA ∧ w.cell? ⟨g, o + k * 10 + 5, none⟩ = some vM ∧ w.cell? ⟨g, o + k * 10 + 6, none⟩ = some (.string ⟨x.newRdn.toArray⟩) ∧ w.cell? ⟨g, o + k * 10 + 7, none⟩ = some (.string ⟨x.newSup.toArray⟩) ∧ w.cell? ⟨g, o + k * 10 + 8, none⟩ = some (.bool x.delOld) ∧ w.cell? ⟨g, o + k * 10 + 9, none⟩ = some (.bool x.hasSup)) ∧
    AttrsAt w vA x.attrs ∧ ModsAt w vM x.mods := by
  obtain ⟨a, cap, hv, hc, hr⟩ := h
  have h0 : cs ≠ [] := by rintro rfl; simp at hx
  obtain ⟨g, o, ha, hr2⟩ := hr h0
  subst ha
  obtain ⟨vA, vM, h1, h2, h3⟩ := hr2 k x hx
  exact ⟨g, o, cap, vA, vM, hv, hc, ⟨h1 0 _ rfl, h1 1 _ rfl, h1 2 _ rfl, h1 3 _ rfl, h1 4 _ rfl, h1 5 _ rfl, h1 6 _ rfl, h1 7 _ rfl, h1 8 _ rfl, h1 9 _ rfl⟩, h2, h3⟩
set_option maxRecDepth 100000 in
set_option maxHeartbeats 4000000 in
theorem SameChanges_any (v u : Value) (r q : List Chg) (w : World) (h1 : ChgsAt w v r) (h2 : ChgsAt w u q) (hl : r.length ≤ 140737488355328) (_hl2 : q.length ≤ 140737488355328) (hr : ∀ x ∈ r, LenC x) (hq : ∀ x ∈ q, LenC x) :
    Calls Tryd.prog 16 #[v, u] w fun e w' => e = .returned (.bool (sameL r q)) ∧ Below w.heap.size w w' := by
  have H1 := Lib.hid h1
  have H2 := Lib.hid h2
  have H3 := Lib.hid hr
  have H4 := Lib.hid hq
  clear hr hq
  obtain ⟨a1, c1, rfl, hc1, hx1⟩ := h1
  obtain ⟨a2, c2, rfl, hc2, hx2⟩ := h2
  clear hx1 hx2
  by_cases hlen : r.length = q.length
  · have hq : ((r.length : Int) == (q.length : Int)) = true := by rw [hlen]; simp
    have hqn : ((r.length : Int) != (q.length : Int)) = false := by rw [hlen]; simp
    obtain ⟨ANS, hA⟩ : ∃ ANS, sameL r q = ANS := ⟨_, rfl⟩
    rw [hA]
    have HA := Lib.hid hA
    clear hA
    go_enter Tryd.func16, Tryd.ntmps16
    go_wp2_with fail
    have HLEN := Lib.hid hlen
    clear hlen hq hqn
    go_loopw [5] (fun i wr => ∃ k : Nat, i = .int .i64 (k : Int) ∧ k ≤ r.length ∧ Below w.heap.size w wr ∧ sameL (r.drop k) (q.drop k) = ANS) (fun i _ => r.length - (RowKit.intOf i).toNat)
    case atStart => exact ⟨0, rfl, by omega, Below.refl _ _, HA.out⟩
    case round =>
      obtain ⟨k, rfl, hk, hbr, hans⟩ := hrel
      clear HA
      by_cases hkl : k < r.length
      · have hkl2 : k < q.length := by have := HLEN.out; omega
        obtain ⟨x, hx⟩ : ∃ x, r[k] = x := ⟨_, rfl⟩
        obtain ⟨y, hy⟩ : ∃ y, q[k] = y := ⟨_, rfl⟩
        have hxk : r[k]? = some x := by rw [List.getElem?_eq_getElem hkl, hx]
        have hyk : q[k]? = some y := by rw [List.getElem?_eq_getElem hkl2, hy]
        have hxl := H3.out x (List.mem_of_getElem? hxk)
        have hyl := H4.out y (List.mem_of_getElem? hyk)
        rw [List.drop_eq_getElem_cons hkl, hx, List.drop_eq_getElem_cons hkl2, hy] at hans
        obtain ⟨g, o, cp, vA, vM, e3, _, ⟨p0, p1, p2, p3, p4, p5, p6, p7, p8, p9⟩, hAx, hMx⟩ := (H1.out.below hbr).at hxk
        obtain ⟨g', o', cp', uA, uM, e4, _, ⟨r0, r1, r2, r3, r4, r5, r6, r7, r8, r9⟩, hAy, hMy⟩ := (H2.out.below hbr).at hyk
        cases e3
        cases e4
        clear hxk hyk hx hy
        have i1 : (k : Int) < (r.length : Int) := by omega
        have i2 : (k : Int) < (q.length : Int) := by omega
        have i3 : decide ((k : Int) < (r.length : Int)) = true := decide_eq_true i1
        have ks := fun n => Same_any x y vA vM uA uM (wr.drewN n) (hAx.drewN n) (hMx.drewN n) (hAy.drewN n) (hMy.drewN n) hxl hyl
        unfold chgA at ks
        by_cases hxy : x = y
        · have hsc : sameC x y = true := (sameC_iff _ _).2 hxy
          rw [hsc] at ks
          have hans2 : sameL (r.drop (k + 1)) (q.drop (k + 1)) = ANS := by rw [← hans, sameL, hsc, Bool.true_and]
          have HS := Lib.hid hans2
          have HXY := Lib.hid hxy
          clear hans hans2 hxy hsc
          go_wp2_with fail
          go_region_with (go_at_call 14; refine Calls.mono (show Calls _ _ _ _ _ from ks _) ?_; rintro e w3 ⟨rfl, hb3⟩)
          all_goals
            go_wp2_with fail
            exact ⟨⟨k + 1, by go_num, by omega, below_ext (below_drw hbr _) hb3, HS.out⟩, by simp [RowKit.intOf]; omega⟩
        · have hsc : sameC x y = false := by
            cases hs : sameC x y
            · rfl
            · exact absurd ((sameC_iff _ _).1 hs) hxy
          have e : ANS = false := by rw [← hans, sameL, hsc, Bool.false_and]
          subst e
          rw [hsc] at ks
          have HXY := Lib.hid hxy
          clear hans hxy hsc
          go_wp2_with fail
          go_region_with (go_at_call 14; refine Calls.mono (show Calls _ _ _ _ _ from ks _) ?_; rintro e w3 ⟨rfl, hb3⟩)
          all_goals
            go_wp2_with fail
            go_ret
            exact ⟨rfl, below_ext (below_drw hbr _) hb3⟩
      · obtain rfl : k = r.length := by omega
        have e : ANS = true := by rw [← hans, List.drop_of_length_le (Nat.le_refl _), HLEN.out, List.drop_of_length_le (Nat.le_refl _)]; rfl
        subst e
        go_wp2_with fail
        go_ret
        exact ⟨rfl, hbr⟩
  · have hq : ((r.length : Int) == (q.length : Int)) = false := by simpa using (fun e => hlen (by omega))
    have hqn : ((r.length : Int) != (q.length : Int)) = true := by simpa using (fun e => hlen (by omega))
    have e : sameL r q = false := by
      cases hs : sameL r q
      · rfl
      · exact absurd (sameL_len r q hs) hlen
    rw [e]
    go_enter Tryd.func16, Tryd.ntmps16
    go_wp2_with fail
    go_ret
    exact ⟨rfl, Below.refl _ _⟩
end Go.Proofs.YtehpdodjncabkaaDoor
