/- chanceryref4.Same, SameRdn: what they return. -/
import Derived.Test.YtegigcneimjimaaGreatDoorDnN
import Derived.StillTailTactics
namespace Go.Proofs.YtegigcneimjimaaGreatDoor
open Go.RowKit Go.Lib

set_option maxRecDepth 100000 in
set_option maxHeartbeats 4000000 in
theorem SameRdn_any (v u : Value) (r q : List Av) (w : World) (h1 : AvsAt w v r) (h2 : AvsAt w u q) (hl : r.length ≤ 140737488355328) (_hl2 : q.length ≤ 140737488355328) :
    Calls Tryz.prog 120 #[v, u] w fun e w' => e = .returned (.bool (decide (r = q))) ∧ Below w.heap.size w w' := by
  have H1 := Lib.hid h1
  have H2 := Lib.hid h2
  obtain ⟨a1, c1, rfl, hc1, hx1⟩ := h1
  obtain ⟨a2, c2, rfl, hc2, hx2⟩ := h2
  clear hx1 hx2
  by_cases hlen : r.length = q.length
  · have hq : ((r.length : Int) == (q.length : Int)) = true := by rw [beq_nat]; simpa using hlen
    obtain ⟨ANS, hA⟩ : ∃ ANS, decide (r = q) = ANS := ⟨_, rfl⟩
    rw [hA]
    have HA := Lib.hid hA
    clear hA
    go_enter Tryz.func120, Tryz.ntmps120
    go_wp2_with fail
    go_loopw [5] (fun i wr => ∃ k : Nat, i = .int .i64 (k : Int) ∧ k ≤ r.length ∧ Below w.heap.size w wr ∧ decide (r.drop k = q.drop k) = ANS) (fun i _ => r.length - (RowKit.intOf i).toNat)
    case atStart => exact ⟨0, rfl, by omega, Below.refl _ _, HA.out⟩
    case round =>
      obtain ⟨k, rfl, hk, hbe, hans⟩ := hrel
      clear HA
      by_cases hkl : k < r.length
      · have hkl2 : k < q.length := by omega
        obtain ⟨x, hx⟩ : ∃ x, r[k] = x := ⟨_, rfl⟩
        obtain ⟨y, hy⟩ : ∃ y, q[k] = y := ⟨_, rfl⟩
        have hxk : r[k]? = some x := by rw [List.getElem?_eq_getElem hkl, hx]
        have hyk : q[k]? = some y := by rw [List.getElem?_eq_getElem hkl2, hy]
        have hr0 : r ≠ [] := by intro e; rw [e] at hkl; simp at hkl
        have hq0 : q ≠ [] := by intro e; rw [e] at hkl2; simp at hkl2
        rw [List.drop_eq_getElem_cons hkl, hx, List.drop_eq_getElem_cons hkl2, hy] at hans
        obtain ⟨a3, cap3, e3, _, hcell⟩ := H1.out.below hbe
        obtain ⟨g, o, ha, hcc⟩ := hcell hr0
        obtain ⟨a4, cap4, e4, _, hcell4⟩ := H2.out.below hbe
        obtain ⟨g', o', ha', hcc'⟩ := hcell4 hq0
        cases e3
        cases e4
        subst ha ha'
        obtain ⟨p1, p2⟩ := hcc k x hxk
        obtain ⟨p3, p4⟩ := hcc' k y hyk
        rw [Nat.mul_comm] at p1 p2 p3 p4
        clear hcc hcell hcc' hcell4 hxk hyk hx hy
        have i1 : (k : Int) < (r.length : Int) := by omega
        have i2 : (k : Int) < (q.length : Int) := by omega
        by_cases hxy : x = y
        · subst hxy
          have hans2 : decide (r.drop (k + 1) = q.drop (k + 1)) = ANS := by rw [← hans]; exact decide_eq_decide.2 (by simp)
          have HS := Lib.hid hans2
          clear hans hans2
          go_wp2
          go_quiet (fail)
          go_wp2
          exact ⟨⟨k + 1, by go_num, by omega, Below.drewN hbe _, HS.out⟩, by simp [RowKit.intOf]; omega⟩
        · have e : ANS = false := by rw [← hans]; exact decide_eq_false (fun e => hxy (List.cons.inj e).1)
          subst e
          clear hans
          by_cases h1 : x.1 = y.1
          · have h2 : x.2 ≠ y.2 := fun e => hxy (Prod.ext h1 e)
            have b1 : (x.1 == y.1) = true := by simpa using h1
            have b2 : (x.2 == y.2) = false := by simpa using h2
            clear h1 h2 hxy
            go_wp2
            go_quiet (fail)
            go_wp2
            go_ret
            exact ⟨rfl, Below.drewN hbe _⟩
          · have b1 : (x.1 == y.1) = false := by simpa using h1
            clear h1 hxy
            go_wp2
            go_quiet (fail)
            go_wp2
            go_ret
            exact ⟨rfl, Below.drewN hbe _⟩
      · obtain rfl : k = r.length := by omega
        have e : ANS = true := by rw [← hans, List.drop_of_length_le (Nat.le_refl _), hlen, List.drop_of_length_le (Nat.le_refl _)]; rfl
        subst e
        go_wp2_with fail
        go_ret
        exact ⟨rfl, hbe⟩
  · have hq : ((r.length : Int) == (q.length : Int)) = false := by rw [beq_nat]; simpa using hlen
    have e : decide (r = q) = false := decide_eq_false (fun e => hlen (by rw [e]))
    rw [e]
    go_enter Tryz.func120, Tryz.ntmps120
    go_wp2_with fail
    go_ret
    exact ⟨rfl, Below.refl _ _⟩
set_option maxRecDepth 100000 in
set_option maxHeartbeats 4000000 in
theorem Same_any (v u : Value) (r q : List (List Av)) (w : World) (h1 : DnAt w v r) (h2 : DnAt w u q) (hl : r.length ≤ 140737488355328) (_hl2 : q.length ≤ 140737488355328) (hr : ∀ x ∈ r, x.length ≤ 140737488355328) (hq : ∀ x ∈ q, x.length ≤ 140737488355328) :
    Calls Tryz.prog 18 #[v, u] w fun e w' => e = .returned (.bool (decide (r = q))) ∧ Below w.heap.size w w' := by
  have H1 := Lib.hid h1
  have H2 := Lib.hid h2
  have H3 := Lib.hid hr
  have H4 := Lib.hid hq
  clear hr hq
  obtain ⟨a1, c1, rfl, hc1, hx1⟩ := h1
  obtain ⟨a2, c2, rfl, hc2, hx2⟩ := h2
  clear hx1 hx2
  by_cases hlen : r.length = q.length
  · rw [← hlen]
    have HL := Lib.hid hlen
    clear hlen
    obtain ⟨ANS, hA⟩ : ∃ ANS, decide (r = q) = ANS := ⟨_, rfl⟩
    rw [hA]
    have HA := Lib.hid hA
    clear hA
    go_enter Tryz.func18, Tryz.ntmps18
    go_wp2_with fail
    go_loopw [5] (fun i wr => ∃ k : Nat, i = .int .i64 (k : Int) ∧ k ≤ r.length ∧ Below w.heap.size w wr ∧ decide (r.drop k = q.drop k) = ANS) (fun i _ => r.length - (RowKit.intOf i).toNat)
    case atStart => exact ⟨0, rfl, by omega, Below.refl _ _, HA.out⟩
    case round =>
      obtain ⟨k, rfl, hk, hbe, hans⟩ := hrel
      clear HA
      by_cases hkl : k < r.length
      · have hkl2 : k < q.length := by have := HL.out; omega
        obtain ⟨x, hx⟩ : ∃ x, r[k] = x := ⟨_, rfl⟩
        obtain ⟨y, hy⟩ : ∃ y, q[k] = y := ⟨_, rfl⟩
        have hxk : r[k]? = some x := by rw [List.getElem?_eq_getElem hkl, hx]
        have hyk : q[k]? = some y := by rw [List.getElem?_eq_getElem hkl2, hy]
        have hr0 : r ≠ [] := by intro e; rw [e] at hkl; simp at hkl
        have hq0 : q ≠ [] := by intro e; rw [e] at hkl2; simp at hkl2
        have hxl := H3.out x (List.mem_of_getElem? hxk)
        have hyl := H4.out y (List.mem_of_getElem? hyk)
        rw [List.drop_eq_getElem_cons hkl, hx, List.drop_eq_getElem_cons hkl2, hy] at hans
        obtain ⟨a3, cap3, e3, _, hcell⟩ := H1.out.below hbe
        obtain ⟨g, o, ha, hcc⟩ := hcell hr0
        obtain ⟨a4, cap4, e4, _, hcell4⟩ := H2.out.below hbe
        obtain ⟨g', o', ha', hcc'⟩ := hcell4 hq0
        cases e3
        cases e4
        subst ha ha'
        obtain ⟨z1, p1, p2⟩ := hcc k x hxk
        obtain ⟨z2, p3, p4⟩ := hcc' k y hyk
        clear hcc hcell hcc' hcell4 hxk hyk hx hy
        have i1 : (k : Int) < (r.length : Int) := by omega
        have i3 : decide ((k : Int) < (r.length : Int)) = true := decide_eq_true i1
        have ks := SameRdn_any z1 z2 x y wr.drew (p2.below (Below.drew (Below.refl _ _))) (p4.below (Below.drew (Below.refl _ _))) hxl hyl
        obtain ⟨b1, d1, e5, _, _⟩ := p2
        obtain ⟨b2, d2, e6, _, _⟩ := p4
        subst e5 e6
        have hbe2 : Below w.heap.size w wr.drew := hbe.drew
        by_cases hxy : x = y
        · subst hxy
          rw [decide_eq_true rfl] at ks
          have hans2 : decide (r.drop (k + 1) = q.drop (k + 1)) = ANS := by rw [← hans]; exact decide_eq_decide.2 (by simp)
          have HS := Lib.hid hans2
          clear hans hans2
          go_wp2
          go_still_tail 8, (by kernel_rfl)
          change wpList _ _ _ _ _ wr.drew
          generalize wr.drew = wd at ks hbe2 ⊢
          go_wp2_with (go_at_call 120; refine Calls.mono (show Calls _ _ _ _ _ from ks) ?_; rintro e w2 ⟨rfl, hb2⟩)
          go_roundw
          case rel => exact ⟨k + 1, by go_num, by omega, below_ext hbe2 hb2, HS.out⟩
          case measure => simp [RowKit.intOf]; omega
        · have e : ANS = false := by rw [← hans]; exact decide_eq_false (fun e => hxy (List.cons.inj e).1)
          subst e
          rw [decide_eq_false hxy] at ks
          clear hans
          go_wp2
          go_still_tail 8, (by kernel_rfl)
          change wpList _ _ _ _ _ wr.drew
          generalize wr.drew = wd at ks hbe2 ⊢
          go_wp2_with (go_at_call 120; refine Calls.mono (show Calls _ _ _ _ _ from ks) ?_; rintro e w2 ⟨rfl, hb2⟩)
          go_ret
          exact ⟨rfl, below_ext hbe2 hb2⟩
      · obtain rfl : k = r.length := by omega
        have e : ANS = true := by rw [← hans, List.drop_of_length_le (Nat.le_refl _), HL.out, List.drop_of_length_le (Nat.le_refl _)]; rfl
        subst e
        go_wp2_with fail
        go_ret
        exact ⟨rfl, hbe⟩
  · have hq : ((r.length : Int) == (q.length : Int)) = false := by rw [beq_nat]; simpa using hlen
    have e : decide (r = q) = false := decide_eq_false (fun e => hlen (by rw [e]))
    rw [e]
    go_enter Tryz.func18, Tryz.ntmps18
    go_wp2_with fail
    go_ret
    exact ⟨rfl, Below.refl _ _⟩
end Go.Proofs.YtegigcneimjimaaGreatDoor
