/- dn.tooLong: what it returns; lists that hold one that fits. -/
import Derived.Test.YtegigcneimjimaaGreatDoorDnN
namespace Go.Proofs.YtegigcneimjimaaGreatDoor
open Go.RowKit Go.Lib

set_option maxRecDepth 100000 in
set_option maxHeartbeats 4000000 in
theorem long1_index (v : Value) (r : List Av) (w : World) (h : AvsAt w v r) (hl : r.length ≤ 140737488355328) (p : Av → Bool) (hp : ∀ x ∈ r, ∀ w1, Below w.heap.size w w1 → Calls Tryz.prog 203 #[.agg #[.string ⟨x.1.toArray⟩, .string ⟨x.2.toArray⟩]] w1 fun e w' => e = .returned (.bool (p x)) ∧ Below w1.heap.size w1 w') :
    Calls Tryz.prog 207 #[v, .func (.func 203) #[] #[]] w fun e w' => (∃ I : Int, e = .returned (.int .i64 I) ∧ decide (0 ≤ I) = r.any p) ∧ Below w.heap.size w w' := by
  obtain ⟨ANS, hA⟩ : ∃ ANS, r.any p = ANS := ⟨_, rfl⟩
  rw [hA]
  have HA := Lib.hid hA
  have HH := Lib.hid h
  have HQ := Lib.hid hp
  clear hA hp
  obtain ⟨a, cap, rfl, hc, hcell⟩ := h
  clear hcell
  go_enter Tryz.func207, Tryz.ntmps207
  go_wp2_with fail
  go_loopw [8] (fun i wr => ∃ k : Nat, i = .int .i64 (k : Int) ∧ k ≤ r.length ∧ Below w.heap.size w wr ∧ (r.drop k).any p = ANS) (fun i _ => r.length - (RowKit.intOf i).toNat)
  case atStart => exact ⟨0, rfl, by omega, Below.refl _ _, HA.out⟩
  case round =>
    obtain ⟨k, rfl, hk, hbe, hans⟩ := hrel
    clear HA
    by_cases hkl : k < r.length
    · obtain ⟨x, hx⟩ : ∃ x, r[k] = x := ⟨_, rfl⟩
      have hxk : r[k]? = some x := by rw [List.getElem?_eq_getElem hkl, hx]
      have hmem : x ∈ r := List.mem_of_getElem? hxk
      have hr0 : r ≠ [] := by intro e; rw [e] at hkl; simp at hkl
      rw [List.drop_eq_getElem_cons hkl, hx, List.any_cons] at hans
      obtain ⟨a2, cap2, e2, _, hcell⟩ := HH.out.below hbe
      obtain ⟨g, o, ha, hcc⟩ := hcell hr0
      cases e2
      subst ha
      obtain ⟨c1, c2⟩ := hcc k x hxk
      clear hcc hcell
      rw [Nat.mul_comm] at c1 c2
      have kf := HQ.out x hmem wr hbe
      have HK := Lib.hid hxk
      clear hxk hx hmem
      cases hpx : p x with
      | true =>
        rw [hpx] at kf hans
        rw [Bool.true_or] at hans
        subst hans
        go_wp2_with (go_at_call 203; refine Calls.mono (show Calls _ _ _ _ _ from kf) ?_; rintro e w2 ⟨rfl, hb2⟩)
        go_ret
        exact ⟨⟨_, rfl, decide_eq_true (by omega)⟩, below_ext hbe hb2⟩
      | false =>
        rw [hpx] at kf hans
        rw [Bool.false_or] at hans
        have HS := Lib.hid hans
        clear hans
        go_wp2_with (go_at_call 203; refine Calls.mono (show Calls _ _ _ _ _ from kf) ?_; rintro e w2 ⟨rfl, hb2⟩)
        go_roundw
        case rel => exact ⟨k + 1, by go_num, by omega, below_ext hbe hb2, HS.out⟩
        case measure => simp [RowKit.intOf]; omega
    · obtain rfl : k = r.length := by omega
      rw [List.drop_of_length_le (Nat.le_refl _), List.any_nil] at hans
      subst hans
      go_wp2_with fail
      go_ret
      exact ⟨⟨_, rfl, rfl⟩, hbe⟩
set_option maxRecDepth 100000 in
theorem long1_contains (v : Value) (r : List Av) (w : World) (h : AvsAt w v r) (hl : r.length ≤ 140737488355328) (p : Av → Bool) (hp : ∀ x ∈ r, ∀ w1, Below w.heap.size w w1 → Calls Tryz.prog 203 #[.agg #[.string ⟨x.1.toArray⟩, .string ⟨x.2.toArray⟩]] w1 fun e w' => e = .returned (.bool (p x)) ∧ Below w1.heap.size w1 w') :
    Calls Tryz.prog 124 #[v, .func (.func 203) #[] #[]] w fun e w' => e = .returned (.bool (r.any p)) ∧ Below w.heap.size w w' := by
  have k1 := long1_index v r w h hl p hp
  generalize r.any p = q at k1 ⊢
  obtain ⟨a, cap, rfl, hc, hcell⟩ := h
  clear hcell hp
  go_enter Tryz.func124, Tryz.ntmps124
  go_wp2_with (go_at_call 207; refine Calls.mono (show Calls _ _ _ _ _ from k1) ?_; rintro e w1 ⟨⟨I, rfl, hI⟩, hb1⟩; have hI2 : decide (I ≥ 0) = q := hI)
  go_ret
  exact ⟨rfl, hb1⟩
set_option maxRecDepth 100000 in
set_option maxHeartbeats 4000000 in
theorem print1_index (v : Value) (r : List Av) (w : World) (h : AvsAt w v r) (hl : r.length ≤ 140737488355328) (p : Av → Bool) (hp : ∀ x ∈ r, ∀ w1, Below w.heap.size w w1 → Calls Tryz.prog 125 #[.agg #[.string ⟨x.1.toArray⟩, .string ⟨x.2.toArray⟩]] w1 fun e w' => e = .returned (.bool (p x)) ∧ Below w1.heap.size w1 w') :
    Calls Tryz.prog 207 #[v, .func (.func 125) #[] #[]] w fun e w' => (∃ I : Int, e = .returned (.int .i64 I) ∧ decide (0 ≤ I) = r.any p) ∧ Below w.heap.size w w' := by
  obtain ⟨ANS, hA⟩ : ∃ ANS, r.any p = ANS := ⟨_, rfl⟩
  rw [hA]
  have HA := Lib.hid hA
  have HH := Lib.hid h
  have HQ := Lib.hid hp
  clear hA hp
  obtain ⟨a, cap, rfl, hc, hcell⟩ := h
  clear hcell
  go_enter Tryz.func207, Tryz.ntmps207
  go_wp2_with fail
  go_loopw [8] (fun i wr => ∃ k : Nat, i = .int .i64 (k : Int) ∧ k ≤ r.length ∧ Below w.heap.size w wr ∧ (r.drop k).any p = ANS) (fun i _ => r.length - (RowKit.intOf i).toNat)
  case atStart => exact ⟨0, rfl, by omega, Below.refl _ _, HA.out⟩
  case round =>
    obtain ⟨k, rfl, hk, hbe, hans⟩ := hrel
    clear HA
    by_cases hkl : k < r.length
    · obtain ⟨x, hx⟩ : ∃ x, r[k] = x := ⟨_, rfl⟩
      have hxk : r[k]? = some x := by rw [List.getElem?_eq_getElem hkl, hx]
      have hmem : x ∈ r := List.mem_of_getElem? hxk
      have hr0 : r ≠ [] := by intro e; rw [e] at hkl; simp at hkl
      rw [List.drop_eq_getElem_cons hkl, hx, List.any_cons] at hans
      obtain ⟨a2, cap2, e2, _, hcell⟩ := HH.out.below hbe
      obtain ⟨g, o, ha, hcc⟩ := hcell hr0
      cases e2
      subst ha
      obtain ⟨c1, c2⟩ := hcc k x hxk
      clear hcc hcell
      rw [Nat.mul_comm] at c1 c2
      have kf := HQ.out x hmem wr hbe
      have HK := Lib.hid hxk
      clear hxk hx hmem
      cases hpx : p x with
      | true =>
        rw [hpx] at kf hans
        rw [Bool.true_or] at hans
        subst hans
        go_wp2_with (go_at_call 125; refine Calls.mono (show Calls _ _ _ _ _ from kf) ?_; rintro e w2 ⟨rfl, hb2⟩)
        go_ret
        exact ⟨⟨_, rfl, decide_eq_true (by omega)⟩, below_ext hbe hb2⟩
      | false =>
        rw [hpx] at kf hans
        rw [Bool.false_or] at hans
        have HS := Lib.hid hans
        clear hans
        go_wp2_with (go_at_call 125; refine Calls.mono (show Calls _ _ _ _ _ from kf) ?_; rintro e w2 ⟨rfl, hb2⟩)
        go_roundw
        case rel => exact ⟨k + 1, by go_num, by omega, below_ext hbe hb2, HS.out⟩
        case measure => simp [RowKit.intOf]; omega
    · obtain rfl : k = r.length := by omega
      rw [List.drop_of_length_le (Nat.le_refl _), List.any_nil] at hans
      subst hans
      go_wp2_with fail
      go_ret
      exact ⟨⟨_, rfl, rfl⟩, hbe⟩
set_option maxRecDepth 100000 in
theorem print1_contains (v : Value) (r : List Av) (w : World) (h : AvsAt w v r) (hl : r.length ≤ 140737488355328) (p : Av → Bool) (hp : ∀ x ∈ r, ∀ w1, Below w.heap.size w w1 → Calls Tryz.prog 125 #[.agg #[.string ⟨x.1.toArray⟩, .string ⟨x.2.toArray⟩]] w1 fun e w' => e = .returned (.bool (p x)) ∧ Below w1.heap.size w1 w') :
    Calls Tryz.prog 124 #[v, .func (.func 125) #[] #[]] w fun e w' => e = .returned (.bool (r.any p)) ∧ Below w.heap.size w w' := by
  have k1 := print1_index v r w h hl p hp
  generalize r.any p = q at k1 ⊢
  obtain ⟨a, cap, rfl, hc, hcell⟩ := h
  clear hcell hp
  go_enter Tryz.func124, Tryz.ntmps124
  go_wp2_with (go_at_call 207; refine Calls.mono (show Calls _ _ _ _ _ from k1) ?_; rintro e w1 ⟨⟨I, rfl, hI⟩, hb1⟩; have hI2 : decide (I ≥ 0) = q := hI)
  go_ret
  exact ⟨rfl, hb1⟩
set_option maxRecDepth 100000 in
set_option maxHeartbeats 4000000 in
theorem long2_index (v : Value) (r : List (List Av)) (w : World) (h : DnAt w v r) (hl : r.length ≤ 140737488355328) (p : List Av → Bool) (hp : ∀ x ∈ r, ∀ u w1, Below w.heap.size w w1 → AvsAt w1 u x → Calls Tryz.prog 202 #[u] w1 fun e w' => e = .returned (.bool (p x)) ∧ Below w1.heap.size w1 w') :
    Calls Tryz.prog 250 #[v, .func (.func 202) #[] #[]] w fun e w' => (∃ I : Int, e = .returned (.int .i64 I) ∧ decide (0 ≤ I) = r.any p) ∧ Below w.heap.size w w' := by
  obtain ⟨ANS, hA⟩ : ∃ ANS, r.any p = ANS := ⟨_, rfl⟩
  rw [hA]
  have HA := Lib.hid hA
  have HH := Lib.hid h
  have HQ := Lib.hid hp
  clear hA hp
  obtain ⟨a, cap, rfl, hc, hcell⟩ := h
  clear hcell
  go_enter Tryz.func250, Tryz.ntmps250
  go_wp2_with fail
  go_loopw [8] (fun i wr => ∃ k : Nat, i = .int .i64 (k : Int) ∧ k ≤ r.length ∧ Below w.heap.size w wr ∧ (r.drop k).any p = ANS) (fun i _ => r.length - (RowKit.intOf i).toNat)
  case atStart => exact ⟨0, rfl, by omega, Below.refl _ _, HA.out⟩
  case round =>
    obtain ⟨k, rfl, hk, hbe, hans⟩ := hrel
    clear HA
    by_cases hkl : k < r.length
    · obtain ⟨x, hx⟩ : ∃ x, r[k] = x := ⟨_, rfl⟩
      have hxk : r[k]? = some x := by rw [List.getElem?_eq_getElem hkl, hx]
      have hmem : x ∈ r := List.mem_of_getElem? hxk
      have hr0 : r ≠ [] := by intro e; rw [e] at hkl; simp at hkl
      rw [List.drop_eq_getElem_cons hkl, hx, List.any_cons] at hans
      obtain ⟨a2, cap2, e2, _, hcell⟩ := HH.out.below hbe
      obtain ⟨g, o, ha, hcc⟩ := hcell hr0
      cases e2
      subst ha
      obtain ⟨u, c1, hu⟩ := hcc k x hxk
      clear hcc hcell
      have kf := HQ.out x hmem u wr hbe hu
      obtain ⟨au, cu, hue, _, _⟩ := hu
      subst hue
      have HK := Lib.hid hxk
      clear hxk hx hmem
      cases hpx : p x with
      | true =>
        rw [hpx] at kf hans
        rw [Bool.true_or] at hans
        subst hans
        go_wp2_with (go_at_call 202; refine Calls.mono (show Calls _ _ _ _ _ from kf) ?_; rintro e w2 ⟨rfl, hb2⟩)
        go_ret
        exact ⟨⟨_, rfl, decide_eq_true (by omega)⟩, below_ext hbe hb2⟩
      | false =>
        rw [hpx] at kf hans
        rw [Bool.false_or] at hans
        have HS := Lib.hid hans
        clear hans
        go_wp2_with (go_at_call 202; refine Calls.mono (show Calls _ _ _ _ _ from kf) ?_; rintro e w2 ⟨rfl, hb2⟩)
        go_roundw
        case rel => exact ⟨k + 1, by go_num, by omega, below_ext hbe hb2, HS.out⟩
        case measure => simp [RowKit.intOf]; omega
    · obtain rfl : k = r.length := by omega
      rw [List.drop_of_length_le (Nat.le_refl _), List.any_nil] at hans
      subst hans
      go_wp2_with fail
      go_ret
      exact ⟨⟨_, rfl, rfl⟩, hbe⟩
set_option maxRecDepth 100000 in
theorem long2_contains (v : Value) (r : List (List Av)) (w : World) (h : DnAt w v r) (hl : r.length ≤ 140737488355328) (p : List Av → Bool) (hp : ∀ x ∈ r, ∀ u w1, Below w.heap.size w w1 → AvsAt w1 u x → Calls Tryz.prog 202 #[u] w1 fun e w' => e = .returned (.bool (p x)) ∧ Below w1.heap.size w1 w') :
    Calls Tryz.prog 201 #[v, .func (.func 202) #[] #[]] w fun e w' => e = .returned (.bool (r.any p)) ∧ Below w.heap.size w w' := by
  have k1 := long2_index v r w h hl p hp
  generalize r.any p = q at k1 ⊢
  obtain ⟨a, cap, rfl, hc, hcell⟩ := h
  clear hcell hp
  go_enter Tryz.func201, Tryz.ntmps201
  go_wp2_with (go_at_call 250; refine Calls.mono (show Calls _ _ _ _ _ from k1) ?_; rintro e w1 ⟨⟨I, rfl, hI⟩, hb1⟩; have hI2 : decide (I ≥ 0) = q := hI)
  go_ret
  exact ⟨rfl, hb1⟩
end Go.Proofs.YtegigcneimjimaaGreatDoor
