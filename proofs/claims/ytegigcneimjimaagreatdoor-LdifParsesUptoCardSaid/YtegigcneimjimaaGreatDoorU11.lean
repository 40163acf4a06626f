/- LwA, BkT, BkB. -/
import Derived.Test.YtegigcneimjimaaGreatDoorU7
namespace Go.Proofs.YtegigcneimjimaaGreatDoor
open Go.RowKit Go.Lib
set_option maxRecDepth 100000
set_option maxHeartbeats 16000000
theorem StrsAt.drewN {w : World} {v : Value} {l : List (List UInt8)} (h : StrsAt w v l) (n : Nat) : StrsAt (w.drewN n) v l := h
theorem AttrsAt.drewN {w : World} {v : Value} {l : List At} (h : AttrsAt w v l) (n : Nat) : AttrsAt (w.drewN n) v l := h
theorem ModsAt.drewN {w : World} {v : Value} {l : List Md} (h : ModsAt w v l) (n : Nat) : ModsAt (w.drewN n) v l := h
theorem texts_any (v u : Value) (r q : List (List UInt8)) (w : World) (h1 : StrsAt w v r) (h2 : StrsAt w u q) (hl : r.length ≤ 140737488355328) (_hl2 : q.length ≤ 140737488355328) :
    Calls Tryz.prog 155 #[v, u] w fun e w' => e = .returned (.bool (decide (r = q))) ∧ ∃ m, w' = w.drewN m := by
  have H1 := Lib.hid h1
  have H2 := Lib.hid h2
  obtain ⟨a1, c1, rfl, hc1, hx1⟩ := h1
  obtain ⟨a2, c2, rfl, hc2, hx2⟩ := h2
  clear hx1 hx2
  by_cases hlen : r.length = q.length
  · have hq : ((r.length : Int) == (q.length : Int)) = true := by rw [hlen]; simp
    obtain ⟨ANS, hA⟩ : ∃ ANS, decide (r = q) = ANS := ⟨_, rfl⟩
    rw [hA]
    have HA := Lib.hid hA
    clear hA
    go_enter Tryz.func155, Tryz.ntmps155
    go_wp2_with fail
    go_loopw [5] (fun i wr => ∃ k m : Nat, i = .int .i64 (k : Int) ∧ k ≤ r.length ∧ wr = w.drewN m ∧ decide (r.drop k = q.drop k) = ANS) (fun i _ => r.length - (RowKit.intOf i).toNat)
    case atStart => exact ⟨0, 0, rfl, by omega, rfl, HA.out⟩
    case round =>
      obtain ⟨k, m, rfl, hk, rfl, hans⟩ := hrel
      clear HA
      by_cases hkl : k < r.length
      · have hkl2 : k < q.length := by omega
        obtain ⟨x, hx⟩ : ∃ x, r[k] = x := ⟨_, rfl⟩
        obtain ⟨y, hy⟩ : ∃ y, q[k] = y := ⟨_, rfl⟩
        have hxk : r[k]? = some x := by rw [List.getElem?_eq_getElem hkl, hx]
        have hyk : q[k]? = some y := by rw [List.getElem?_eq_getElem hkl2, hy]
        have hr0 : r ≠ [] := by intro e; rw [e] at hkl; simp at hkl
        have hq0 : q ≠ [] := by intro e; rw [e] at hkl2; simp at hkl2
        rw [List.drop_eq_getElem_cons hkl, hx, List.drop_eq_getElem_cons hkl2, hy] at hans
        obtain ⟨a3, cap3, e3, _, hcell⟩ := H1.out
        obtain ⟨g, o, ha, hcc⟩ := hcell hr0
        obtain ⟨a4, cap4, e4, _, hcell4⟩ := H2.out
        obtain ⟨g', o', ha', hcc'⟩ := hcell4 hq0
        cases e3
        cases e4
        subst ha ha'
        have p1 := hcc k x hxk
        have p2 := hcc' k y hyk
        clear hcc hcell hcc' hcell4 hxk hyk hx hy
        have i1 : (k : Int) < (r.length : Int) := by omega
        have i2 : (k : Int) < (q.length : Int) := by omega
        have i3 : decide ((k : Int) < (r.length : Int)) = true := decide_eq_true i1
        by_cases hxy : x = y
        · subst hxy
          have hans2 : decide (r.drop (k + 1) = q.drop (k + 1)) = ANS := by rw [← hans]; exact decide_eq_decide.2 (by simp)
          have HS := Lib.hid hans2
          clear hans hans2
          go_wp2
          go_quiet (fail)
          go_wp2
          exact ⟨⟨k + 1, _, by go_num, by omega, rfl, HS.out⟩, by simp [RowKit.intOf]; omega⟩
        · have e : ANS = false := by rw [← hans]; exact decide_eq_false (fun e => hxy (List.cons.inj e).1)
          subst e
          clear hans
          have b1 : (x == y) = false := by simpa using hxy
          clear hxy
          go_wp2
          go_quiet (fail)
          go_wp2
          go_ret
          exact ⟨rfl, _, World.drewN_drewN _ _ _⟩
      · obtain rfl : k = r.length := by omega
        have e : ANS = true := by rw [← hans, List.drop_of_length_le (Nat.le_refl _), hlen, List.drop_of_length_le (Nat.le_refl _)]; rfl
        subst e
        go_wp2_with fail
        go_ret
        first | exact ⟨rfl, _, rfl⟩ | exact ⟨rfl, _, World.drewN_drewN _ _ _⟩
  · have hq : ((r.length : Int) == (q.length : Int)) = false := by simpa using (fun e => hlen (by omega))
    have e : decide (r = q) = false := decide_eq_false (fun e => hlen (by rw [e]))
    rw [e]
    go_enter Tryz.func155, Tryz.ntmps155
    go_wp2_with fail
    go_ret
    exact ⟨rfl, 0, rfl⟩
theorem SameMods_any (v u : Value) (r q : List Md) (w : World) (h1 : ModsAt w v r) (h2 : ModsAt w u q) (hl : r.length ≤ 140737488355328) (_hl2 : q.length ≤ 140737488355328) (hr : ∀ x ∈ r, x.2.2.length ≤ 140737488355328) (hq : ∀ x ∈ q, x.2.2.length ≤ 140737488355328) :
    Calls Tryz.prog 38 #[v, u] w fun e w' => e = .returned (.bool (decide (r = q))) ∧ ∃ m, w' = w.drewN m := by
  have H1 := Lib.hid h1
  have H2 := Lib.hid h2
  have H3 := Lib.hid hr
  have H4 := Lib.hid hq
  clear hr hq
  obtain ⟨a1, c1, rfl, hc1, hx1⟩ := h1
  obtain ⟨a2, c2, rfl, hc2, hx2⟩ := h2
  clear hx1 hx2
  by_cases hlen : r.length = q.length
  · have hq : ((r.length : Int) == (q.length : Int)) = true := by rw [hlen]; simp
    obtain ⟨ANS, hA⟩ : ∃ ANS, decide (r = q) = ANS := ⟨_, rfl⟩
    rw [hA]
    have HA := Lib.hid hA
    clear hA
    go_enter Tryz.func38, Tryz.ntmps38
    go_wp2_with fail
    go_loopw [5] (fun i wr => ∃ k m : Nat, i = .int .i64 (k : Int) ∧ k ≤ r.length ∧ wr = w.drewN m ∧ decide (r.drop k = q.drop k) = ANS) (fun i _ => r.length - (RowKit.intOf i).toNat)
    case atStart => exact ⟨0, 0, rfl, by omega, rfl, HA.out⟩
    case round =>
      obtain ⟨k, m, rfl, hk, rfl, hans⟩ := hrel
      clear HA
      by_cases hkl : k < r.length
      · have hkl2 : k < q.length := by omega
        obtain ⟨x, hx⟩ : ∃ x, r[k] = x := ⟨_, rfl⟩
        obtain ⟨y, hy⟩ : ∃ y, q[k] = y := ⟨_, rfl⟩
        have hxk : r[k]? = some x := by rw [List.getElem?_eq_getElem hkl, hx]
        have hyk : q[k]? = some y := by rw [List.getElem?_eq_getElem hkl2, hy]
        have hr0 : r ≠ [] := by intro e; rw [e] at hkl; simp at hkl
        have hq0 : q ≠ [] := by intro e; rw [e] at hkl2; simp at hkl2
        have hxl := H3.out x (List.mem_of_getElem? hxk)
        have hyl := H4.out y (List.mem_of_getElem? hyk)
        rw [List.drop_eq_getElem_cons hkl, hx, List.drop_eq_getElem_cons hkl2, hy] at hans
        obtain ⟨a3, cap3, e3, _, hcell⟩ := H1.out
        obtain ⟨g, o, ha, hcc⟩ := hcell hr0
        obtain ⟨a4, cap4, e4, _, hcell4⟩ := H2.out
        obtain ⟨g', o', ha', hcc'⟩ := hcell4 hq0
        cases e3
        cases e4
        subst ha ha'
        obtain ⟨p1, p2, z1, p3, hz1⟩ := hcc k x hxk
        obtain ⟨r1, r2, z2, r3, hz2⟩ := hcc' k y hyk
        clear hcc hcell hcc' hcell4 hxk hyk hx hy
        have i1 : (k : Int) < (r.length : Int) := by omega
        have i2 : (k : Int) < (q.length : Int) := by omega
        have i3 : decide ((k : Int) < (r.length : Int)) = true := decide_eq_true i1
        have ks := fun a => (texts_any z1 z2 x.2.2 y.2.2 (w.drewN (m + a)) (hz1.drewN _) (hz2.drewN _) hxl hyl).mono (fun e w'' h => (show e = .returned (.bool (decide (x.2.2 = y.2.2))) ∧ ∃ n, w'' = w.drewN (m + n) from ⟨h.1, h.2.elim fun n hn => ⟨a + n, by rw [hn, World.drewN_drewN, Nat.add_assoc]⟩⟩))
        obtain ⟨s1, d1, e5, _, _⟩ := hz1
        obtain ⟨s2, d2, e6, _, _⟩ := hz2
        subst e5 e6
        by_cases ho : x.1 = y.1
        · have b1 : (x.1 == y.1) = true := by simpa using ho
          have b1n : (x.1 != y.1) = false := by simp [ho]
          by_cases ht : x.2.1 = y.2.1
          · have b2 : (x.2.1 == y.2.1) = true := by simpa using ht
            have b2n : (x.2.1 != y.2.1) = false := by simp [ht]
            by_cases hv : x.2.2 = y.2.2
            · have hxy : x = y := Prod.ext ho (Prod.ext ht hv)
              rw [decide_eq_true hv] at ks
              have hans2 : decide (r.drop (k + 1) = q.drop (k + 1)) = ANS := by rw [← hans]; exact decide_eq_decide.2 (by simp [hxy])
              have HS := Lib.hid hans2
              clear hans hans2 ho ht hv hxy
              go_wp2
              go_quiet (exact ks _)
              go_wp2
              exact ⟨⟨k + 1, _, by go_num, by omega, rfl, HS.out⟩, by simp [RowKit.intOf]; omega⟩
            · have e : ANS = false := by rw [← hans]; exact decide_eq_false (fun e => hv (by rw [(List.cons.inj e).1]))
              subst e
              rw [decide_eq_false hv] at ks
              clear hans ho ht hv
              go_wp2
              go_quiet (exact ks _)
              go_wp2
              go_ret
              first | exact ⟨rfl, _, rfl⟩ | exact ⟨rfl, _, World.drewN_drewN _ _ _⟩
          · have b2 : (x.2.1 == y.2.1) = false := by simpa using ht
            have b2n : (x.2.1 != y.2.1) = true := by simp [ht]
            have e : ANS = false := by rw [← hans]; exact decide_eq_false (fun e => ht (by rw [(List.cons.inj e).1]))
            subst e
            clear hans ho ht ks
            go_wp2
            go_quiet (fail)
            go_wp2
            go_ret
            first | exact ⟨rfl, _, rfl⟩ | exact ⟨rfl, _, World.drewN_drewN _ _ _⟩
        · have b1 : (x.1 == y.1) = false := by simpa using ho
          have b1n : (x.1 != y.1) = true := by simp [ho]
          have e : ANS = false := by rw [← hans]; exact decide_eq_false (fun e => ho (by rw [(List.cons.inj e).1]))
          subst e
          clear hans ho ks
          go_wp2
          go_quiet (fail)
          go_wp2
          go_ret
          exact ⟨rfl, _, World.drewN_drewN _ _ _⟩
      · obtain rfl : k = r.length := by omega
        have e : ANS = true := by rw [← hans, List.drop_of_length_le (Nat.le_refl _), hlen, List.drop_of_length_le (Nat.le_refl _)]; rfl
        subst e
        go_wp2_with fail
        go_ret
        first | exact ⟨rfl, _, rfl⟩ | exact ⟨rfl, _, World.drewN_drewN _ _ _⟩
  · have hq : ((r.length : Int) == (q.length : Int)) = false := by simpa using (fun e => hlen (by omega))
    have e : decide (r = q) = false := decide_eq_false (fun e => hlen (by rw [e]))
    rw [e]
    go_enter Tryz.func38, Tryz.ntmps38
    go_wp2_with fail
    go_ret
    exact ⟨rfl, 0, rfl⟩
theorem SameAttrs_any (v u : Value) (r q : List At) (w : World) (h1 : AttrsAt w v r) (h2 : AttrsAt w u q) (hl : r.length ≤ 140737488355328) (_hl2 : q.length ≤ 140737488355328) (hr : ∀ x ∈ r, x.2.length ≤ 140737488355328) (hq : ∀ x ∈ q, x.2.length ≤ 140737488355328) :
    Calls Tryz.prog 37 #[v, u] w fun e w' => e = .returned (.bool (decide (r = q))) ∧ ∃ m, w' = w.drewN m := by
  have H1 := Lib.hid h1
  have H2 := Lib.hid h2
  have H3 := Lib.hid hr
  have H4 := Lib.hid hq
  clear hr hq
  obtain ⟨a1, c1, rfl, hc1, hx1⟩ := h1
  obtain ⟨a2, c2, rfl, hc2, hx2⟩ := h2
  clear hx1 hx2
  by_cases hlen : r.length = q.length
  · have hq : ((r.length : Int) == (q.length : Int)) = true := by rw [hlen]; simp
    obtain ⟨ANS, hA⟩ : ∃ ANS, decide (r = q) = ANS := ⟨_, rfl⟩
    rw [hA]
    have HA := Lib.hid hA
    clear hA
    go_enter Tryz.func37, Tryz.ntmps37
    go_wp2_with fail
    go_loopw [5] (fun i wr => ∃ k m : Nat, i = .int .i64 (k : Int) ∧ k ≤ r.length ∧ wr = w.drewN m ∧ decide (r.drop k = q.drop k) = ANS) (fun i _ => r.length - (RowKit.intOf i).toNat)
    case atStart => exact ⟨0, 0, rfl, by omega, rfl, HA.out⟩
    case round =>
      obtain ⟨k, m, rfl, hk, rfl, hans⟩ := hrel
      clear HA
      by_cases hkl : k < r.length
      · have hkl2 : k < q.length := by omega
        obtain ⟨x, hx⟩ : ∃ x, r[k] = x := ⟨_, rfl⟩
        obtain ⟨y, hy⟩ : ∃ y, q[k] = y := ⟨_, rfl⟩
        have hxk : r[k]? = some x := by rw [List.getElem?_eq_getElem hkl, hx]
        have hyk : q[k]? = some y := by rw [List.getElem?_eq_getElem hkl2, hy]
        have hr0 : r ≠ [] := by intro e; rw [e] at hkl; simp at hkl
        have hq0 : q ≠ [] := by intro e; rw [e] at hkl2; simp at hkl2
        have hxl := H3.out x (List.mem_of_getElem? hxk)
        have hyl := H4.out y (List.mem_of_getElem? hyk)
        rw [List.drop_eq_getElem_cons hkl, hx, List.drop_eq_getElem_cons hkl2, hy] at hans
        obtain ⟨a3, cap3, e3, _, hcell⟩ := H1.out
        obtain ⟨g, o, ha, hcc⟩ := hcell hr0
        obtain ⟨a4, cap4, e4, _, hcell4⟩ := H2.out
        obtain ⟨g', o', ha', hcc'⟩ := hcell4 hq0
        cases e3
        cases e4
        subst ha ha'
        obtain ⟨p1, z1, p3, hz1⟩ := hcc k x hxk
        obtain ⟨r1, z2, r3, hz2⟩ := hcc' k y hyk
        clear hcc hcell hcc' hcell4 hxk hyk hx hy
        have i1 : (k : Int) < (r.length : Int) := by omega
        have i2 : (k : Int) < (q.length : Int) := by omega
        have i3 : decide ((k : Int) < (r.length : Int)) = true := decide_eq_true i1
        have HZ1 := Lib.hid hz1
        have HZ2 := Lib.hid hz2
        obtain ⟨s1, d1, e5, _, _⟩ := hz1
        obtain ⟨s2, d2, e6, _, _⟩ := hz2
        subst e5 e6
        by_cases ht : x.1 = y.1
        · have b1 : (x.1 == y.1) = true := by simpa using ht
          have b1n : (x.1 != y.1) = false := by simp [ht]
          by_cases hv : x.2.length = y.2.length
          · have b2 : ((x.2.length : Int) == (y.2.length : Int)) = true := by rw [hv]; simp
            have hans2 : decide (x.2.drop 0 = y.2.drop 0 ∧ r.drop (k + 1) = q.drop (k + 1)) = ANS := by
              rw [← hans]
              refine decide_eq_decide.2 ⟨fun h => ?_, fun h => ?_⟩
              · have : x = y := Prod.ext ht (by simpa using h.1)
                rw [this, h.2]
              · have := List.cons.inj h
                exact ⟨by rw [this.1], this.2⟩
            have HS := Lib.hid hans2
            clear hans hans2 ht
            go_wp2
            go_quiet (fail)
            go_wp2
            go_loopw [6] (fun i wr => ∃ j m : Nat, i = .int .i64 (j : Int) ∧ j ≤ x.2.length ∧ wr = w.drewN m ∧ decide (x.2.drop j = y.2.drop j ∧ r.drop (k + 1) = q.drop (k + 1)) = ANS) (fun i _ => x.2.length - (RowKit.intOf i).toNat)
            case atStart => exact ⟨0, _, rfl, by omega, World.drewN_drewN _ _ _, HS.out⟩
            case round =>
              obtain ⟨j, m2, rfl, hj, rfl, hans⟩ := hrel
              clear HS
              by_cases hjl : j < x.2.length
              · have hjl2 : j < y.2.length := by omega
                obtain ⟨xv, hxv⟩ : ∃ z, x.2[j] = z := ⟨_, rfl⟩
                obtain ⟨yv, hyv⟩ : ∃ z, y.2[j] = z := ⟨_, rfl⟩
                have hxk : x.2[j]? = some xv := by rw [List.getElem?_eq_getElem hjl, hxv]
                have hyk : y.2[j]? = some yv := by rw [List.getElem?_eq_getElem hjl2, hyv]
                have hr0 : x.2 ≠ [] := by intro e; rw [e] at hjl; simp at hjl
                have hq0 : y.2 ≠ [] := by intro e; rw [e] at hjl2; simp at hjl2
                rw [List.drop_eq_getElem_cons hjl, hxv, List.drop_eq_getElem_cons hjl2, hyv] at hans
                obtain ⟨a5, cap5, e5, _, hcell⟩ := HZ1.out
                obtain ⟨g5, o5, ha, hcc⟩ := hcell hr0
                obtain ⟨a6, cap6, e6, _, hcell4⟩ := HZ2.out
                obtain ⟨g6, o6, ha', hcc'⟩ := hcell4 hq0
                cases e5
                cases e6
                subst ha ha'
                have t1 := hcc j xv hxk
                have t2 := hcc' j yv hyk
                clear hcc hcell hcc' hcell4 hxk hyk hxv hyv
                have i4 : (j : Int) < (x.2.length : Int) := by omega
                have i5 : (j : Int) < (y.2.length : Int) := by omega
                have i6 : decide ((j : Int) < (x.2.length : Int)) = true := decide_eq_true i4
                by_cases hxy : xv = yv
                · subst hxy
                  have hans2 : decide (x.2.drop (j + 1) = y.2.drop (j + 1) ∧ r.drop (k + 1) = q.drop (k + 1)) = ANS := by rw [← hans]; exact decide_eq_decide.2 (by simp)
                  have HS := Lib.hid hans2
                  clear hans hans2
                  go_wp2
                  go_quiet (fail)
                  go_wp2
                  exact ⟨⟨j + 1, _, by go_num, by omega, rfl, HS.out⟩, by simp [RowKit.intOf]; omega⟩
                · have e : ANS = false := by rw [← hans]; exact decide_eq_false (fun e => hxy (List.cons.inj e.1).1)
                  subst e
                  clear hans
                  have b3 : (xv == yv) = false := by simpa using hxy
                  have b3n : (xv != yv) = true := by simp [hxy]
                  clear hxy
                  go_wp2
                  go_quiet (fail)
                  go_wp2
                  go_ret
                  first | exact ⟨rfl, _, rfl⟩ | exact ⟨rfl, _, World.drewN_drewN _ _ _⟩
              · obtain rfl : j = x.2.length := by omega
                have hans2 : decide (r.drop (k + 1) = q.drop (k + 1)) = ANS := by
                  rw [← hans, List.drop_of_length_le (Nat.le_refl _), hv, List.drop_of_length_le (Nat.le_refl _)]
                  simp
                have HS := Lib.hid hans2
                clear hans hans2
                go_wp2_with fail
                exact ⟨⟨k + 1, _, by go_num, by omega, rfl, HS.out⟩, by simp [RowKit.intOf]; omega⟩
          · have b2 : ((x.2.length : Int) == (y.2.length : Int)) = false := by simpa using (fun e => hv (by omega))
            have e : ANS = false := by rw [← hans]; exact decide_eq_false (fun e => hv (by rw [(List.cons.inj e).1]))
            subst e
            clear hans ht hv
            go_wp2
            go_quiet (fail)
            go_wp2
            go_ret
            first | exact ⟨rfl, _, rfl⟩ | exact ⟨rfl, _, World.drewN_drewN _ _ _⟩
        · have b1 : (x.1 == y.1) = false := by simpa using ht
          have b1n : (x.1 != y.1) = true := by simp [ht]
          have e : ANS = false := by rw [← hans]; exact decide_eq_false (fun e => ht (by rw [(List.cons.inj e).1]))
          subst e
          clear hans ht
          go_wp2
          go_quiet (fail)
          go_wp2
          go_ret
          exact ⟨rfl, _, World.drewN_drewN _ _ _⟩
      · obtain rfl : k = r.length := by omega
        have e : ANS = true := by rw [← hans, List.drop_of_length_le (Nat.le_refl _), hlen, List.drop_of_length_le (Nat.le_refl _)]; rfl
        subst e
        go_wp2_with fail
        go_ret
        first | exact ⟨rfl, _, rfl⟩ | exact ⟨rfl, _, World.drewN_drewN _ _ _⟩
  · have hq : ((r.length : Int) == (q.length : Int)) = false := by simpa using (fun e => hlen (by omega))
    have e : decide (r = q) = false := decide_eq_false (fun e => hlen (by rw [e]))
    rw [e]
    go_enter Tryz.func37, Tryz.ntmps37
    go_wp2_with fail
    go_ret
    exact ⟨rfl, 0, rfl⟩
theorem wpList_append_voidB {P : Program} {w : World} {ops : Array Oper} {rest : List Oper} {o : Oper} {a : Act} {Q : Exit → Act → World → Prop} (hgd : o.guard = none) (s x : Operand) (t : TypeId)
    (ho : o.op = .call { callee := .builtin .append, args := #[s, x], argTypes := #[t, t] })
    (base : Nat) (e : TypeId) (i : TypeInfo) (size : Nat) (ht : P.underlying t = some (.slice e)) (hi : P.info? e = some i)
    (v : Value) (n : Nat) (xs : List Value) (hs : a.eval s = v) (hown : w.ownsRow base e size v n xs) (c : Nat) (hx : a.eval x = .slice none 0 c)
    (h : wpList P ops Q rest (a.put o.dst v) w) : wpList P ops Q (o :: rest) a w := by
  refine wpList_plain hgd fun K hK => ?_
  have hrun : (Builtin.append_ #[t, t] o.type #[v, .slice none 0 c]).run P w = .ok v w := by
    rcases hown.2 with ⟨rfl, rfl⟩ | ⟨g, cap, cur, rfl, _, _, hnc, _⟩
    · simp [Builtin.append_, run_underlying ht, sizeOf, typeInfo, hi, Builtin.lenOf, Builtin.firstCells]
    · simp [Builtin.append_, run_underlying ht, sizeOf, typeInfo, hi, Builtin.lenOf, Builtin.firstCells, hnc, storeCells]
  unfold Oper.wp
  simp [execOp, ho, resolve, invoke, builtin, hs, hx, hrun, Result.andThen]
  exact hK _ _ h
theorem sV_one (ls : List (List UInt8)) : ∀ u ∈ sV ls, u.oneCell' = true := by
  intro u hu
  simp only [sV, List.mem_map] at hu
  obtain ⟨x, _, rfl⟩ := hu
  rfl
theorem StrsAt.cells {w : World} {ad : Addr} {n cap : Nat} {l : List (List UInt8)} (h : StrsAt w (.slice (some ad) n cap) l) : ∀ j u, (sV l)[j]? = some u → w.cell? (ad.add j) = some u := by
  intro j u hj
  obtain ⟨a, c, e, _, hr⟩ := h
  have h0 : l ≠ [] := by rintro rfl; simp [sV] at hj
  obtain ⟨g, o, ha, hcell⟩ := hr h0
  simp only [Value.slice.injEq] at e
  obtain ⟨e1, _, _⟩ := e
  rw [ha] at e1
  cases e1
  simp only [sV, List.getElem?_map, Option.map_eq_some_iff] at hj
  obtain ⟨y, hy, rfl⟩ := hj
  rw [Addr.add_lit]
  exact hcell j y hy
theorem copyTexts_any (v : Value) (l : List (List UInt8)) (w : World) (h : StrsAt w v l) (hl : l.length ≤ 1000000000) :
    Calls Tryz.prog 237 #[v] w fun e w' => (∃ v', e = .returned v' ∧ w'.ownsRow w.heap.size 9 1 v' l.length (sV l)) ∧ Below w.heap.size w w' := by
  obtain ⟨i0, hi0, hz0, hz1, hz2⟩ := info_parts Tryz.infoString
  have H := Lib.hid h
  obtain ⟨a, cap, rfl, hc, hr⟩ := h
  cases a with
  | none =>
    have hnil : l = [] := by
      rcases Classical.em (l = []) with h | h
      · exact h
      · obtain ⟨g, o, ha, _⟩ := hr h; cases ha
    subst hnil
    go_enter Tryz.func237, Tryz.ntmps237
    go_wp2_with (at_builtin; refine wpList_append_voidB rfl (.const (.slice none 0 0)) (.tmp 3) 58 rfl w.heap.size 9 i0 1 Tryz.underlying58 hi0 (.slice none 0 0) 0 [] rfl (World.ownsRow_nil _ _ _ _) cap rfl ?_)
    go_ret
    exact ⟨⟨_, rfl, World.ownsRow_nil _ _ _ _⟩, Below.refl _ _⟩
  | some ad =>
    have hcl := H.out.cells
    have HC := Lib.hid hcl
    clear hr hcl
    go_enter Tryz.func237, Tryz.ntmps237
    go_wp2_with (at_builtin; refine wpList_append_own _ rfl (.const (.slice none 0 0)) (.tmp 3) 58 rfl w.heap.size 9 i0 (.string ⟨#[]⟩) 1 16 Tryz.underlying58 hi0 hz0 hz1 hz2 rfl (by decide) (.slice none 0 0) 0 [] rfl (World.ownsRow_nil _ _ _ _) ad l.length cap (sV l) rfl (by rw [sV_length, Nat.mul_one]) HC.out (sV_one l) ?d3 ?d4 (Nat.le_refl _) ?_)
    case d3 => unfold maxLen; omega
    case d4 => omega
    intro v' w7 ho7 hg7 _
    go_wp2_with fail
    go_ret
    exact ⟨⟨_, rfl, ho7⟩, (Below.refl w.heap.size w).grown hg7 (Nat.le_refl _) (fun b hb => by cases hb)⟩
theorem STexts_any (v u : Value) (r q : List (List UInt8)) (w : World) (h1 : StrsAt w v r) (h2 : StrsAt w u q) (hl : r.length ≤ 140737488355328) (_hl2 : q.length ≤ 140737488355328) :
    Calls Tryz.prog 160 #[v, u] w fun e w' => e = .returned (.bool (decide (r = q))) ∧ ∃ m, w' = w.drewN m := by
  have H1 := Lib.hid h1
  have H2 := Lib.hid h2
  obtain ⟨a1, c1, rfl, hc1, hx1⟩ := h1
  obtain ⟨a2, c2, rfl, hc2, hx2⟩ := h2
  clear hx1 hx2
  by_cases hlen : r.length = q.length
  · have hq : ((r.length : Int) == (q.length : Int)) = true := by rw [hlen]; simp
    obtain ⟨ANS, hA⟩ : ∃ ANS, decide (r = q) = ANS := ⟨_, rfl⟩
    rw [hA]
    have HA := Lib.hid hA
    clear hA
    go_enter Tryz.func160, Tryz.ntmps160
    go_wp2_with fail
    go_loopw [5] (fun i wr => ∃ k m : Nat, i = .int .i64 (k : Int) ∧ k ≤ r.length ∧ wr = w.drewN m ∧ decide (r.drop k = q.drop k) = ANS) (fun i _ => r.length - (RowKit.intOf i).toNat)
    case atStart => exact ⟨0, 0, rfl, by omega, rfl, HA.out⟩
    case round =>
      obtain ⟨k, m, rfl, hk, rfl, hans⟩ := hrel
      clear HA
      by_cases hkl : k < r.length
      · have hkl2 : k < q.length := by omega
        obtain ⟨x, hx⟩ : ∃ x, r[k] = x := ⟨_, rfl⟩
        obtain ⟨y, hy⟩ : ∃ y, q[k] = y := ⟨_, rfl⟩
        have hxk : r[k]? = some x := by rw [List.getElem?_eq_getElem hkl, hx]
        have hyk : q[k]? = some y := by rw [List.getElem?_eq_getElem hkl2, hy]
        have hr0 : r ≠ [] := by intro e; rw [e] at hkl; simp at hkl
        have hq0 : q ≠ [] := by intro e; rw [e] at hkl2; simp at hkl2
        rw [List.drop_eq_getElem_cons hkl, hx, List.drop_eq_getElem_cons hkl2, hy] at hans
        obtain ⟨a3, cap3, e3, _, hcell⟩ := H1.out
        obtain ⟨g, o, ha, hcc⟩ := hcell hr0
        obtain ⟨a4, cap4, e4, _, hcell4⟩ := H2.out
        obtain ⟨g', o', ha', hcc'⟩ := hcell4 hq0
        cases e3
        cases e4
        subst ha ha'
        have p1 := hcc k x hxk
        have p2 := hcc' k y hyk
        clear hcc hcell hcc' hcell4 hxk hyk hx hy
        have i1 : (k : Int) < (r.length : Int) := by omega
        have i2 : (k : Int) < (q.length : Int) := by omega
        have i3 : decide ((k : Int) < (r.length : Int)) = true := decide_eq_true i1
        by_cases hxy : x = y
        · subst hxy
          have hans2 : decide (r.drop (k + 1) = q.drop (k + 1)) = ANS := by rw [← hans]; exact decide_eq_decide.2 (by simp)
          have HS := Lib.hid hans2
          clear hans hans2
          go_wp2
          go_quiet (fail)
          go_wp2
          exact ⟨⟨k + 1, _, by go_num, by omega, rfl, HS.out⟩, by simp [RowKit.intOf]; omega⟩
        · have e : ANS = false := by rw [← hans]; exact decide_eq_false (fun e => hxy (List.cons.inj e).1)
          subst e
          clear hans
          have b1 : (x == y) = false := by simpa using hxy
          clear hxy
          go_wp2
          go_quiet (fail)
          go_wp2
          go_ret
          exact ⟨rfl, _, World.drewN_drewN _ _ _⟩
      · obtain rfl : k = r.length := by omega
        have e : ANS = true := by rw [← hans, List.drop_of_length_le (Nat.le_refl _), hlen, List.drop_of_length_le (Nat.le_refl _)]; rfl
        subst e
        go_wp2_with fail
        go_ret
        first | exact ⟨rfl, _, rfl⟩ | exact ⟨rfl, _, World.drewN_drewN _ _ _⟩
  · have hq : ((r.length : Int) == (q.length : Int)) = false := by simpa using (fun e => hlen (by omega))
    have e : decide (r = q) = false := decide_eq_false (fun e => hlen (by rw [e]))
    rw [e]
    go_enter Tryz.func160, Tryz.ntmps160
    go_wp2_with fail
    go_ret
    exact ⟨rfl, 0, rfl⟩
def OwnA (B : Nat) (w : World) (v : Value) (al : List At) (us : List Value) : Prop :=
  w.ownsRow B 179 2 v al.length (flatA al us) ∧ us.length = al.length ∧ ∀ (j : Nat) (x : At) (u : Value), al[j]? = some x → us[j]? = some u → w.ownsRow B 9 1 u x.2.length (sV x.2)
theorem flatA_all (P : Nat → Value → Prop) : ∀ (al : List At) (us : List Value) (o : Nat), us.length = al.length → (∀ (j : Nat) (x : At) (u : Value), al[j]? = some x → us[j]? = some u → P (o + j * 2) (.string ⟨x.1.toArray⟩) ∧ P (o + j * 2 + 1) u) → ∀ (i : Nat) (y : Value), (flatA al us)[i]? = some y → P (o + i) y
  | [], _, _, _, _, i, y, h => by simp [flatA] at h
  | _ :: _, [], _, hl, _, _, _, _ => by simp at hl
  | a :: al, u :: us, o, hl, hp, i, y, h => by
    have h0 := hp 0 a u rfl rfl
    match i, h with
    | 0, h => simp only [flatA, List.getElem?_cons_zero, Option.some.injEq] at h; subst h; simpa using h0.1
    | 1, h => simp only [flatA, List.getElem?_cons_succ, List.getElem?_cons_zero, Option.some.injEq] at h; subst h; simpa using h0.2
    | i + 2, h =>
      simp only [flatA, List.getElem?_cons_succ] at h
      have := flatA_all P al us (o + 2) (by simpa using hl) (fun j x v h1 h2 => by
        have := hp (j + 1) x v (by simpa using h1) (by simpa using h2)
        rw [show o + (j + 1) * 2 = o + 2 + j * 2 by omega] at this
        exact this) i y h
      rw [show o + (i + 2) = o + 2 + i by omega]
      exact this
theorem AttrsAt.us {w : World} {ad : Addr} {n cap : Nat} {al : List At} (h : AttrsAt w (.slice (some ad) n cap) al) : ∃ us : List Value, us.length = al.length ∧ (∀ i y, (flatA al us)[i]? = some y → w.cell? (ad.add i) = some y) ∧ (∀ u ∈ flatA al us, u.oneCell' = true) ∧
    ∀ (j : Nat) (x : At) (u : Value), al[j]? = some x → us[j]? = some u → StrsAt w u x.2 := by
  obtain ⟨a, c, e, _, hr⟩ := h
  rcases Classical.em (al = []) with h0 | h0
  · subst h0
    exact ⟨[], rfl, fun i y h => by simp [flatA] at h, fun u hu => by simp [flatA] at hu, fun j x u h => by simp at h⟩
  · obtain ⟨g, o, ha, hcell⟩ := hr h0
    simp only [Value.slice.injEq] at e
    obtain ⟨e1, _, _⟩ := e
    rw [ha] at e1
    cases e1
    have each : ∀ j, ∃ u, ∀ x, al[j]? = some x → w.cell? ⟨g, o + j * 2, none⟩ = some (.string ⟨x.1.toArray⟩) ∧ w.cell? ⟨g, o + j * 2 + 1, none⟩ = some u ∧ StrsAt w u x.2 := by
      intro j
      cases hj : al[j]? with
      | none => exact ⟨.slice none 0 0, fun x h => by cases h⟩
      | some x =>
        obtain ⟨h1, u, h2, h3⟩ := hcell j x hj
        exact ⟨u, fun y hy => by cases hy; exact ⟨h1, h2, h3⟩⟩
    let f := fun j => Classical.choose (each j)
    have hf : ∀ j x, al[j]? = some x → w.cell? ⟨g, o + j * 2, none⟩ = some (.string ⟨x.1.toArray⟩) ∧ w.cell? ⟨g, o + j * 2 + 1, none⟩ = some (f j) ∧ StrsAt w (f j) x.2 := fun j => Classical.choose_spec (each j)
    have hus : ∀ j u, ((List.range al.length).map f)[j]? = some u → u = f j := by
      intro j u h
      have hj := (List.getElem?_eq_some_iff.1 h).1
      simp only [List.length_map, List.length_range] at hj
      rw [List.getElem?_map, List.getElem?_range hj] at h
      cases h
      rfl
    refine ⟨(List.range al.length).map f, by simp, ?_, ?_, ?_⟩
    · intro i y h
      have := flatA_all (fun i y => w.cell? ⟨g, o + i, none⟩ = some y) al _ 0 (by simp) (fun j x u h1 h2 => by
        rw [hus j u h2]
        obtain ⟨q1, q2, _⟩ := hf j x h1
        rw [Nat.zero_add]
        exact ⟨q1, q2⟩) i y h
      rw [Addr.add_lit]
      rw [Nat.zero_add] at this
      exact this
    · have := flatA_all (fun _ y => y.oneCell' = true) al ((List.range al.length).map f) 0 (by simp) (fun j x u h1 h2 => by
        rw [hus j u h2]
        obtain ⟨_, _, q3⟩ := hf j x h1
        obtain ⟨a, c, e, _⟩ := q3
        exact ⟨rfl, by rw [e]; rfl⟩)
      intro u hu
      obtain ⟨i, hi⟩ := List.getElem?_of_mem hu
      exact this i u hi
    · intro j x u h1 h2
      rw [hus j u h2]
      exact (hf j x h1).2.2
theorem own_shape {w : World} {base e size n : Nat} {v : Value} {xs : List Value} (h : w.ownsRow base e size v n xs) : ∃ a c, v = .slice a n c := by
  rcases h.2 with ⟨rfl, h0⟩ | ⟨g, cap, cur, rfl, _⟩
  · exact ⟨none, 0, by rw [h0]⟩
  · exact ⟨_, _, rfl⟩
theorem own_mono {w : World} {base base' e size n : Nat} {v : Value} {xs : List Value} (h : w.ownsRow base e size v n xs) (hb : base' ≤ base) : w.ownsRow base' e size v n xs := by
  refine ⟨h.1, ?_⟩
  rcases h.2 with h1 | ⟨g, cap, cur, h1, h2, h3⟩
  · exact .inl h1
  · exact .inr ⟨g, cap, cur, h1, Nat.le_trans hb h2, h3⟩
def CaRel (w : World) (al : List At) (v i : Value) (wr : World) : Prop :=
  ∃ (k : Nat) (us : List Value), i = .int .i64 (k : Int) ∧ k ≤ al.length ∧ wr.ownsRow w.heap.size 179 2 v al.length (flatA al us) ∧ us.length = al.length ∧ Below w.heap.size w wr ∧
    (∀ (j : Nat) (x : At) (u : Value), j < k → al[j]? = some x → us[j]? = some u → wr.ownsRow w.heap.size 9 1 u x.2.length (sV x.2)) ∧
    (∀ (j : Nat) (x : At) (u : Value), k ≤ j → al[j]? = some x → us[j]? = some u → StrsAt w u x.2)
theorem flatA_put : ∀ (al : List At) (us : List Value) (k : Nat) (x : Value), us.length = al.length → k < al.length → (flatA al us).set (k * 2 + 1) x = flatA al (us.set k x)
  | [], _, _, _, _, h => by simp at h
  | _ :: _, [], _, _, h, _ => by simp at h
  | a :: al, u :: us, 0, x, _, _ => by simp [flatA]
  | a :: al, u :: us, k + 1, x, hl, hk => by
    have := flatA_put al us k x (by simpa using hl) (by simpa using hk)
    rw [show (k + 1) * 2 + 1 = k * 2 + 1 + 1 + 1 by omega]
    simp only [flatA, List.set_cons_succ, this]
theorem copyAttrs_any (v : Value) (al : List At) (w : World) (h : AttrsAt w v al) (hl : al.length ≤ 1000000000) (hv : ∀ x ∈ al, x.2.length ≤ 1000000000) :
    Calls Tryz.prog 238 #[v] w fun e w' => (∃ v' us, e = .returned v' ∧ OwnA w.heap.size w' v' al us) ∧ Below w.heap.size w w' := by
  obtain ⟨i0, hi0, hz0, hz1, hz2⟩ := info_parts Tryz.infoAttr
  have H := Lib.hid h
  have HV := Lib.hid hv
  clear hv
  obtain ⟨a, cap, rfl, hc, hr⟩ := h
  cases a with
  | none =>
    have hnil : al = [] := by
      rcases Classical.em (al = []) with h | h
      · exact h
      · obtain ⟨g, o, ha, _⟩ := hr h; cases ha
    subst hnil
    go_enter Tryz.func238, Tryz.ntmps238
    go_wp2_with (at_builtin; refine wpList_append_voidB rfl (.const (.slice none 0 0)) (.tmp 4) 44 rfl w.heap.size 179 i0 2 Tryz.underlying44 hi0 (.slice none 0 0) 0 [] rfl (World.ownsRow_nil _ _ _ _) cap rfl ?_)
    go_loopw [3] (fun i wr => i = .int .i64 0 ∧ wr = w) (fun _ _ => 0)
    case atStart => exact ⟨rfl, rfl⟩
    case round =>
      obtain ⟨rfl, rfl⟩ := hrel
      go_wp2_with fail
      go_ret
      exact ⟨⟨_, [], rfl, World.ownsRow_nil _ _ _ _, rfl, fun j x u h => by simp at h⟩, Below.refl _ _⟩
  | some ad =>
    obtain ⟨us, hul, hcl, hone, hst⟩ := H.out.us
    have HC := Lib.hid hcl
    have HO := Lib.hid hone
    have HS := Lib.hid hst
    clear hr hcl hone hst
    have hfl := flatA_length al us hul
    go_enter Tryz.func238, Tryz.ntmps238
    go_wp2_with (at_builtin; refine wpList_append_own _ rfl (.const (.slice none 0 0)) (.tmp 4) 44 rfl w.heap.size 179 i0 (.agg #[.string ⟨#[]⟩, .slice none 0 0]) 2 40 Tryz.underlying44 hi0 hz0 hz1 hz2 rfl (by decide) (.slice none 0 0) 0 [] rfl (World.ownsRow_nil _ _ _ _) ad al.length cap (flatA al us) rfl hfl HC.out HO.out ?d3 ?d4 (Nat.le_refl _) ?_)
    case d3 => unfold maxLen; omega
    case d4 => omega
    intro v' w7 ho7 hg7 _
    have hb7 : Below w.heap.size w w7 := (Below.refl w.heap.size w).grown hg7 (Nat.le_refl _) (fun b hb => by cases hb)
    have HO7 := Lib.hid ho7
    clear ho7 hg7
    go_wp2_with fail
    go_loopw [3] (fun i wr => CaRel w al v' i wr) (fun i _ => al.length - (RowKit.intOf i).toNat)
    case atStart => exact ⟨0, us, rfl, by omega, by have := HO7.out; simpa using this, hul, hb7, fun j x u h => by omega, fun j x u _ h1 h2 => HS.out j x u h1 h2⟩
    case round =>
      clear HO7 hb7
      obtain ⟨k, us, rfl, hk, hown, hul, hbe, hdone, hleft⟩ := hrel
      by_cases hkl : k < al.length
      · obtain ⟨x, hx⟩ : ∃ x, al[k]? = some x := ⟨al[k], List.getElem?_eq_getElem hkl⟩
        obtain ⟨u, hu⟩ : ∃ u, us[k]? = some u := ⟨us[k]'(by omega), List.getElem?_eq_getElem (by omega)⟩
        obtain ⟨g, cap', cur, rfl, hbg, hgb, hcap'⟩ : ∃ g cap' cur, v' = .slice (some ⟨g, 0, none⟩) al.length cap' ∧ w.heap.size ≤ g ∧ wr.heap[g]? = some (.cells cur 179 (0, 0)) ∧ al.length ≤ cap' := by
          rcases id hown.2 with ⟨_, h0⟩ | ⟨g, cap', cur, h1, h2, h3, h4, _⟩
          · omega
          · exact ⟨g, cap', cur, h1, h2, h3, h4⟩
        obtain ⟨f0, f1⟩ := flatA_get al us k x u hx hu
        obtain ⟨q0, _⟩ := own_cell hown f0
        obtain ⟨q1, _⟩ := own_cell hown f1
        have hxv := HV.out x (List.mem_of_getElem? hx)
        have kc := copyTexts_any u x.2 wr ((hleft k x u (Nat.le_refl _) hx hu).below hbe) hxv
        have i1 : (k : Int) < (al.length : Int) := by omega
        have i3 : decide ((k : Int) < (al.length : Int)) = true := decide_eq_true i1
        have HX := Lib.hid hx
        have HD := Lib.hid hdone
        have HL := Lib.hid hleft
        have hszr := hbe.size
        clear hx hu f0 f1 hdone hleft
        go_wp2_with fail
        refine Calls.mono (show Calls _ _ _ _ _ from kc) ?_
        rintro e w5 ⟨⟨u5, rfl, hu5⟩, hb5⟩
        obtain ⟨a5, cp5, h5f⟩ := own_shape hu5
        subst h5f
        have hown5 := own_below hown hb5
        have hgb5 := (hb5.block g (Array.getElem?_eq_some_iff.1 hgb).1).trans hgb
        obtain ⟨q2, q3⟩ := own_cell hown5 (show (flatA al us)[k * 2 + 1]? = _ from (List.getElem?_eq_getElem (by rw [flatA_length al us hul]; omega)))
        have hset := own_set (x := (.slice a5 x.2.length cp5)) hown5 (show k * 2 + 1 < (flatA al us).length by rw [flatA_length al us hul]; omega)
        rw [flatA_put al us k (.slice a5 x.2.length cp5) hul hkl] at hset
        have hb6 : Below w.heap.size w (w5.setCell ⟨g, k * 2 + 1, none⟩ (.slice a5 x.2.length cp5)) := (below_ext hbe hb5).setCell (p := ⟨g, k * 2 + 1, none⟩) hbg _
        have HS6 := Lib.hid hset
        have HB6 := Lib.hid hb6
        have hdone6 : ∀ (j : Nat) (y : At) (v : Value), j < k + 1 → al[j]? = some y → (us.set k (.slice a5 x.2.length cp5))[j]? = some v → (w5.setCell ⟨g, k * 2 + 1, none⟩ (.slice a5 x.2.length cp5)).ownsRow w.heap.size 9 1 v y.2.length (sV y.2) := by
          intro j y v hj hy hv
          by_cases hjk : j = k
          · subst hjk
            rw [List.getElem?_set_self (by omega)] at hv
            cases hv
            rw [HX.out] at hy
            cases hy
            exact set_kept (own_mono hu5 hszr) hgb5 (by decide)
          · rw [List.getElem?_set_ne (fun e => hjk e.symm)] at hv
            exact set_kept (own_below (HD.out j y v (by omega) hy hv) hb5) hgb5 (by decide)
        have hleft6 : ∀ (j : Nat) (y : At) (v : Value), k + 1 ≤ j → al[j]? = some y → (us.set k (.slice a5 x.2.length cp5))[j]? = some v → StrsAt w v y.2 := by
          intro j y v hj hy hv
          rw [List.getElem?_set_ne (by omega)] at hv
          exact HL.out j y v (by omega) hy hv
        have HD6 := Lib.hid hdone6
        have HL6 := Lib.hid hleft6
        clear hset hb6 hdone6 hleft6 hu5 kc q0 q1
        go_wp2_with fail
        exact ⟨⟨k + 1, us.set k (.slice a5 x.2.length cp5), by go_num, by omega, HS6.out, by rw [List.length_set]; exact hul, HB6.out, HD6.out, HL6.out⟩, by simp [RowKit.intOf]; omega⟩
      · obtain rfl : k = al.length := by omega
        obtain ⟨av, cv, hvf⟩ := own_shape hown
        subst hvf
        have HD := Lib.hid hdone
        clear hdone hleft
        go_wp2_with fail
        go_ret
        exact ⟨⟨_, us, rfl, hown, hul, fun j x u h1 h2 => HD.out j x u (List.getElem?_eq_some_iff.1 h1).1 h1 h2⟩, hbe⟩
end Go.Proofs.YtegigcneimjimaaGreatDoor
