/- chanceryref9.texts, SameMods, chanceryref7.SameAttrs, chanceryref18.Same: what they return. -/
import Derived.Test.YtehpdodjncabkaaDoorLdC
import Derived.Test.YtehpdodjncabkaaDoorLdD
namespace Go.Proofs.YtehpdodjncabkaaDoor
open Go.RowKit Go.Lib

theorem StrsAt.drewN {w : World} {v : Value} {l : List (List UInt8)} (h : StrsAt w v l) (n : Nat) : StrsAt (w.drewN n) v l := h
theorem AttrsAt.drewN {w : World} {v : Value} {l : List At} (h : AttrsAt w v l) (n : Nat) : AttrsAt (w.drewN n) v l := h
theorem ModsAt.drewN {w : World} {v : Value} {l : List Md} (h : ModsAt w v l) (n : Nat) : ModsAt (w.drewN n) v l := h
set_option maxRecDepth 100000 in
set_option maxHeartbeats 4000000 in
theorem texts_any (v u : Value) (r q : List (List UInt8)) (w : World) (h1 : StrsAt w v r) (h2 : StrsAt w u q) (hl : r.length ≤ 140737488355328) (_hl2 : q.length ≤ 140737488355328) :
    Calls Tryd.prog 58 #[v, u] w fun e w' => e = .returned (.bool (decide (r = q))) ∧ ∃ m, w' = w.drewN m := by
  have H1 := Lib.hid h1
  have H2 := Lib.hid h2
  obtain ⟨a1, c1, rfl, hc1, hx1⟩ := h1
  obtain ⟨a2, c2, rfl, hc2, hx2⟩ := h2
  clear hx1 hx2
  by_cases hlen : r.length = q.length
  · have hq : ((r.length : Int) == (q.length : Int)) = true := by rw [hlen]; simp
    obtain ⟨ANS, hA⟩ : ∃ ANS, decide (r = q) = ANS := ⟨_, rfl⟩
    rw [hA]
    have HA := Lib.hid hA
    clear hA
    go_enter Tryd.func58, Tryd.ntmps58
    go_wp2_with fail
    go_loopw [5] (fun i wr => ∃ k m : Nat, i = .int .i64 (k : Int) ∧ k ≤ r.length ∧ wr = w.drewN m ∧ decide (r.drop k = q.drop k) = ANS) (fun i _ => r.length - (RowKit.intOf i).toNat)
    case atStart => exact ⟨0, 0, rfl, by omega, rfl, HA.out⟩
    case round =>
      obtain ⟨k, m, rfl, hk, rfl, hans⟩ := hrel
      clear HA
      by_cases hkl : k < r.length
      · have hkl2 : k < q.length := by omega
        obtain ⟨x, hx⟩ : ∃ x, r[k] = x := ⟨_, rfl⟩
        obtain ⟨y, hy⟩ : ∃ y, q[k] = y := ⟨_, rfl⟩
        have hxk : r[k]? = some x := by rw [List.getElem?_eq_getElem hkl, hx]
        have hyk : q[k]? = some y := by rw [List.getElem?_eq_getElem hkl2, hy]
        have hr0 : r ≠ [] := by intro e; rw [e] at hkl; simp at hkl
        have hq0 : q ≠ [] := by intro e; rw [e] at hkl2; simp at hkl2
        rw [List.drop_eq_getElem_cons hkl, hx, List.drop_eq_getElem_cons hkl2, hy] at hans
        obtain ⟨a3, cap3, e3, _, hcell⟩ := H1.out
        obtain ⟨g, o, ha, hcc⟩ := hcell hr0
        obtain ⟨a4, cap4, e4, _, hcell4⟩ := H2.out
        obtain ⟨g', o', ha', hcc'⟩ := hcell4 hq0
        cases e3
        cases e4
        subst ha ha'
        have p1 := hcc k x hxk
        have p2 := hcc' k y hyk
        clear hcc hcell hcc' hcell4 hxk hyk hx hy
        have i1 : (k : Int) < (r.length : Int) := by omega
        have i2 : (k : Int) < (q.length : Int) := by omega
        have i3 : decide ((k : Int) < (r.length : Int)) = true := decide_eq_true i1
        by_cases hxy : x = y
        · subst hxy
          have hans2 : decide (r.drop (k + 1) = q.drop (k + 1)) = ANS := by rw [← hans]; exact decide_eq_decide.2 (by simp)
          have HS := Lib.hid hans2
          clear hans hans2
          go_wp2
          go_quiet (fail)
          go_wp2
          exact ⟨⟨k + 1, _, by go_num, by omega, rfl, HS.out⟩, by simp [RowKit.intOf]; omega⟩
        · have e : ANS = false := by rw [← hans]; exact decide_eq_false (fun e => hxy (List.cons.inj e).1)
          subst e
          clear hans
          have b1 : (x == y) = false := by simpa using hxy
          clear hxy
          go_wp2
          go_quiet (fail)
          go_wp2
          go_ret
          exact ⟨rfl, _, World.drewN_drewN _ _ _⟩
      · obtain rfl : k = r.length := by omega
        have e : ANS = true := by rw [← hans, List.drop_of_length_le (Nat.le_refl _), hlen, List.drop_of_length_le (Nat.le_refl _)]; rfl
        subst e
        go_wp2_with fail
        go_ret
        first | exact ⟨rfl, _, rfl⟩ | exact ⟨rfl, _, World.drewN_drewN _ _ _⟩
  · have hq : ((r.length : Int) == (q.length : Int)) = false := by simpa using (fun e => hlen (by omega))
    have e : decide (r = q) = false := decide_eq_false (fun e => hlen (by rw [e]))
    rw [e]
    go_enter Tryd.func58, Tryd.ntmps58
    go_wp2_with fail
    go_ret
    exact ⟨rfl, 0, rfl⟩
set_option maxRecDepth 100000 in
set_option maxHeartbeats 4000000 in
theorem SameMods_any (v u : Value) (r q : List Md) (w : World) (h1 : ModsAt w v r) (h2 : ModsAt w u q) (hl : r.length ≤ 140737488355328) (_hl2 : q.length ≤ 140737488355328) (hr : ∀ x ∈ r, x.2.2.length ≤ 140737488355328) (hq : ∀ x ∈ q, x.2.2.length ≤ 140737488355328) :
    Calls Tryd.prog 38 #[v, u] w fun e w' => e = .returned (.bool (decide (r = q))) ∧ ∃ m, w' = w.drewN m := by
  have H1 := Lib.hid h1
  have H2 := Lib.hid h2
  have H3 := Lib.hid hr
  have H4 := Lib.hid hq
  clear hr hq
  obtain ⟨a1, c1, rfl, hc1, hx1⟩ := h1
  obtain ⟨a2, c2, rfl, hc2, hx2⟩ := h2
  clear hx1 hx2
  by_cases hlen : r.length = q.length
  · have hq : ((r.length : Int) == (q.length : Int)) = true := by rw [hlen]; simp
    obtain ⟨ANS, hA⟩ : ∃ ANS, decide (r = q) = ANS := ⟨_, rfl⟩
    rw [hA]
    have HA := Lib.hid hA
    clear hA
    go_enter Tryd.func38, Tryd.ntmps38
    go_wp2_with fail
    go_loopw [5] (fun i wr => ∃ k m : Nat, i = .int .i64 (k : Int) ∧ k ≤ r.length ∧ wr = w.drewN m ∧ decide (r.drop k = q.drop k) = ANS) (fun i _ => r.length - (RowKit.intOf i).toNat)
    case atStart => exact ⟨0, 0, rfl, by omega, rfl, HA.out⟩
    case round =>
      obtain ⟨k, m, rfl, hk, rfl, hans⟩ := hrel
      clear HA
      by_cases hkl : k < r.length
      · have hkl2 : k < q.length := by omega
        obtain ⟨x, hx⟩ : ∃ x, r[k] = x := ⟨_, rfl⟩
        obtain ⟨y, hy⟩ : ∃ y, q[k] = y := ⟨_, rfl⟩
        have hxk : r[k]? = some x := by rw [List.getElem?_eq_getElem hkl, hx]
        have hyk : q[k]? = some y := by rw [List.getElem?_eq_getElem hkl2, hy]
        have hr0 : r ≠ [] := by intro e; rw [e] at hkl; simp at hkl
        have hq0 : q ≠ [] := by intro e; rw [e] at hkl2; simp at hkl2
        have hxl := H3.out x (List.mem_of_getElem? hxk)
        have hyl := H4.out y (List.mem_of_getElem? hyk)
        rw [List.drop_eq_getElem_cons hkl, hx, List.drop_eq_getElem_cons hkl2, hy] at hans
        obtain ⟨a3, cap3, e3, _, hcell⟩ := H1.out
        obtain ⟨g, o, ha, hcc⟩ := hcell hr0
        obtain ⟨a4, cap4, e4, _, hcell4⟩ := H2.out
        obtain ⟨g', o', ha', hcc'⟩ := hcell4 hq0
        cases e3
        cases e4
        subst ha ha'
        obtain ⟨p1, p2, z1, p3, hz1⟩ := hcc k x hxk
        obtain ⟨r1, r2, z2, r3, hz2⟩ := hcc' k y hyk
        clear hcc hcell hcc' hcell4 hxk hyk hx hy
        have i1 : (k : Int) < (r.length : Int) := by omega
        have i2 : (k : Int) < (q.length : Int) := by omega
        have i3 : decide ((k : Int) < (r.length : Int)) = true := decide_eq_true i1
        have ks := fun a => (texts_any z1 z2 x.2.2 y.2.2 (w.drewN (m + a)) (hz1.drewN _) (hz2.drewN _) hxl hyl).mono (fun e w'' h => (show e = .returned (.bool (decide (x.2.2 = y.2.2))) ∧ ∃ n, w'' = w.drewN (m + n) from ⟨h.1, h.2.elim fun n hn => ⟨a + n, by rw [hn, World.drewN_drewN, Nat.add_assoc]⟩⟩))
        obtain ⟨s1, d1, e5, _, _⟩ := hz1
        obtain ⟨s2, d2, e6, _, _⟩ := hz2
        subst e5 e6
        by_cases ho : x.1 = y.1
        · have b1 : (x.1 == y.1) = true := by simpa using ho
          have b1n : (x.1 != y.1) = false := by simp [ho]
          by_cases ht : x.2.1 = y.2.1
          · have b2 : (x.2.1 == y.2.1) = true := by simpa using ht
            have b2n : (x.2.1 != y.2.1) = false := by simp [ht]
            by_cases hv : x.2.2 = y.2.2
            · have hxy : x = y := Prod.ext ho (Prod.ext ht hv)
              rw [decide_eq_true hv] at ks
              have hans2 : decide (r.drop (k + 1) = q.drop (k + 1)) = ANS := by rw [← hans]; exact decide_eq_decide.2 (by simp [hxy])
              have HS := Lib.hid hans2
              clear hans hans2 ho ht hv hxy
              go_wp2
              go_quiet (exact ks _)
              go_wp2
              exact ⟨⟨k + 1, _, by go_num, by omega, rfl, HS.out⟩, by simp [RowKit.intOf]; omega⟩
            · have e : ANS = false := by rw [← hans]; exact decide_eq_false (fun e => hv (by rw [(List.cons.inj e).1]))
              subst e
              rw [decide_eq_false hv] at ks
              clear hans ho ht hv
              go_wp2
              go_quiet (exact ks _)
              go_wp2
              go_ret
              first | exact ⟨rfl, _, rfl⟩ | exact ⟨rfl, _, World.drewN_drewN _ _ _⟩
          · have b2 : (x.2.1 == y.2.1) = false := by simpa using ht
            have b2n : (x.2.1 != y.2.1) = true := by simp [ht]
            have e : ANS = false := by rw [← hans]; exact decide_eq_false (fun e => ht (by rw [(List.cons.inj e).1]))
            subst e
            clear hans ho ht ks
            go_wp2
            go_quiet (fail)
            go_wp2
            go_ret
            first | exact ⟨rfl, _, rfl⟩ | exact ⟨rfl, _, World.drewN_drewN _ _ _⟩
        · have b1 : (x.1 == y.1) = false := by simpa using ho
          have b1n : (x.1 != y.1) = true := by simp [ho]
          have e : ANS = false := by rw [← hans]; exact decide_eq_false (fun e => ho (by rw [(List.cons.inj e).1]))
          subst e
          clear hans ho ks
          go_wp2
          go_quiet (fail)
          go_wp2
          go_ret
          exact ⟨rfl, _, World.drewN_drewN _ _ _⟩
      · obtain rfl : k = r.length := by omega
        have e : ANS = true := by rw [← hans, List.drop_of_length_le (Nat.le_refl _), hlen, List.drop_of_length_le (Nat.le_refl _)]; rfl
        subst e
        go_wp2_with fail
        go_ret
        first | exact ⟨rfl, _, rfl⟩ | exact ⟨rfl, _, World.drewN_drewN _ _ _⟩
  · have hq : ((r.length : Int) == (q.length : Int)) = false := by simpa using (fun e => hlen (by omega))
    have e : decide (r = q) = false := decide_eq_false (fun e => hlen (by rw [e]))
    rw [e]
    go_enter Tryd.func38, Tryd.ntmps38
    go_wp2_with fail
    go_ret
    exact ⟨rfl, 0, rfl⟩
set_option maxRecDepth 100000 in
set_option maxHeartbeats 4000000 in
theorem SameAttrs_any (v u : Value) (r q : List At) (w : World) (h1 : AttrsAt w v r) (h2 : AttrsAt w u q) (hl : r.length ≤ 140737488355328) (_hl2 : q.length ≤ 140737488355328) (hr : ∀ x ∈ r, x.2.length ≤ 140737488355328) (hq : ∀ x ∈ q, x.2.length ≤ 140737488355328) :
    Calls Tryd.prog 37 #[v, u] w fun e w' => e = .returned (.bool (decide (r = q))) ∧ ∃ m, w' = w.drewN m := by
  have H1 := Lib.hid h1
  have H2 := Lib.hid h2
  have H3 := Lib.hid hr
  have H4 := Lib.hid hq
  clear hr hq
  obtain ⟨a1, c1, rfl, hc1, hx1⟩ := h1
  obtain ⟨a2, c2, rfl, hc2, hx2⟩ := h2
  clear hx1 hx2
  by_cases hlen : r.length = q.length
  · have hq : ((r.length : Int) == (q.length : Int)) = true := by rw [hlen]; simp
    obtain ⟨ANS, hA⟩ : ∃ ANS, decide (r = q) = ANS := ⟨_, rfl⟩
    rw [hA]
    have HA := Lib.hid hA
    clear hA
    go_enter Tryd.func37, Tryd.ntmps37
    go_wp2_with fail
    go_loopw [5] (fun i wr => ∃ k m : Nat, i = .int .i64 (k : Int) ∧ k ≤ r.length ∧ wr = w.drewN m ∧ decide (r.drop k = q.drop k) = ANS) (fun i _ => r.length - (RowKit.intOf i).toNat)
    case atStart => exact ⟨0, 0, rfl, by omega, rfl, HA.out⟩
    case round =>
      obtain ⟨k, m, rfl, hk, rfl, hans⟩ := hrel
      clear HA
      by_cases hkl : k < r.length
      · have hkl2 : k < q.length := by omega
        obtain ⟨x, hx⟩ : ∃ x, r[k] = x := ⟨_, rfl⟩
        obtain ⟨y, hy⟩ : ∃ y, q[k] = y := ⟨_, rfl⟩
        have hxk : r[k]? = some x := by rw [List.getElem?_eq_getElem hkl, hx]
        have hyk : q[k]? = some y := by rw [List.getElem?_eq_getElem hkl2, hy]
        have hr0 : r ≠ [] := by intro e; rw [e] at hkl; simp at hkl
        have hq0 : q ≠ [] := by intro e; rw [e] at hkl2; simp at hkl2
        have hxl := H3.out x (List.mem_of_getElem? hxk)
        have hyl := H4.out y (List.mem_of_getElem? hyk)
        rw [List.drop_eq_getElem_cons hkl, hx, List.drop_eq_getElem_cons hkl2, hy] at hans
        obtain ⟨a3, cap3, e3, _, hcell⟩ := H1.out
        obtain ⟨g, o, ha, hcc⟩ := hcell hr0
        obtain ⟨a4, cap4, e4, _, hcell4⟩ := H2.out
        obtain ⟨g', o', ha', hcc'⟩ := hcell4 hq0
        cases e3
        cases e4
        subst ha ha'
        obtain ⟨p1, z1, p3, hz1⟩ := hcc k x hxk
        obtain ⟨r1, z2, r3, hz2⟩ := hcc' k y hyk
        clear hcc hcell hcc' hcell4 hxk hyk hx hy
        have i1 : (k : Int) < (r.length : Int) := by omega
        have i2 : (k : Int) < (q.length : Int) := by omega
        have i3 : decide ((k : Int) < (r.length : Int)) = true := decide_eq_true i1
        have HZ1 := Lib.hid hz1
        have HZ2 := Lib.hid hz2
        obtain ⟨s1, d1, e5, _, _⟩ := hz1
        obtain ⟨s2, d2, e6, _, _⟩ := hz2
        subst e5 e6
        by_cases ht : x.1 = y.1
        · have b1 : (x.1 == y.1) = true := by simpa using ht
          have b1n : (x.1 != y.1) = false := by simp [ht]
          by_cases hv : x.2.length = y.2.length
          · have b2 : ((x.2.length : Int) == (y.2.length : Int)) = true := by rw [hv]; simp
            have hans2 : decide (x.2.drop 0 = y.2.drop 0 ∧ r.drop (k + 1) = q.drop (k + 1)) = ANS := by
              rw [← hans]
              refine decide_eq_decide.2 ⟨fun h => ?_, fun h => ?_⟩
              · have : x = y := Prod.ext ht (by simpa using h.1)
                rw [this, h.2]
              · have := List.cons.inj h
                exact ⟨by rw [this.1], this.2⟩
            have HS := Lib.hid hans2
            clear hans hans2 ht
            go_wp2
            go_quiet (fail)
            go_wp2
            go_loopw [6] (fun i wr => ∃ j m : Nat, i = .int .i64 (j : Int) ∧ j ≤ x.2.length ∧ wr = w.drewN m ∧ decide (x.2.drop j = y.2.drop j ∧ r.drop (k + 1) = q.drop (k + 1)) = ANS) (fun i _ => x.2.length - (RowKit.intOf i).toNat)
            case atStart => exact ⟨0, _, rfl, by omega, World.drewN_drewN _ _ _, HS.out⟩
            case round =>
              obtain ⟨j, m2, rfl, hj, rfl, hans⟩ := hrel
              clear HS
              by_cases hjl : j < x.2.length
              · have hjl2 : j < y.2.length := by omega
                obtain ⟨xv, hxv⟩ : ∃ z, x.2[j] = z := ⟨_, rfl⟩
                obtain ⟨yv, hyv⟩ : ∃ z, y.2[j] = z := ⟨_, rfl⟩
                have hxk : x.2[j]? = some xv := by rw [List.getElem?_eq_getElem hjl, hxv]
                have hyk : y.2[j]? = some yv := by rw [List.getElem?_eq_getElem hjl2, hyv]
                have hr0 : x.2 ≠ [] := by intro e; rw [e] at hjl; simp at hjl
                have hq0 : y.2 ≠ [] := by intro e; rw [e] at hjl2; simp at hjl2
                rw [List.drop_eq_getElem_cons hjl, hxv, List.drop_eq_getElem_cons hjl2, hyv] at hans
                obtain ⟨a5, cap5, e5, _, hcell⟩ := HZ1.out
                obtain ⟨g5, o5, ha, hcc⟩ := hcell hr0
                obtain ⟨a6, cap6, e6, _, hcell4⟩ := HZ2.out
                obtain ⟨g6, o6, ha', hcc'⟩ := hcell4 hq0
                cases e5
                cases e6
                subst ha ha'
                have t1 := hcc j xv hxk
                have t2 := hcc' j yv hyk
                clear hcc hcell hcc' hcell4 hxk hyk hxv hyv
                have i4 : (j : Int) < (x.2.length : Int) := by omega
                have i5 : (j : Int) < (y.2.length : Int) := by omega
                have i6 : decide ((j : Int) < (x.2.length : Int)) = true := decide_eq_true i4
                by_cases hxy : xv = yv
                · subst hxy
                  have hans2 : decide (x.2.drop (j + 1) = y.2.drop (j + 1) ∧ r.drop (k + 1) = q.drop (k + 1)) = ANS := by rw [← hans]; exact decide_eq_decide.2 (by simp)
                  have HS := Lib.hid hans2
                  clear hans hans2
                  go_wp2
                  go_quiet (fail)
                  go_wp2
                  exact ⟨⟨j + 1, _, by go_num, by omega, rfl, HS.out⟩, by simp [RowKit.intOf]; omega⟩
                · have e : ANS = false := by rw [← hans]; exact decide_eq_false (fun e => hxy (List.cons.inj e.1).1)
                  subst e
                  clear hans
                  have b3 : (xv == yv) = false := by simpa using hxy
                  have b3n : (xv != yv) = true := by simp [hxy]
                  clear hxy
                  go_wp2
                  go_quiet (fail)
                  go_wp2
                  go_ret
                  first | exact ⟨rfl, _, rfl⟩ | exact ⟨rfl, _, World.drewN_drewN _ _ _⟩
              · obtain rfl : j = x.2.length := by omega
                have hans2 : decide (r.drop (k + 1) = q.drop (k + 1)) = ANS := by
                  rw [← hans, List.drop_of_length_le (Nat.le_refl _), hv, List.drop_of_length_le (Nat.le_refl _)]
                  simp
                have HS := Lib.hid hans2
                clear hans hans2
                go_wp2_with fail
                exact ⟨⟨k + 1, _, by go_num, by omega, rfl, HS.out⟩, by simp [RowKit.intOf]; omega⟩
          · have b2 : ((x.2.length : Int) == (y.2.length : Int)) = false := by simpa using (fun e => hv (by omega))
            have e : ANS = false := by rw [← hans]; exact decide_eq_false (fun e => hv (by rw [(List.cons.inj e).1]))
            subst e
            clear hans ht hv
            go_wp2
            go_quiet (fail)
            go_wp2
            go_ret
            first | exact ⟨rfl, _, rfl⟩ | exact ⟨rfl, _, World.drewN_drewN _ _ _⟩
        · have b1 : (x.1 == y.1) = false := by simpa using ht
          have b1n : (x.1 != y.1) = true := by simp [ht]
          have e : ANS = false := by rw [← hans]; exact decide_eq_false (fun e => ht (by rw [(List.cons.inj e).1]))
          subst e
          clear hans ht
          go_wp2
          go_quiet (fail)
          go_wp2
          go_ret
          exact ⟨rfl, _, World.drewN_drewN _ _ _⟩
      · obtain rfl : k = r.length := by omega
        have e : ANS = true := by rw [← hans, List.drop_of_length_le (Nat.le_refl _), hlen, List.drop_of_length_le (Nat.le_refl _)]; rfl
        subst e
        go_wp2_with fail
        go_ret
        first | exact ⟨rfl, _, rfl⟩ | exact ⟨rfl, _, World.drewN_drewN _ _ _⟩
  · have hq : ((r.length : Int) == (q.length : Int)) = false := by simpa using (fun e => hlen (by omega))
    have e : decide (r = q) = false := decide_eq_false (fun e => hlen (by rw [e]))
    rw [e]
    go_enter Tryd.func37, Tryd.ntmps37
    go_wp2_with fail
    go_ret
    exact ⟨rfl, 0, rfl⟩
end Go.Proofs.YtehpdodjncabkaaDoor
