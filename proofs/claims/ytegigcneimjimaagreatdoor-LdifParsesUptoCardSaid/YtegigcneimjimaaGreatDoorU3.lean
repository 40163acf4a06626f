/- LdC, LdM, LdD, StepR. -/
import Derived.Deep.CutBlock
import Derived.Deep.DeepCutAuto
import Derived.Deep.CutRange
import Derived.Deep.RegionHeld3
import Derived.RegionTactic
import Derived.Test.YtegigcneimjimaaGreatDoorU2
namespace Go.Proofs.YtegigcneimjimaaGreatDoor
open Go.RowKit Go.Lib
set_option maxRecDepth 100000
set_option maxHeartbeats 16000000
def StrsAt (w : World) (v : Value) (ls : List (List UInt8)) : Prop :=
  ∃ a cap, v = .slice a ls.length cap ∧ ls.length ≤ cap ∧ (ls ≠ [] → ∃ g o, a = some ⟨g, o, none⟩ ∧ ∀ (j : Nat) (x : List UInt8), ls[j]? = some x → w.cell? ⟨g, o + j, none⟩ = some (.string ⟨x.toArray⟩))
def AttrsAt (w : World) (v : Value) (al : List At) : Prop :=
  ∃ a cap, v = .slice a al.length cap ∧ al.length ≤ cap ∧ (al ≠ [] → ∃ g o, a = some ⟨g, o, none⟩ ∧ ∀ (j : Nat) (x : At), al[j]? = some x → w.cell? ⟨g, o + j * 2, none⟩ = some (.string ⟨x.1.toArray⟩) ∧ ∃ u, w.cell? ⟨g, o + j * 2 + 1, none⟩ = some u ∧ StrsAt w u x.2)
theorem StrsAt.below {w w' : World} {v : Value} {ls : List (List UInt8)} (h : StrsAt w v ls) (hb : Below w.heap.size w w') : StrsAt w' v ls := by
  obtain ⟨a, cap, hv, hc, hr⟩ := h
  refine ⟨a, cap, hv, hc, fun h0 => ?_⟩
  obtain ⟨g, o, ha, hcell⟩ := hr h0
  exact ⟨g, o, ha, fun j x hj => (hb.cell (lt_of_cell (hcell j x hj))).trans (hcell j x hj)⟩
theorem AttrsAt.below {w w' : World} {v : Value} {al : List At} (h : AttrsAt w v al) (hb : Below w.heap.size w w') : AttrsAt w' v al := by
  obtain ⟨a, cap, hv, hc, hr⟩ := h
  refine ⟨a, cap, hv, hc, fun h0 => ?_⟩
  obtain ⟨g, o, ha, hcell⟩ := hr h0
  refine ⟨g, o, ha, fun j x hj => ?_⟩
  obtain ⟨h1, u, h2, h3⟩ := hcell j x hj
  exact ⟨(hb.cell (lt_of_cell h1)).trans h1, u, (hb.cell (lt_of_cell h2)).trans h2, h3.below hb⟩
theorem attrB_snoc (al : List At) (k : Nat) (x : At) (h : al[k]? = some x) : attrB (al.take (k + 1)) = attrB (al.take k) ++ valsB x.1 x.2 := by
  rw [List.take_add_one, h]
  simp [attrB]
theorem valsB_snoc (t : List UInt8) (vs : List (List UInt8)) (k : Nat) (x : List UInt8) (h : vs[k]? = some x) : valsB t (vs.take (k + 1)) = valsB t (vs.take k) ++ lineB t x := by
  rw [List.take_add_one, h]
  simp [valsB]
theorem attrB_part (al : List At) (k : Nat) : (attrB (al.take k)).length ≤ (attrB al).length := by
  have e : attrB al = attrB (al.take k) ++ attrB (al.drop k) := by
    have h : ∀ a b : List At, attrB (a ++ b) = attrB a ++ attrB b := fun a b => by simp [attrB]
    rw [← h, List.take_append_drop]
  rw [e, List.length_append]
  omega
theorem attrB_next (al : List At) (k : Nat) (x : At) (h : al[k]? = some x) : (attrB (al.take k)).length + (valsB x.1 x.2).length ≤ (attrB al).length := by
  have h1 := attrB_part al (k + 1)
  rw [attrB_snoc al k x h, List.length_append] at h1
  exact h1
theorem valsB_part (t : List UInt8) (vs : List (List UInt8)) (k : Nat) : (valsB t (vs.take k)).length ≤ (valsB t vs).length := by
  have e : valsB t vs = valsB t (vs.take k) ++ valsB t (vs.drop k) := by
    have h : ∀ a b : List (List UInt8), valsB t (a ++ b) = valsB t a ++ valsB t b := fun a b => by simp [valsB]
    rw [← h, List.take_append_drop]
  rw [e, List.length_append]
  omega
theorem IsW.lt {B b : Nat} {l : List UInt8} {w : World} (h : IsW B b l w) : b < w.heap.size := by
  rcases h with h | h
  · obtain ⟨_, v, hh, _⟩ := h; exact (Array.getElem?_eq_some_iff.1 hh).1
  · obtain ⟨_, v, hh, _⟩ := h; exact (Array.getElem?_eq_some_iff.1 hh).1
def R1 (B b : Nat) (l : List UInt8) (al : List At) (w : World) (i : Value) (wr : World) : Prop :=
  ∃ k : Nat, i = .int .i64 (k : Int) ∧ k ≤ al.length ∧ IsW B b (l ++ attrB (al.take k)) wr ∧ Below B w wr ∧ WKept b w wr
def R2 (B b : Nat) (l t : List UInt8) (vs : List (List UInt8)) (w wo : World) (i : Value) (wr : World) : Prop :=
  ∃ k : Nat, i = .int .i64 (k : Int) ∧ k ≤ vs.length ∧ IsW B b (l ++ valsB t (vs.take k)) wr ∧ Below B w wr ∧ WKept b wo wr
theorem rest1_any (B b cb pb : Nat) (l : List UInt8) (vA : Value) (al : List At) (cs : Array Value) (w0 w : World) (hW : IsW B b l w) (hA : AttrsAt w0 vA al) (h0 : Below w0.heap.size w0 w) (hB0 : w0.heap.size ≤ B) (hBw : B ≤ w.heap.size)
    (hcb : w.heap[cb]? = some (.cells cs 47 (0, 0))) (hc4 : cs[4]? = some vA) (hpb : w.heap[pb]? = some (.cells #[.pointer (some ⟨b, 0, none⟩)] 273 (0, 0))) (_hcn : cb ≠ b) (hpn : pb ≠ b)
    (hal : al.length ≤ 1099511627776) (hlen : l.length + (attrB al).length ≤ 1099511627776) (hty : ∀ x ∈ al, x.1.length ≤ 1099511627776 ∧ x.2.length ≤ 1099511627776 ∧ ∀ v ∈ x.2, v.length ≤ 1099511627776) :
    Calls Tryz.prog 219 #[.pointer (some ⟨cb, 0, none⟩), .pointer (some ⟨pb, 0, none⟩)] w fun e w' => e = .returned (.tuple #[]) ∧ (IsW B b (l ++ attrB al) w' ∧ Below B w w' ∧ WKept b w w') := by
  have HT := Lib.hid hty
  have HH := Lib.hid hA
  obtain ⟨aA, cA, hvA, hcA, _⟩ := hA
  subst hvA
  have c4 : w.cell? ⟨cb, 4, none⟩ = some (.slice aA al.length cA) := by rw [Lib.cell_of_heap hcb]; exact hc4
  clear hty
  go_enter Tryz.func219, Tryz.ntmps219
  go_wp2_with fail
  clear c4
  go_loopw [9] (fun i wr => R1 B b l al w i wr) (fun i _ => al.length - (RowKit.intOf i).toNat)
  case atStart => exact ⟨0, rfl, by omega, by simpa [attrB] using hW, Below.refl _ _, WKept.refl _ _⟩
  case round =>
    clear hW
    obtain ⟨k, rfl, hk, hW, hbe, hkw⟩ := hrel
    have hb0 : Below w0.heap.size w0 wr := h0.trans (hbe.mono hB0)
    by_cases hkl : k < al.length
    · obtain ⟨x, hx⟩ : ∃ x, al[k] = x := ⟨_, rfl⟩
      have hxk : al[k]? = some x := by rw [List.getElem?_eq_getElem hkl, hx]
      have hne : al ≠ [] := by intro e; rw [e] at hkl; simp at hkl
      have hmem : x ∈ al := List.mem_of_getElem? hxk
      obtain ⟨hx1, hx2, hx3⟩ := HT.out x hmem
      obtain ⟨a2, c2, e2, _, hcell⟩ := HH.out
      obtain ⟨g, o, hag, hcc⟩ := hcell hne
      cases e2
      subst hag
      obtain ⟨p1', u, p2', hu⟩ := hcc k x hxk
      have p1 := (hb0.cell (lt_of_cell p1')).trans p1'
      have p2 := (hb0.cell (lt_of_cell p2')).trans p2'
      clear p1' p2'
      have hnx := attrB_next al k x hxk
      have hsn := attrB_snoc al k x hxk
      obtain ⟨l2, hl2⟩ : ∃ l2, l ++ attrB (al.take k) = l2 := ⟨_, rfl⟩
      have hl2l : l2.length + (valsB x.1 x.2).length ≤ 1099511627776 := by rw [← hl2, List.length_append]; omega
      have hsn2 : l ++ attrB (al.take (k + 1)) = l2 ++ valsB x.1 x.2 := by rw [hsn, ← hl2, List.append_assoc]
      rw [hl2] at hW
      have HSN := Lib.hid hsn2
      have HX3 := Lib.hid hx3
      have HU := Lib.hid hu
      obtain ⟨au, cu, hue, _, _⟩ := hu
      subst hue
      clear hcc hcell hx hxk hne hmem hnx hsn hsn2 hl2 hx3
      have gk : decide ((k : Int) < (al.length : Int)) = true := decide_eq_true (by omega)
      have gk2 : (k : Int) < (al.length : Int) := by omega
      have hbA : Below w0.heap.size w0 (wr.alloc (.cells #[.string ⟨x.1.toArray⟩, .slice au x.2.length cu] 179)) := hb0.alloc hb0.size _
      have hWA : IsW B b l2 (wr.alloc (.cells #[.string ⟨x.1.toArray⟩, .slice au x.2.length cu] 179)) := IsW.below hW ((Below.refl _ _).alloc (Nat.le_refl _) _)
      have hbB : Below B w (wr.alloc (.cells #[.string ⟨x.1.toArray⟩, .slice au x.2.length cu] 179)) := hbe.alloc (Nat.le_trans hBw hbe.size) _
      have hkA := hkw.alloc (.cells #[.string ⟨x.1.toArray⟩, .slice au x.2.length cu] 179)
      have hgA : (wr.alloc (.cells #[.string ⟨x.1.toArray⟩, .slice au x.2.length cu] 179)).heap[wr.heap.size]? = some (.cells #[.string ⟨x.1.toArray⟩, .slice au x.2.length cu] 179 (0, 0)) := alloc_at _ _ _ rfl
      have hnb : wr.heap.size ≠ b := by
        have h1 : b < wr.heap.size := IsW.lt hW
        omega
      clear hW hbe hkw hb0
      go_wp2_with fail
      generalize wr.alloc (.cells #[.string ⟨x.1.toArray⟩, .slice au x.2.length cu] 179) = wo at hbA hWA hbB hkA hgA ⊢
      clear p1 p2
      generalize wr.heap.size = G at hgA hnb ⊢
      have hB2 : B ≤ wo.heap.size := Nat.le_trans hBw hbB.size
      go_loopw [16] (fun i wq => R2 B b l2 x.1 x.2 w wo i wq) (fun i _ => x.2.length - (RowKit.intOf i).toNat)
      case atStart => exact ⟨0, rfl, by omega, by simpa [valsB] using hWA, hbB, WKept.refl _ _⟩
      case round =>
        obtain ⟨j, rfl, hj, hWq, hbq, hkq⟩ := hrel
        have hq0 : Below w0.heap.size w0 wr := h0.trans (hbq.mono hB0)
        have hgq := hkq.2 G _ _ _ hgA hnb (by decide)
        have hpq := (hkA.trans hkq).2 pb _ _ _ hpb hpn (by decide)
        have c0 : wr.cell? ⟨G, 0, none⟩ = some (.string ⟨x.1.toArray⟩) := by rw [Lib.cell_of_heap hgq]; rfl
        have cp : wr.cell? ⟨pb, 0, none⟩ = some (.pointer (some ⟨b, 0, none⟩)) := by rw [Lib.cell_of_heap hpq]; rfl
        by_cases hjl : j < x.2.length
        · obtain ⟨y, hy⟩ : ∃ y, x.2[j] = y := ⟨_, rfl⟩
          have hyk : x.2[j]? = some y := by rw [List.getElem?_eq_getElem hjl, hy]
          have hyne : x.2 ≠ [] := by intro e; rw [e] at hjl; simp at hjl
          have hyl := HX3.out y (List.mem_of_getElem? hyk)
          obtain ⟨a3, c3, e3, _, hcell3⟩ := HU.out.below hq0
          obtain ⟨g3, o3, ha3, hcc3⟩ := hcell3 hyne
          cases e3
          subst ha3
          have py := hcc3 j y hyk
          have hvs := valsB_snoc x.1 x.2 j y hyk
          have hvp := valsB_part x.1 x.2 j
          obtain ⟨l3, hl3⟩ : ∃ l3, l2 ++ valsB x.1 (x.2.take j) = l3 := ⟨_, rfl⟩
          have hl3l : l3.length ≤ 1099511627776 := by rw [← hl3, List.length_append]; omega
          have hnext : l2 ++ valsB x.1 (x.2.take (j + 1)) = l3 ++ lineB x.1 y := by rw [hvs, ← hl3, List.append_assoc]
          have HNX := Lib.hid hnext
          rw [hl3] at hWq
          have kl := line_any B b l3 x.1 y wr hWq hl3l hx1 hyl (Nat.le_trans hBw hbq.size)
          clear hcc3 hcell3 hy hyk hyne hvs hvp hl3 hnext
          have gj : decide ((j : Int) < (x.2.length : Int)) = true := decide_eq_true (by omega)
          have gj2 : (j : Int) < (x.2.length : Int) := by omega
          go_wp2_with (go_at_call 132; refine Calls.mono (show Calls _ _ _ _ _ from kl) ?_; rintro e w5 ⟨rfl, hW5, hb5, hk5⟩)
          go_roundw
          case rel => exact ⟨j + 1, by go_num, by omega, by rw [HNX.out]; exact hW5, hbq.trans hb5, hkq.trans hk5⟩
          case measure => simp [RowKit.intOf]; omega
        · obtain rfl : j = x.2.length := by omega
          rw [List.take_of_length_le (Nat.le_refl _)] at hWq
          have gj : decide ((x.2.length : Int) < (x.2.length : Int)) = false := decide_eq_false (by omega)
          have gj2 : ¬ x.2.length < x.2.length := by omega
          go_wp2_with fail
          go_roundw
          case rel => exact ⟨k + 1, by go_num, by omega, by rw [HSN.out]; exact hWq, hbq, hkA.trans hkq⟩
          case measure => simp [RowKit.intOf]; omega
    · obtain rfl : k = al.length := by omega
      rw [List.take_of_length_le (Nat.le_refl _)] at hW
      have gk : decide ((al.length : Int) < (al.length : Int)) = false := decide_eq_false (by omega)
      go_wp2_with fail
      go_end0
      exact ⟨rfl, hW, hbe, hkw⟩
theorem lineB_len (n v : List UInt8) : (lineB n v).length ≤ n.length + 2 * v.length + 8 := by
  unfold lineB
  split
  · simp; omega
  · simp only [List.length_append, b64_length v.length v (Nat.le_refl _)]
    simp
    omega
theorem rest3_any (B b cb pb : Nat) (l : List UInt8) (c : Chg) (cs : Array Value) (w : World) (hW : IsW B b l w) (hBw : B ≤ w.heap.size)
    (hcb : w.heap[cb]? = some (.cells cs 47 (0, 0))) (hc6 : cs[6]? = some (.string ⟨c.newRdn.toArray⟩)) (hc7 : cs[7]? = some (.string ⟨c.newSup.toArray⟩)) (hc8 : cs[8]? = some (.bool c.delOld)) (hc9 : cs[9]? = some (.bool c.hasSup))
    (hpb : w.heap[pb]? = some (.cells #[.pointer (some ⟨b, 0, none⟩)] 273 (0, 0))) (hcn : cb ≠ b) (hpn : pb ≠ b)
    (hl : l.length ≤ 1000000000) (hn6 : c.newRdn.length ≤ 1000000000) (hn7 : c.newSup.length ≤ 1000000000) :
    Calls Tryz.prog 222 #[.pointer (some ⟨pb, 0, none⟩), .pointer (some ⟨cb, 0, none⟩)] w fun e w' => e = .returned (.tuple #[]) ∧ (IsW B b (l ++ moveB c) w' ∧ Below B w w' ∧ WKept b w w') := by
  have facts : ∀ w' : World, WKept b w w' → w'.cell? ⟨cb, 6, none⟩ = some (.string ⟨c.newRdn.toArray⟩) ∧ w'.cell? ⟨cb, 7, none⟩ = some (.string ⟨c.newSup.toArray⟩) ∧ w'.cell? ⟨cb, 8, none⟩ = some (.bool c.delOld) ∧ w'.cell? ⟨cb, 9, none⟩ = some (.bool c.hasSup) ∧ w'.cell? ⟨pb, 0, none⟩ = some (.pointer (some ⟨b, 0, none⟩)) := by
    intro w' hk
    have h1 := hk.2 cb _ _ _ hcb hcn (by decide)
    have h2 := hk.2 pb _ _ _ hpb hpn (by decide)
    refine ⟨?_, ?_, ?_, ?_, ?_⟩
    · rw [Lib.cell_of_heap h1]; exact hc6
    · rw [Lib.cell_of_heap h1]; exact hc7
    · rw [Lib.cell_of_heap h1]; exact hc8
    · rw [Lib.cell_of_heap h1]; exact hc9
    · rw [Lib.cell_of_heap h2]; rfl
  have HF := Lib.hid facts
  clear facts hcb hpb hc6 hc7 hc8 hc9
  obtain ⟨q6, q7, q8, q9, qp⟩ := HF.out w (WKept.refl b w)
  have hx1 := lineB_len [110, 101, 119, 114, 100, 110] c.newRdn
  have hmv : moveB c = lineB [110, 101, 119, 114, 100, 110] c.newRdn ++ lineB [100, 101, 108, 101, 116, 101, 111, 108, 100, 114, 100, 110] (if c.delOld then [49] else [48]) ++ (if c.hasSup then lineB [110, 101, 119, 115, 117, 112, 101, 114, 105, 111, 114] c.newSup else []) := rfl
  rw [hmv]
  clear hmv
  have k1 := line_any B b l [110, 101, 119, 114, 100, 110] c.newRdn w hW (by omega) (by simp) (by omega) hBw
  obtain ⟨N6, hN6⟩ : ∃ N6, c.newRdn = N6 := ⟨_, rfl⟩
  obtain ⟨N7, hN7⟩ : ∃ N7, c.newSup = N7 := ⟨_, rfl⟩
  obtain ⟨D, hD⟩ : ∃ D, c.delOld = D := ⟨_, rfl⟩
  obtain ⟨S, hS⟩ : ∃ S, c.hasSup = S := ⟨_, rfl⟩
  rw [hN6, hN7, hD, hS] at HF
  rw [hN6] at k1 hx1 q6 hn6 ⊢
  rw [hN7] at q7 hn7 ⊢
  rw [hD] at q8 ⊢
  rw [hS] at q9 ⊢
  clear hN6 hN7 hD hS
  obtain ⟨M1, hM1⟩ : ∃ M1, lineB [110, 101, 119, 114, 100, 110] N6 = M1 := ⟨_, rfl⟩
  rw [hM1] at k1 hx1 ⊢
  clear hM1
  simp only [List.length_cons, List.length_nil] at hx1
  cases D <;> cases S
  all_goals
    go_enter Tryz.func222, Tryz.ntmps222
    go_wp2_with fail
    refine Calls.mono (show Calls _ _ _ _ _ from k1) ?_
    rintro e w1 ⟨rfl, hW1, hb1, hk1⟩
    clear q6 q7 q8 q9 qp
    obtain ⟨q6, q7, q8, q9, qp⟩ := HF.out w1 hk1
    go_wp2_with fail
  · refine Calls.mono (show Calls _ _ _ _ _ from line_any B b (l ++ M1) [100, 101, 108, 101, 116, 101, 111, 108, 100, 114, 100, 110] [48] w1 hW1 (by rw [List.length_append]; omega) (by simp) (by simp) (Nat.le_trans hBw hb1.size)) ?_
    rintro e w2 ⟨rfl, hW2, hb2, hk2⟩
    clear q6 q7 q8 q9 qp
    obtain ⟨q6, q7, q8, q9, qp⟩ := HF.out w2 (hk1.trans hk2)
    go_wp2_with fail
    go_end0
    exact ⟨rfl, by simpa using hW2, hb1.trans hb2, hk1.trans hk2⟩
  · refine Calls.mono (show Calls _ _ _ _ _ from line_any B b (l ++ M1) [100, 101, 108, 101, 116, 101, 111, 108, 100, 114, 100, 110] [48] w1 hW1 (by rw [List.length_append]; omega) (by simp) (by simp) (Nat.le_trans hBw hb1.size)) ?_
    rintro e w2 ⟨rfl, hW2, hb2, hk2⟩
    clear q6 q7 q8 q9 qp
    obtain ⟨q6, q7, q8, q9, qp⟩ := HF.out w2 (hk1.trans hk2)
    have hx2 := lineB_len [100, 101, 108, 101, 116, 101, 111, 108, 100, 114, 100, 110] [48]
    simp only [List.length_cons, List.length_nil] at hx2
    obtain ⟨M2, hM2⟩ : ∃ M2, lineB [100, 101, 108, 101, 116, 101, 111, 108, 100, 114, 100, 110] [48] = M2 := ⟨_, rfl⟩
    rw [hM2] at hx2 hW2
    go_wp2_with fail
    refine Calls.mono (show Calls _ _ _ _ _ from line_any B b (l ++ M1 ++ M2) [110, 101, 119, 115, 117, 112, 101, 114, 105, 111, 114] N7 w2 hW2 (by simp only [List.length_append]; omega) (by simp) (by omega) (Nat.le_trans (Nat.le_trans hBw hb1.size) hb2.size)) ?_
    rintro e w3 ⟨rfl, hW3, hb3, hk3⟩
    go_wp2_with fail
    go_end0
    refine ⟨rfl, ?_, (hb1.trans hb2).trans hb3, (hk1.trans hk2).trans hk3⟩
    first | simpa [List.append_assoc] using hW3 | (rw [← hM2] at hW3; simpa [List.append_assoc] using hW3)
  · refine Calls.mono (show Calls _ _ _ _ _ from line_any B b (l ++ M1) [100, 101, 108, 101, 116, 101, 111, 108, 100, 114, 100, 110] [49] w1 hW1 (by rw [List.length_append]; omega) (by simp) (by simp) (Nat.le_trans hBw hb1.size)) ?_
    rintro e w2 ⟨rfl, hW2, hb2, hk2⟩
    clear q6 q7 q8 q9 qp
    obtain ⟨q6, q7, q8, q9, qp⟩ := HF.out w2 (hk1.trans hk2)
    go_wp2_with fail
    go_end0
    exact ⟨rfl, by simpa using hW2, hb1.trans hb2, hk1.trans hk2⟩
  · refine Calls.mono (show Calls _ _ _ _ _ from line_any B b (l ++ M1) [100, 101, 108, 101, 116, 101, 111, 108, 100, 114, 100, 110] [49] w1 hW1 (by rw [List.length_append]; omega) (by simp) (by simp) (Nat.le_trans hBw hb1.size)) ?_
    rintro e w2 ⟨rfl, hW2, hb2, hk2⟩
    clear q6 q7 q8 q9 qp
    obtain ⟨q6, q7, q8, q9, qp⟩ := HF.out w2 (hk1.trans hk2)
    have hx2 := lineB_len [100, 101, 108, 101, 116, 101, 111, 108, 100, 114, 100, 110] [49]
    simp only [List.length_cons, List.length_nil] at hx2
    obtain ⟨M2, hM2⟩ : ∃ M2, lineB [100, 101, 108, 101, 116, 101, 111, 108, 100, 114, 100, 110] [49] = M2 := ⟨_, rfl⟩
    rw [hM2] at hx2 hW2
    go_wp2_with fail
    refine Calls.mono (show Calls _ _ _ _ _ from line_any B b (l ++ M1 ++ M2) [110, 101, 119, 115, 117, 112, 101, 114, 105, 111, 114] N7 w2 hW2 (by simp only [List.length_append]; omega) (by simp) (by omega) (Nat.le_trans (Nat.le_trans hBw hb1.size) hb2.size)) ?_
    rintro e w3 ⟨rfl, hW3, hb3, hk3⟩
    go_wp2_with fail
    go_end0
    refine ⟨rfl, ?_, (hb1.trans hb2).trans hb3, (hk1.trans hk2).trans hk3⟩
    first | simpa [List.append_assoc] using hW3 | (rw [← hM2] at hW3; simpa [List.append_assoc] using hW3)
theorem opWord_any (n : Int) (w : World) (h : 0 ≤ n ∧ n ≤ 2) :
    Calls Tryz.prog 221 #[.int .i64 n] w fun e w' => e = .returned (.string ⟨(opW n).toArray⟩) ∧ w = w' := by
  have hn : n = 0 ∨ n = 1 ∨ n = 2 := by omega
  rcases hn with rfl | rfl | rfl
  · have hix : (Instr.index 292 (.agg #[.string ⟨#[97, 100, 100]⟩, .string ⟨#[100, 101, 108, 101, 116, 101]⟩, .string ⟨#[114, 101, 112, 108, 97, 99, 101]⟩]) (.int .i64 0)).run Tryz.prog w = .ok (.string ⟨#[97, 100, 100]⟩) w := by kernel_rfl
    go_enter Tryz.func221, Tryz.ntmps221
    go_wp2
    go_ret
    exact ⟨rfl, rfl⟩
  · have hix : (Instr.index 292 (.agg #[.string ⟨#[97, 100, 100]⟩, .string ⟨#[100, 101, 108, 101, 116, 101]⟩, .string ⟨#[114, 101, 112, 108, 97, 99, 101]⟩]) (.int .i64 1)).run Tryz.prog w = .ok (.string ⟨#[100, 101, 108, 101, 116, 101]⟩) w := by kernel_rfl
    go_enter Tryz.func221, Tryz.ntmps221
    go_wp2
    go_ret
    exact ⟨rfl, rfl⟩
  · have hix : (Instr.index 292 (.agg #[.string ⟨#[97, 100, 100]⟩, .string ⟨#[100, 101, 108, 101, 116, 101]⟩, .string ⟨#[114, 101, 112, 108, 97, 99, 101]⟩]) (.int .i64 2)).run Tryz.prog w = .ok (.string ⟨#[114, 101, 112, 108, 97, 99, 101]⟩) w := by kernel_rfl
    go_enter Tryz.func221, Tryz.ntmps221
    go_wp2
    go_ret
    exact ⟨rfl, rfl⟩
def ModsAt (w : World) (v : Value) (ml : List Md) : Prop :=
  ∃ a cap, v = .slice a ml.length cap ∧ ml.length ≤ cap ∧ (ml ≠ [] → ∃ g o, a = some ⟨g, o, none⟩ ∧ ∀ (j : Nat) (x : Md), ml[j]? = some x → w.cell? ⟨g, o + j * 3, none⟩ = some (.int .i64 x.1) ∧ w.cell? ⟨g, o + j * 3 + 1, none⟩ = some (.string ⟨x.2.1.toArray⟩) ∧ ∃ u, w.cell? ⟨g, o + j * 3 + 2, none⟩ = some u ∧ StrsAt w u x.2.2)
theorem ModsAt.below {w w' : World} {v : Value} {ml : List Md} (h : ModsAt w v ml) (hb : Below w.heap.size w w') : ModsAt w' v ml := by
  obtain ⟨a, cap, hv, hc, hr⟩ := h
  refine ⟨a, cap, hv, hc, fun h0 => ?_⟩
  obtain ⟨g, o, ha, hcell⟩ := hr h0
  refine ⟨g, o, ha, fun j x hj => ?_⟩
  obtain ⟨h1, h2, u, h3, h4⟩ := hcell j x hj
  exact ⟨(hb.cell (lt_of_cell h1)).trans h1, (hb.cell (lt_of_cell h2)).trans h2, u, (hb.cell (lt_of_cell h3)).trans h3, h4.below hb⟩
theorem modB_snoc (ml : List Md) (k : Nat) (x : Md) (h : ml[k]? = some x) : modB (ml.take (k + 1)) = modB (ml.take k) ++ modB1 x := by
  rw [List.take_add_one, h]
  simp [modB]
theorem modB_next (ml : List Md) (k : Nat) (x : Md) (h : ml[k]? = some x) : (modB (ml.take k)).length + (modB1 x).length ≤ (modB ml).length := by
  have e : modB ml = modB (ml.take (k + 1)) ++ modB (ml.drop (k + 1)) := by
    have h : ∀ a b : List Md, modB (a ++ b) = modB a ++ modB b := fun a b => by simp [modB]
    rw [← h, List.take_append_drop]
  rw [e, modB_snoc ml k x h, List.length_append, List.length_append]
  omega
def R3 (B b : Nat) (l : List UInt8) (ml : List Md) (w : World) (i : Value) (wr : World) : Prop :=
  ∃ k : Nat, i = .int .i64 (k : Int) ∧ k ≤ ml.length ∧ IsW B b (l ++ modB (ml.take k)) wr ∧ Below B w wr ∧ WKept b w wr
theorem rest2_any (B b cb pb : Nat) (l : List UInt8) (vM : Value) (ml : List Md) (cs : Array Value) (w0 w : World) (hW : IsW B b l w) (hA : ModsAt w0 vM ml) (h0 : Below w0.heap.size w0 w) (hB0 : w0.heap.size ≤ B) (hBw : B ≤ w.heap.size)
    (hcb : w.heap[cb]? = some (.cells cs 47 (0, 0))) (hc5 : cs[5]? = some vM) (hpb : w.heap[pb]? = some (.cells #[.pointer (some ⟨b, 0, none⟩)] 273 (0, 0))) (_hcn : cb ≠ b) (hpn : pb ≠ b)
    (hal : ml.length ≤ 1099511627776) (hlen : l.length + (modB ml).length ≤ 1099511627776) (hty : ∀ x ∈ ml, (0 ≤ x.1 ∧ x.1 ≤ 2) ∧ x.2.1.length ≤ 1099511627776 ∧ x.2.2.length ≤ 1099511627776 ∧ ∀ v ∈ x.2.2, v.length ≤ 1099511627776) :
    Calls Tryz.prog 220 #[.pointer (some ⟨cb, 0, none⟩), .pointer (some ⟨pb, 0, none⟩)] w fun e w' => e = .returned (.tuple #[]) ∧ (IsW B b (l ++ modB ml) w' ∧ Below B w w' ∧ WKept b w w') := by
  have HT := Lib.hid hty
  have HH := Lib.hid hA
  obtain ⟨aA, cA, hvA, hcA, _⟩ := hA
  subst hvA
  have c5 : w.cell? ⟨cb, 5, none⟩ = some (.slice aA ml.length cA) := by rw [Lib.cell_of_heap hcb]; exact hc5
  clear hty
  go_enter Tryz.func220, Tryz.ntmps220
  go_wp2_with fail
  clear c5
  go_loopw [9] (fun i wr => R3 B b l ml w i wr) (fun i _ => ml.length - (RowKit.intOf i).toNat)
  case atStart => exact ⟨0, rfl, by omega, by simpa [modB] using hW, Below.refl _ _, WKept.refl _ _⟩
  case round =>
    clear hW
    obtain ⟨k, rfl, hk, hW, hbe, hkw⟩ := hrel
    have hb0 : Below w0.heap.size w0 wr := h0.trans (hbe.mono hB0)
    by_cases hkl : k < ml.length
    · obtain ⟨x, hx⟩ : ∃ x, ml[k] = x := ⟨_, rfl⟩
      have hxk : ml[k]? = some x := by rw [List.getElem?_eq_getElem hkl, hx]
      have hne : ml ≠ [] := by intro e; rw [e] at hkl; simp at hkl
      have hmem : x ∈ ml := List.mem_of_getElem? hxk
      obtain ⟨hxo, hx1, hx2, hx3⟩ := HT.out x hmem
      obtain ⟨a2, c2, e2, _, hcell⟩ := HH.out
      obtain ⟨g, o, hag, hcc⟩ := hcell hne
      cases e2
      subst hag
      obtain ⟨p1', p2', u, p3', hu⟩ := hcc k x hxk
      have p1 := (hb0.cell (lt_of_cell p1')).trans p1'
      have p2 := (hb0.cell (lt_of_cell p2')).trans p2'
      have p3 := (hb0.cell (lt_of_cell p3')).trans p3'
      clear p1' p2' p3'
      have hnx := modB_next ml k x hxk
      have hsn := modB_snoc ml k x hxk
      have hm1 : modB1 x = lineB (opW x.1) x.2.1 ++ valsB x.2.1 x.2.2 ++ [45, 10] := rfl
      obtain ⟨l2, hl2⟩ : ∃ l2, l ++ modB (ml.take k) = l2 := ⟨_, rfl⟩
      have hl2l : l2.length + (modB1 x).length ≤ 1099511627776 := by rw [← hl2, List.length_append]; omega
      have hsn2 : l ++ modB (ml.take (k + 1)) = l2 ++ modB1 x := by rw [hsn, ← hl2, List.append_assoc]
      rw [hl2] at hW
      have HSN := Lib.hid hsn2
      have HX3 := Lib.hid hx3
      have HU := Lib.hid hu
      obtain ⟨au, cu, hue, _, _⟩ := hu
      subst hue
      clear hcc hcell hx hxk hne hmem hnx hsn hsn2 hl2 hx3
      have gk : decide ((k : Int) < (ml.length : Int)) = true := decide_eq_true (by omega)
      have gk2 : (k : Int) < (ml.length : Int) := by omega
      have hbA : Below w0.heap.size w0 (wr.alloc (.cells #[.int .i64 x.1, .string ⟨x.2.1.toArray⟩, .slice au x.2.2.length cu] 182)) := hb0.alloc hb0.size _
      have hWA : IsW B b l2 (wr.alloc (.cells #[.int .i64 x.1, .string ⟨x.2.1.toArray⟩, .slice au x.2.2.length cu] 182)) := IsW.below hW ((Below.refl _ _).alloc (Nat.le_refl _) _)
      have hbB : Below B w (wr.alloc (.cells #[.int .i64 x.1, .string ⟨x.2.1.toArray⟩, .slice au x.2.2.length cu] 182)) := hbe.alloc (Nat.le_trans hBw hbe.size) _
      have hkA := hkw.alloc (.cells #[.int .i64 x.1, .string ⟨x.2.1.toArray⟩, .slice au x.2.2.length cu] 182)
      have hgA : (wr.alloc (.cells #[.int .i64 x.1, .string ⟨x.2.1.toArray⟩, .slice au x.2.2.length cu] 182)).heap[wr.heap.size]? = some (.cells #[.int .i64 x.1, .string ⟨x.2.1.toArray⟩, .slice au x.2.2.length cu] 182 (0, 0)) := alloc_at _ _ _ rfl
      have hnb : wr.heap.size ≠ b := by
        have h1 : b < wr.heap.size := IsW.lt hW
        omega
      clear hW hbe hkw hb0
      go_upto_region 3 with fail
      generalize wr.alloc (.cells #[.int .i64 x.1, .string ⟨x.2.1.toArray⟩, .slice au x.2.2.length cu] 182) = wo at hbA hWA hbB hkA hgA ⊢
      clear p1 p2 p3
      generalize wr.heap.size = G at hgA hnb ⊢
      have hpo := hkA.2 pb _ _ _ hpb hpn (by decide)
      have d0 : wo.cell? ⟨G, 0, none⟩ = some (.int .i64 x.1) := by rw [Lib.cell_of_heap hgA]; rfl
      have d1 : wo.cell? ⟨G, 1, none⟩ = some (.string ⟨x.2.1.toArray⟩) := by rw [Lib.cell_of_heap hgA]; rfl
      have dp : wo.cell? ⟨pb, 0, none⟩ = some (.pointer (some ⟨b, 0, none⟩)) := by rw [Lib.cell_of_heap hpo]; rfl
      have hB2 : B ≤ wo.heap.size := Nat.le_trans hBw hbB.size
      have hml := congrArg List.length hm1
      simp only [List.length_append, List.length_cons, List.length_nil] at hml
      have hopl : (opW x.1).length ≤ 10 := by unfold opW; split <;> (try split) <;> simp
      have kl := line_any B b l2 (opW x.1) x.2.1 wo.drew (IsW.drew hWA) (by omega) (by omega) hx1 hB2
      obtain ⟨l3, hl3⟩ : ∃ l3, l2 ++ lineB (opW x.1) x.2.1 = l3 := ⟨_, rfl⟩
      have hl3l : l3.length + (valsB x.2.1 x.2.2).length + 2 ≤ 1099511627776 := by rw [← hl3, List.length_append]; omega
      rw [hl3] at kl
      have HL3 := Lib.hid hl3
      have HM1 := Lib.hid hm1
      clear hl3 hm1 hml
      obtain ⟨OP, hOP⟩ : ∃ OP, opW x.1 = OP := ⟨_, rfl⟩
      have ko := fun w' => opWord_any x.1 w' hxo
      rw [hOP] at kl ko
      have HOP := Lib.hid hOP
      clear hOP
      go_region_held3 (fun w' => w'.cell? ⟨G, 0, none⟩ = some (.int .i64 x.1) ∧ w'.cell? ⟨G, 1, none⟩ = some (.string ⟨x.2.1.toArray⟩) ∧ w'.cell? ⟨pb, 0, none⟩ = some (.pointer (some ⟨b, 0, none⟩)))
        (first | go_keep | exact ⟨s0, s1, s2⟩)
        (first
          | (go_at_call 221; refine Calls.mono (show Calls _ _ _ _ _ from ko _) ?_; rintro e w8 ⟨rfl, rfl⟩)
          | (go_at_call 132; refine Calls.mono (show Calls _ _ _ _ _ from kl) ?_; rintro e w5 ⟨rfl, hW5, hb5, hk5⟩; have hg5 := hk5.2 G _ _ _ hgA hnb (by decide); have hp5 := hk5.2 pb _ _ _ hpo hpn (by decide); have s0 : w5.cell? ⟨G, 0, none⟩ = some (.int .i64 x.1) := (by rw [Lib.cell_of_heap hg5]; rfl); have s1 : w5.cell? ⟨G, 1, none⟩ = some (.string ⟨x.2.1.toArray⟩) := (by rw [Lib.cell_of_heap hg5]; rfl); have s2 : w5.cell? ⟨pb, 0, none⟩ = some (.pointer (some ⟨b, 0, none⟩)) := (by rw [Lib.cell_of_heap hp5]; rfl)))
      have s3 : w5.cell? ⟨G, 2, none⟩ = some (.slice au x.2.2.length cu) := by rw [Lib.cell_of_heap hg5]; rfl
      have hbB5 : Below B w w5 := (Below.drew hbB).trans hb5
      have hkw5 : WKept b w w5 := (hkA.trans (WKept.of_below (Below.drew (Below.refl _ wo)))).trans hk5
      go_wp2_with fail
      clear s0 s1 s2 s3 d0 d1 dp
      go_loopw [23] (fun i wq => R2 B b l3 x.2.1 x.2.2 w w5 i wq) (fun i _ => x.2.2.length - (RowKit.intOf i).toNat)
      case atStart => exact ⟨0, rfl, by omega, by simpa [valsB] using hW5, hbB5, WKept.refl _ _⟩
      case round =>
        obtain ⟨j, rfl, hj, hWq, hbq, hkq⟩ := hrel
        have hq0 : Below w0.heap.size w0 wr := h0.trans (hbq.mono hB0)
        have hgq := hkq.2 G _ _ _ hg5 hnb (by decide)
        have hpq := hkq.2 pb _ _ _ hp5 hpn (by decide)
        have c1 : wr.cell? ⟨G, 1, none⟩ = some (.string ⟨x.2.1.toArray⟩) := by rw [Lib.cell_of_heap hgq]; rfl
        have cp : wr.cell? ⟨pb, 0, none⟩ = some (.pointer (some ⟨b, 0, none⟩)) := by rw [Lib.cell_of_heap hpq]; rfl
        have hBq : B ≤ wr.heap.size := Nat.le_trans hBw hbq.size
        by_cases hjl : j < x.2.2.length
        · obtain ⟨y, hy⟩ : ∃ y, x.2.2[j] = y := ⟨_, rfl⟩
          have hyk : x.2.2[j]? = some y := by rw [List.getElem?_eq_getElem hjl, hy]
          have hyne : x.2.2 ≠ [] := by intro e; rw [e] at hjl; simp at hjl
          have hyl := HX3.out y (List.mem_of_getElem? hyk)
          obtain ⟨a3, c3, e3, _, hcell3⟩ := HU.out.below hq0
          obtain ⟨g3, o3, ha3, hcc3⟩ := hcell3 hyne
          cases e3
          subst ha3
          have py := hcc3 j y hyk
          have hvs := valsB_snoc x.2.1 x.2.2 j y hyk
          have hvp := valsB_part x.2.1 x.2.2 j
          obtain ⟨l4, hl4⟩ : ∃ l4, l3 ++ valsB x.2.1 (x.2.2.take j) = l4 := ⟨_, rfl⟩
          have hl4l : l4.length ≤ 1099511627776 := by rw [← hl4, List.length_append]; omega
          have hnext : l3 ++ valsB x.2.1 (x.2.2.take (j + 1)) = l4 ++ lineB x.2.1 y := by rw [hvs, ← hl4, List.append_assoc]
          have HNX := Lib.hid hnext
          rw [hl4] at hWq
          have kl2 := line_any B b l4 x.2.1 y wr hWq hl4l hx1 hyl hBq
          clear hcc3 hcell3 hy hyk hyne hvs hvp hl4 hnext
          have gj : decide ((j : Int) < (x.2.2.length : Int)) = true := decide_eq_true (by omega)
          have gj2 : (j : Int) < (x.2.2.length : Int) := by omega
          go_wp2_with (go_at_call 132; refine Calls.mono (show Calls _ _ _ _ _ from kl2) ?_; rintro e w6 ⟨rfl, hW6, hb6, hk6⟩)
          go_roundw
          case rel => exact ⟨j + 1, by go_num, by omega, by rw [HNX.out]; exact hW6, hbq.trans hb6, hkq.trans hk6⟩
          case measure => simp [RowKit.intOf]; omega
        · obtain rfl : j = x.2.2.length := by omega
          rw [List.take_of_length_le (Nat.le_refl _)] at hWq
          have gj : decide ((x.2.2.length : Int) < (x.2.2.length : Int)) = false := decide_eq_false (by omega)
          have gj2 : ¬ x.2.2.length < x.2.2.length := by omega
          have kw := W_WriteString B b (l3 ++ valsB x.2.1 x.2.2) [45, 10] wr hWq (by rw [List.length_append]; omega) (by simp) hBq
          have hfin : l3 ++ valsB x.2.1 x.2.2 ++ [45, 10] = l2 ++ modB1 x := by rw [HM1.out, ← HL3.out]; simp
          have HFI := Lib.hid hfin
          clear hfin
          go_wp2_with (go_at_call 212; refine Calls.mono (show Calls _ _ _ _ _ from kw) ?_; rintro e w6 ⟨rfl, hW6, hb6, hk6⟩)
          rw [HFI.out] at hW6
          go_roundw
          case rel => exact ⟨k + 1, by go_num, by omega, by rw [HSN.out]; exact hW6, hbq.trans hb6, (hkw5.trans hkq).trans hk6⟩
          case measure => simp [RowKit.intOf]; omega
    · obtain rfl : k = ml.length := by omega
      rw [List.take_of_length_le (Nat.le_refl _)] at hW
      have gk : decide ((ml.length : Int) < (ml.length : Int)) = false := decide_eq_false (by omega)
      go_wp2_with fail
      go_end0
      exact ⟨rfl, hW, hbe, hkw⟩
theorem any_skip {P : Program} {md : Region.Mode} {ops : Array Oper} {Q : Exit → Act → World → Prop} (i : Nat) {oi : Oper} {fuel : Nat} {listed : Array Bool} {a : Act} {w : World} (hi : ops[i]? = some oi)
    (hs : Region.noSelect ops = true) (hf : Region.free md ops listed i = true) (hr : (Region.ready md ops listed).contains i = true)
    (hQ : ∀ c a w, Q (.panic c) (a.put oi.dst undef) w → Q (.panic c) a w) (hw : Region.wanted oi (yielded ops a.tmps) = false)
    (h : ∀ K' : Act → World → Prop, (∀ a w, wpAny P md ops Q fuel (listed.setIfInBounds i true) a w → K' a w) → K' (a.put oi.dst undef) w) : wpAny P md ops Q (fuel + 1) listed a w :=
  wpAny_take hi hs hf hr hQ (Or.inr ⟨hw, rfl⟩) (h _ (fun _ _ k => k))
theorem any_one {P : Program} {md : Region.Mode} {ops : Array Oper} {Q : Exit → Act → World → Prop} (i : Nat) {o : Oper} {fuel : Nat} {listed : Array Bool} {a : Act} {w : World}
    (hr : Region.ready md ops listed = [i]) (ho : ops[i]? = some o) (hw : Region.wanted o (yielded ops a.tmps) = true)
    (h : ∀ K' : Act → World → Prop, (∀ a w, wpAny P md ops Q fuel (listed.setIfInBounds i true) a w → K' a w) → Oper.wp P o a w K' Q) : wpAny P md ops Q (fuel + 1) listed a w :=
  wpAny_ready hr (by simp) (AllReady.cons ho (fun K hK => by rw [if_pos hw]; exact h K hK) AllReady.nil)
theorem any_take {P : Program} {md : Region.Mode} {ops : Array Oper} {Q : Exit → Act → World → Prop} (i : Nat) (v : Value) {oi : Oper} {fuel : Nat} {listed : Array Bool} {a : Act} {w : World} (hi : ops[i]? = some oi)
    (hs : Region.noSelect ops = true) (hf : Region.free md ops listed i = true) (hr : (Region.ready md ops listed).contains i = true)
    (hQ : ∀ c a w, Q (.panic c) (a.put oi.dst v) w → Q (.panic c) a w) (hw : Region.wanted oi (yielded ops a.tmps) = true) (hy : ∀ w, (execOp a.eval oi).run P w = .ok (.value v) w)
    (h : ∀ K' : Act → World → Prop, (∀ a w, wpAny P md ops Q fuel (listed.setIfInBounds i true) a w → K' a w) → K' (a.put oi.dst v) w) : wpAny P md ops Q (fuel + 1) listed a w :=
  wpAny_take hi hs hf hr hQ (Or.inl ⟨hw, hy⟩) (h _ (fun _ _ k => k))
theorem any_two {P : Program} {md : Region.Mode} {ops : Array Oper} {Q : Exit → Act → World → Prop} (i j : Nat) {o o' : Oper} {fuel : Nat} {listed : Array Bool} {a : Act} {w : World}
    (hr : Region.ready md ops listed = [i, j]) (ho : ops[i]? = some o) (hw : Region.wanted o (yielded ops a.tmps) = true) (ho' : ops[j]? = some o') (hw' : Region.wanted o' (yielded ops a.tmps) = true)
    (h : ∀ K' : Act → World → Prop, (∀ a w, wpAny P md ops Q fuel (listed.setIfInBounds i true) a w → K' a w) → Oper.wp P o a w K' Q)
    (h' : ∀ K' : Act → World → Prop, (∀ a w, wpAny P md ops Q fuel (listed.setIfInBounds j true) a w → K' a w) → Oper.wp P o' a w K' Q) : wpAny P md ops Q (fuel + 1) listed a w :=
  wpAny_ready hr (by simp) (AllReady.cons ho (fun K hK => by rw [if_pos hw]; exact h K hK) (AllReady.cons ho' (fun K hK => by rw [if_pos hw']; exact h' K hK) AllReady.nil))
end Go.Proofs.YtegigcneimjimaaGreatDoor
