/- ldif: how a record's lists lie; what writes the attributes of a record that is added. -/
import Derived.Test.YtehpdodjncabkaaDoorPlainChg
import Derived.Test.YtehpdodjncabkaaDoorMapK
namespace Go.Proofs.YtehpdodjncabkaaDoor
open Go.RowKit Go.Lib

def StrsAt (w : World) (v : Value) (ls : List (List UInt8)) : Prop :=
  ∃ a cap, v = .slice a ls.length cap ∧ ls.length ≤ cap ∧ (ls ≠ [] → ∃ g o, a = some ⟨g, o, none⟩ ∧ ∀ (j : Nat) (x : List UInt8), ls[j]? = some x → w.cell? ⟨g, o + j, none⟩ = some (.string ⟨x.toArray⟩))
def AttrsAt (w : World) (v : Value) (al : List At) : Prop :=
  ∃ a cap, v = .slice a al.length cap ∧ al.length ≤ cap ∧ (al ≠ [] → ∃ g o, a = some ⟨g, o, none⟩ ∧ ∀ (j : Nat) (x : At), al[j]? = some x → w.cell? ⟨g, o + j * 2, none⟩ = some (.string ⟨x.1.toArray⟩) ∧ ∃ u, w.cell? ⟨g, o + j * 2 + 1, none⟩ = some u ∧ StrsAt w u x.2)
theorem StrsAt.below {w w' : World} {v : Value} {ls : List (List UInt8)} (h : StrsAt w v ls) (hb : Below w.heap.size w w') : StrsAt w' v ls := by
  obtain ⟨a, cap, hv, hc, hr⟩ := h
  refine ⟨a, cap, hv, hc, fun h0 => ?_⟩
  obtain ⟨g, o, ha, hcell⟩ := hr h0
  exact ⟨g, o, ha, fun j x hj => (hb.cell (lt_of_cell (hcell j x hj))).trans (hcell j x hj)⟩
theorem AttrsAt.below {w w' : World} {v : Value} {al : List At} (h : AttrsAt w v al) (hb : Below w.heap.size w w') : AttrsAt w' v al := by
  obtain ⟨a, cap, hv, hc, hr⟩ := h
  refine ⟨a, cap, hv, hc, fun h0 => ?_⟩
  obtain ⟨g, o, ha, hcell⟩ := hr h0
  refine ⟨g, o, ha, fun j x hj => ?_⟩
  obtain ⟨h1, u, h2, h3⟩ := hcell j x hj
  exact ⟨(hb.cell (lt_of_cell h1)).trans h1, u, (hb.cell (lt_of_cell h2)).trans h2, h3.below hb⟩
theorem attrB_snoc (al : List At) (k : Nat) (x : At) (h : al[k]? = some x) : attrB (al.take (k + 1)) = attrB (al.take k) ++ valsB x.1 x.2 := by
  rw [List.take_add_one, h]
  simp [attrB]
theorem valsB_snoc (t : List UInt8) (vs : List (List UInt8)) (k : Nat) (x : List UInt8) (h : vs[k]? = some x) : valsB t (vs.take (k + 1)) = valsB t (vs.take k) ++ lineB t x := by
  rw [List.take_add_one, h]
  simp [valsB]
theorem attrB_part (al : List At) (k : Nat) : (attrB (al.take k)).length ≤ (attrB al).length := by
  have e : attrB al = attrB (al.take k) ++ attrB (al.drop k) := by
    have h : ∀ a b : List At, attrB (a ++ b) = attrB a ++ attrB b := fun a b => by simp [attrB]
    rw [← h, List.take_append_drop]
  rw [e, List.length_append]
  omega
theorem attrB_next (al : List At) (k : Nat) (x : At) (h : al[k]? = some x) : (attrB (al.take k)).length + (valsB x.1 x.2).length ≤ (attrB al).length := by
  have h1 := attrB_part al (k + 1)
  rw [attrB_snoc al k x h, List.length_append] at h1
  exact h1
theorem valsB_part (t : List UInt8) (vs : List (List UInt8)) (k : Nat) : (valsB t (vs.take k)).length ≤ (valsB t vs).length := by
  have e : valsB t vs = valsB t (vs.take k) ++ valsB t (vs.drop k) := by
    have h : ∀ a b : List (List UInt8), valsB t (a ++ b) = valsB t a ++ valsB t b := fun a b => by simp [valsB]
    rw [← h, List.take_append_drop]
  rw [e, List.length_append]
  omega
theorem IsW.lt {B b : Nat} {l : List UInt8} {w : World} (h : IsW B b l w) : b < w.heap.size := by
  rcases h with h | h
  · obtain ⟨_, v, hh, _⟩ := h; exact (Array.getElem?_eq_some_iff.1 hh).1
  · obtain ⟨_, v, hh, _⟩ := h; exact (Array.getElem?_eq_some_iff.1 hh).1
def R1 (B b : Nat) (l : List UInt8) (al : List At) (w : World) (i : Value) (wr : World) : Prop :=
  ∃ k : Nat, i = .int .i64 (k : Int) ∧ k ≤ al.length ∧ IsW B b (l ++ attrB (al.take k)) wr ∧ Below B w wr ∧ WKept b w wr
def R2 (B b : Nat) (l t : List UInt8) (vs : List (List UInt8)) (w wo : World) (i : Value) (wr : World) : Prop :=
  ∃ k : Nat, i = .int .i64 (k : Int) ∧ k ≤ vs.length ∧ IsW B b (l ++ valsB t (vs.take k)) wr ∧ Below B w wr ∧ WKept b wo wr
set_option maxRecDepth 100000 in
set_option maxHeartbeats 2000000 in
theorem rest1_any (B b cb pb : Nat) (l : List UInt8) (vA : Value) (al : List At) (cs : Array Value) (w0 w : World) (hW : IsW B b l w) (hA : AttrsAt w0 vA al) (h0 : Below w0.heap.size w0 w) (hB0 : w0.heap.size ≤ B) (hBw : B ≤ w.heap.size)
    (hcb : w.heap[cb]? = some (.cells cs 25 (0, 0))) (hc4 : cs[4]? = some vA) (hpb : w.heap[pb]? = some (.cells #[.pointer (some ⟨b, 0, none⟩)] 95 (0, 0))) (_hcn : cb ≠ b) (hpn : pb ≠ b)
    (hal : al.length ≤ 1099511627776) (hlen : l.length + (attrB al).length ≤ 1099511627776) (hty : ∀ x ∈ al, x.1.length ≤ 1099511627776 ∧ x.2.length ≤ 1099511627776 ∧ ∀ v ∈ x.2, v.length ≤ 1099511627776) :
    Calls Tryd.prog 48 #[.pointer (some ⟨cb, 0, none⟩), .pointer (some ⟨pb, 0, none⟩)] w fun e w' => e = .returned (.tuple #[]) ∧ (IsW B b (l ++ attrB al) w' ∧ Below B w w' ∧ WKept b w w') := by
  have HT := Lib.hid hty
  have HH := Lib.hid hA
  obtain ⟨aA, cA, hvA, hcA, _⟩ := hA
  subst hvA
  have c4 : w.cell? ⟨cb, 4, none⟩ = some (.slice aA al.length cA) := by rw [Lib.cell_of_heap hcb]; exact hc4
  clear hty
  go_enter Tryd.func48, Tryd.ntmps48
  go_wp2_with fail
  clear c4
  go_loopw [9] (fun i wr => R1 B b l al w i wr) (fun i _ => al.length - (RowKit.intOf i).toNat)
  case atStart => exact ⟨0, rfl, by omega, by simpa [attrB] using hW, Below.refl _ _, WKept.refl _ _⟩
  case round =>
    clear hW
    obtain ⟨k, rfl, hk, hW, hbe, hkw⟩ := hrel
    have hb0 : Below w0.heap.size w0 wr := h0.trans (hbe.mono hB0)
    by_cases hkl : k < al.length
    · obtain ⟨x, hx⟩ : ∃ x, al[k] = x := ⟨_, rfl⟩
      have hxk : al[k]? = some x := by rw [List.getElem?_eq_getElem hkl, hx]
      have hne : al ≠ [] := by intro e; rw [e] at hkl; simp at hkl
      have hmem : x ∈ al := List.mem_of_getElem? hxk
      obtain ⟨hx1, hx2, hx3⟩ := HT.out x hmem
      obtain ⟨a2, c2, e2, _, hcell⟩ := HH.out
      obtain ⟨g, o, hag, hcc⟩ := hcell hne
      cases e2
      subst hag
      obtain ⟨p1', u, p2', hu⟩ := hcc k x hxk
      have p1 := (hb0.cell (lt_of_cell p1')).trans p1'
      have p2 := (hb0.cell (lt_of_cell p2')).trans p2'
      clear p1' p2'
      have hnx := attrB_next al k x hxk
      have hsn := attrB_snoc al k x hxk
      obtain ⟨l2, hl2⟩ : ∃ l2, l ++ attrB (al.take k) = l2 := ⟨_, rfl⟩
      have hl2l : l2.length + (valsB x.1 x.2).length ≤ 1099511627776 := by rw [← hl2, List.length_append]; omega
      have hsn2 : l ++ attrB (al.take (k + 1)) = l2 ++ valsB x.1 x.2 := by rw [hsn, ← hl2, List.append_assoc]
      rw [hl2] at hW
      have HSN := Lib.hid hsn2
      have HX3 := Lib.hid hx3
      have HU := Lib.hid hu
      obtain ⟨au, cu, hue, _, _⟩ := hu
      subst hue
      clear hcc hcell hx hxk hne hmem hnx hsn hsn2 hl2 hx3
      have gk : decide ((k : Int) < (al.length : Int)) = true := decide_eq_true (by omega)
      have gk2 : (k : Int) < (al.length : Int) := by omega
      have hbA : Below w0.heap.size w0 (wr.alloc (.cells #[.string ⟨x.1.toArray⟩, .slice au x.2.length cu] 51)) := hb0.alloc hb0.size _
      have hWA : IsW B b l2 (wr.alloc (.cells #[.string ⟨x.1.toArray⟩, .slice au x.2.length cu] 51)) := IsW.below hW ((Below.refl _ _).alloc (Nat.le_refl _) _)
      have hbB : Below B w (wr.alloc (.cells #[.string ⟨x.1.toArray⟩, .slice au x.2.length cu] 51)) := hbe.alloc (Nat.le_trans hBw hbe.size) _
      have hkA := hkw.alloc (.cells #[.string ⟨x.1.toArray⟩, .slice au x.2.length cu] 51)
      have hgA : (wr.alloc (.cells #[.string ⟨x.1.toArray⟩, .slice au x.2.length cu] 51)).heap[wr.heap.size]? = some (.cells #[.string ⟨x.1.toArray⟩, .slice au x.2.length cu] 51 (0, 0)) := alloc_at _ _ _ rfl
      have hnb : wr.heap.size ≠ b := by
        have h1 : b < wr.heap.size := IsW.lt hW
        omega
      clear hW hbe hkw hb0
      go_wp2_with fail
      generalize wr.alloc (.cells #[.string ⟨x.1.toArray⟩, .slice au x.2.length cu] 51) = wo at hbA hWA hbB hkA hgA ⊢
      clear p1 p2
      generalize wr.heap.size = G at hgA hnb ⊢
      have hB2 : B ≤ wo.heap.size := Nat.le_trans hBw hbB.size
      go_loopw [16] (fun i wq => R2 B b l2 x.1 x.2 w wo i wq) (fun i _ => x.2.length - (RowKit.intOf i).toNat)
      case atStart => exact ⟨0, rfl, by omega, by simpa [valsB] using hWA, hbB, WKept.refl _ _⟩
      case round =>
        obtain ⟨j, rfl, hj, hWq, hbq, hkq⟩ := hrel
        have hq0 : Below w0.heap.size w0 wr := h0.trans (hbq.mono hB0)
        have hgq := hkq.2 G _ _ _ hgA hnb (by decide)
        have hpq := (hkA.trans hkq).2 pb _ _ _ hpb hpn (by decide)
        have c0 : wr.cell? ⟨G, 0, none⟩ = some (.string ⟨x.1.toArray⟩) := by rw [Lib.cell_of_heap hgq]; rfl
        have cp : wr.cell? ⟨pb, 0, none⟩ = some (.pointer (some ⟨b, 0, none⟩)) := by rw [Lib.cell_of_heap hpq]; rfl
        by_cases hjl : j < x.2.length
        · obtain ⟨y, hy⟩ : ∃ y, x.2[j] = y := ⟨_, rfl⟩
          have hyk : x.2[j]? = some y := by rw [List.getElem?_eq_getElem hjl, hy]
          have hyne : x.2 ≠ [] := by intro e; rw [e] at hjl; simp at hjl
          have hyl := HX3.out y (List.mem_of_getElem? hyk)
          obtain ⟨a3, c3, e3, _, hcell3⟩ := HU.out.below hq0
          obtain ⟨g3, o3, ha3, hcc3⟩ := hcell3 hyne
          cases e3
          subst ha3
          have py := hcc3 j y hyk
          have hvs := valsB_snoc x.1 x.2 j y hyk
          have hvp := valsB_part x.1 x.2 j
          obtain ⟨l3, hl3⟩ : ∃ l3, l2 ++ valsB x.1 (x.2.take j) = l3 := ⟨_, rfl⟩
          have hl3l : l3.length ≤ 1099511627776 := by rw [← hl3, List.length_append]; omega
          have hnext : l2 ++ valsB x.1 (x.2.take (j + 1)) = l3 ++ lineB x.1 y := by rw [hvs, ← hl3, List.append_assoc]
          have HNX := Lib.hid hnext
          rw [hl3] at hWq
          have kl := line_any B b l3 x.1 y wr hWq hl3l hx1 hyl (Nat.le_trans hBw hbq.size)
          clear hcc3 hcell3 hy hyk hyne hvs hvp hl3 hnext
          have gj : decide ((j : Int) < (x.2.length : Int)) = true := decide_eq_true (by omega)
          have gj2 : (j : Int) < (x.2.length : Int) := by omega
          go_wp2_with (go_at_call 21; refine Calls.mono (show Calls _ _ _ _ _ from kl) ?_; rintro e w5 ⟨rfl, hW5, hb5, hk5⟩)
          go_roundw
          case rel => exact ⟨j + 1, by go_num, by omega, by rw [HNX.out]; exact hW5, hbq.trans hb5, hkq.trans hk5⟩
          case measure => simp [RowKit.intOf]; omega
        · obtain rfl : j = x.2.length := by omega
          rw [List.take_of_length_le (Nat.le_refl _)] at hWq
          have gj : decide ((x.2.length : Int) < (x.2.length : Int)) = false := decide_eq_false (by omega)
          have gj2 : ¬ x.2.length < x.2.length := by omega
          go_wp2_with fail
          go_roundw
          case rel => exact ⟨k + 1, by go_num, by omega, by rw [HSN.out]; exact hWq, hbq, hkA.trans hkq⟩
          case measure => simp [RowKit.intOf]; omega
    · obtain rfl : k = al.length := by omega
      rw [List.take_of_length_le (Nat.le_refl _)] at hW
      have gk : decide ((al.length : Int) < (al.length : Int)) = false := decide_eq_false (by omega)
      go_wp2_with fail
      go_end0
      exact ⟨rfl, hW, hbe, hkw⟩
end Go.Proofs.YtehpdodjncabkaaDoor
