/- ldif: what writes a record that changes an entry. -/
import Derived.Deep.CutBlock
import Derived.Deep.DeepCutAuto
import Derived.Deep.CutRange
import Derived.Test.YtehpdodjncabkaaDoorLdM
import Derived.Deep.RegionHeld3
namespace Go.Proofs.YtehpdodjncabkaaDoor
open Go.RowKit Go.Lib

set_option maxRecDepth 100000 in
theorem opWord_any (n : Int) (w : World) (h : 0 ≤ n ∧ n ≤ 2) :
    Calls Tryd.prog 50 #[.int .i64 n] w fun e w' => e = .returned (.string ⟨(opW n).toArray⟩) ∧ w = w' := by
  have hn : n = 0 ∨ n = 1 ∨ n = 2 := by omega
  rcases hn with rfl | rfl | rfl
  · have hix : (Instr.index 118 (.agg #[.string ⟨#[97, 100, 100]⟩, .string ⟨#[100, 101, 108, 101, 116, 101]⟩, .string ⟨#[114, 101, 112, 108, 97, 99, 101]⟩]) (.int .i64 0)).run Tryd.prog w = .ok (.string ⟨#[97, 100, 100]⟩) w := by kernel_rfl
    go_enter Tryd.func50, Tryd.ntmps50
    go_wp2
    go_ret
    exact ⟨rfl, rfl⟩
  · have hix : (Instr.index 118 (.agg #[.string ⟨#[97, 100, 100]⟩, .string ⟨#[100, 101, 108, 101, 116, 101]⟩, .string ⟨#[114, 101, 112, 108, 97, 99, 101]⟩]) (.int .i64 1)).run Tryd.prog w = .ok (.string ⟨#[100, 101, 108, 101, 116, 101]⟩) w := by kernel_rfl
    go_enter Tryd.func50, Tryd.ntmps50
    go_wp2
    go_ret
    exact ⟨rfl, rfl⟩
  · have hix : (Instr.index 118 (.agg #[.string ⟨#[97, 100, 100]⟩, .string ⟨#[100, 101, 108, 101, 116, 101]⟩, .string ⟨#[114, 101, 112, 108, 97, 99, 101]⟩]) (.int .i64 2)).run Tryd.prog w = .ok (.string ⟨#[114, 101, 112, 108, 97, 99, 101]⟩) w := by kernel_rfl
    go_enter Tryd.func50, Tryd.ntmps50
    go_wp2
    go_ret
    exact ⟨rfl, rfl⟩
def ModsAt (w : World) (v : Value) (ml : List Md) : Prop :=
  ∃ a cap, v = .slice a ml.length cap ∧ ml.length ≤ cap ∧ (ml ≠ [] → ∃ g o, a = some ⟨g, o, none⟩ ∧ ∀ (j : Nat) (x : Md), ml[j]? = some x → w.cell? ⟨g, o + j * 3, none⟩ = some (.int .i64 x.1) ∧ w.cell? ⟨g, o + j * 3 + 1, none⟩ = some (.string ⟨x.2.1.toArray⟩) ∧ ∃ u, w.cell? ⟨g, o + j * 3 + 2, none⟩ = some u ∧ StrsAt w u x.2.2)
theorem ModsAt.below {w w' : World} {v : Value} {ml : List Md} (h : ModsAt w v ml) (hb : Below w.heap.size w w') : ModsAt w' v ml := by
  obtain ⟨a, cap, hv, hc, hr⟩ := h
  refine ⟨a, cap, hv, hc, fun h0 => ?_⟩
  obtain ⟨g, o, ha, hcell⟩ := hr h0
  refine ⟨g, o, ha, fun j x hj => ?_⟩
  obtain ⟨h1, h2, u, h3, h4⟩ := hcell j x hj
  exact ⟨(hb.cell (lt_of_cell h1)).trans h1, (hb.cell (lt_of_cell h2)).trans h2, u, (hb.cell (lt_of_cell h3)).trans h3, h4.below hb⟩
theorem modB_snoc (ml : List Md) (k : Nat) (x : Md) (h : ml[k]? = some x) : modB (ml.take (k + 1)) = modB (ml.take k) ++ modB1 x := by
  rw [List.take_add_one, h]
  simp [modB]
theorem modB_next (ml : List Md) (k : Nat) (x : Md) (h : ml[k]? = some x) : (modB (ml.take k)).length + (modB1 x).length ≤ (modB ml).length := by
  have e : modB ml = modB (ml.take (k + 1)) ++ modB (ml.drop (k + 1)) := by
    have h : ∀ a b : List Md, modB (a ++ b) = modB a ++ modB b := fun a b => by simp [modB]
    rw [← h, List.take_append_drop]
  rw [e, modB_snoc ml k x h, List.length_append, List.length_append]
  omega
def R3 (B b : Nat) (l : List UInt8) (ml : List Md) (w : World) (i : Value) (wr : World) : Prop :=
  ∃ k : Nat, i = .int .i64 (k : Int) ∧ k ≤ ml.length ∧ IsW B b (l ++ modB (ml.take k)) wr ∧ Below B w wr ∧ WKept b w wr
set_option maxRecDepth 100000 in
set_option maxHeartbeats 2000000 in
theorem rest2_any (B b cb pb : Nat) (l : List UInt8) (vM : Value) (ml : List Md) (cs : Array Value) (w0 w : World) (hW : IsW B b l w) (hA : ModsAt w0 vM ml) (h0 : Below w0.heap.size w0 w) (hB0 : w0.heap.size ≤ B) (hBw : B ≤ w.heap.size)
    (hcb : w.heap[cb]? = some (.cells cs 25 (0, 0))) (hc5 : cs[5]? = some vM) (hpb : w.heap[pb]? = some (.cells #[.pointer (some ⟨b, 0, none⟩)] 95 (0, 0))) (_hcn : cb ≠ b) (hpn : pb ≠ b)
    (hal : ml.length ≤ 1099511627776) (hlen : l.length + (modB ml).length ≤ 1099511627776) (hty : ∀ x ∈ ml, (0 ≤ x.1 ∧ x.1 ≤ 2) ∧ x.2.1.length ≤ 1099511627776 ∧ x.2.2.length ≤ 1099511627776 ∧ ∀ v ∈ x.2.2, v.length ≤ 1099511627776) :
    Calls Tryd.prog 49 #[.pointer (some ⟨cb, 0, none⟩), .pointer (some ⟨pb, 0, none⟩)] w fun e w' => e = .returned (.tuple #[]) ∧ (IsW B b (l ++ modB ml) w' ∧ Below B w w' ∧ WKept b w w') := by
  have HT := Lib.hid hty
  have HH := Lib.hid hA
  obtain ⟨aA, cA, hvA, hcA, _⟩ := hA
  subst hvA
  have c5 : w.cell? ⟨cb, 5, none⟩ = some (.slice aA ml.length cA) := by rw [Lib.cell_of_heap hcb]; exact hc5
  clear hty
  go_enter Tryd.func49, Tryd.ntmps49
  go_wp2_with fail
  clear c5
  go_loopw [9] (fun i wr => R3 B b l ml w i wr) (fun i _ => ml.length - (RowKit.intOf i).toNat)
  case atStart => exact ⟨0, rfl, by omega, by simpa [modB] using hW, Below.refl _ _, WKept.refl _ _⟩
  case round =>
    clear hW
    obtain ⟨k, rfl, hk, hW, hbe, hkw⟩ := hrel
    have hb0 : Below w0.heap.size w0 wr := h0.trans (hbe.mono hB0)
    by_cases hkl : k < ml.length
    · obtain ⟨x, hx⟩ : ∃ x, ml[k] = x := ⟨_, rfl⟩
      have hxk : ml[k]? = some x := by rw [List.getElem?_eq_getElem hkl, hx]
      have hne : ml ≠ [] := by intro e; rw [e] at hkl; simp at hkl
      have hmem : x ∈ ml := List.mem_of_getElem? hxk
      obtain ⟨hxo, hx1, hx2, hx3⟩ := HT.out x hmem
      obtain ⟨a2, c2, e2, _, hcell⟩ := HH.out
      obtain ⟨g, o, hag, hcc⟩ := hcell hne
      cases e2
      subst hag
      obtain ⟨p1', p2', u, p3', hu⟩ := hcc k x hxk
      have p1 := (hb0.cell (lt_of_cell p1')).trans p1'
      have p2 := (hb0.cell (lt_of_cell p2')).trans p2'
      have p3 := (hb0.cell (lt_of_cell p3')).trans p3'
      clear p1' p2' p3'
      have hnx := modB_next ml k x hxk
      have hsn := modB_snoc ml k x hxk
      have hm1 : modB1 x = lineB (opW x.1) x.2.1 ++ valsB x.2.1 x.2.2 ++ [45, 10] := rfl
      obtain ⟨l2, hl2⟩ : ∃ l2, l ++ modB (ml.take k) = l2 := ⟨_, rfl⟩
      have hl2l : l2.length + (modB1 x).length ≤ 1099511627776 := by rw [← hl2, List.length_append]; omega
      have hsn2 : l ++ modB (ml.take (k + 1)) = l2 ++ modB1 x := by rw [hsn, ← hl2, List.append_assoc]
      rw [hl2] at hW
      have HSN := Lib.hid hsn2
      have HX3 := Lib.hid hx3
      have HU := Lib.hid hu
      obtain ⟨au, cu, hue, _, _⟩ := hu
      subst hue
      clear hcc hcell hx hxk hne hmem hnx hsn hsn2 hl2 hx3
      have gk : decide ((k : Int) < (ml.length : Int)) = true := decide_eq_true (by omega)
      have gk2 : (k : Int) < (ml.length : Int) := by omega
      have hbA : Below w0.heap.size w0 (wr.alloc (.cells #[.int .i64 x.1, .string ⟨x.2.1.toArray⟩, .slice au x.2.2.length cu] 53)) := hb0.alloc hb0.size _
      have hWA : IsW B b l2 (wr.alloc (.cells #[.int .i64 x.1, .string ⟨x.2.1.toArray⟩, .slice au x.2.2.length cu] 53)) := IsW.below hW ((Below.refl _ _).alloc (Nat.le_refl _) _)
      have hbB : Below B w (wr.alloc (.cells #[.int .i64 x.1, .string ⟨x.2.1.toArray⟩, .slice au x.2.2.length cu] 53)) := hbe.alloc (Nat.le_trans hBw hbe.size) _
      have hkA := hkw.alloc (.cells #[.int .i64 x.1, .string ⟨x.2.1.toArray⟩, .slice au x.2.2.length cu] 53)
      have hgA : (wr.alloc (.cells #[.int .i64 x.1, .string ⟨x.2.1.toArray⟩, .slice au x.2.2.length cu] 53)).heap[wr.heap.size]? = some (.cells #[.int .i64 x.1, .string ⟨x.2.1.toArray⟩, .slice au x.2.2.length cu] 53 (0, 0)) := alloc_at _ _ _ rfl
      have hnb : wr.heap.size ≠ b := by
        have h1 : b < wr.heap.size := IsW.lt hW
        omega
      clear hW hbe hkw hb0
      go_upto_region 3 with fail
      generalize wr.alloc (.cells #[.int .i64 x.1, .string ⟨x.2.1.toArray⟩, .slice au x.2.2.length cu] 53) = wo at hbA hWA hbB hkA hgA ⊢
      clear p1 p2 p3
      generalize wr.heap.size = G at hgA hnb ⊢
      have hpo := hkA.2 pb _ _ _ hpb hpn (by decide)
      have d0 : wo.cell? ⟨G, 0, none⟩ = some (.int .i64 x.1) := by rw [Lib.cell_of_heap hgA]; rfl
      have d1 : wo.cell? ⟨G, 1, none⟩ = some (.string ⟨x.2.1.toArray⟩) := by rw [Lib.cell_of_heap hgA]; rfl
      have dp : wo.cell? ⟨pb, 0, none⟩ = some (.pointer (some ⟨b, 0, none⟩)) := by rw [Lib.cell_of_heap hpo]; rfl
      have hB2 : B ≤ wo.heap.size := Nat.le_trans hBw hbB.size
      have hml := congrArg List.length hm1
      simp only [List.length_append, List.length_cons, List.length_nil] at hml
      have hopl : (opW x.1).length ≤ 10 := by unfold opW; split <;> (try split) <;> simp
      have kl := line_any B b l2 (opW x.1) x.2.1 wo.drew (IsW.drew hWA) (by omega) (by omega) hx1 hB2
      obtain ⟨l3, hl3⟩ : ∃ l3, l2 ++ lineB (opW x.1) x.2.1 = l3 := ⟨_, rfl⟩
      have hl3l : l3.length + (valsB x.2.1 x.2.2).length + 2 ≤ 1099511627776 := by rw [← hl3, List.length_append]; omega
      rw [hl3] at kl
      have HL3 := Lib.hid hl3
      have HM1 := Lib.hid hm1
      clear hl3 hm1 hml
      obtain ⟨OP, hOP⟩ : ∃ OP, opW x.1 = OP := ⟨_, rfl⟩
      have ko := fun w' => opWord_any x.1 w' hxo
      rw [hOP] at kl ko
      have HOP := Lib.hid hOP
      clear hOP
      go_region_held3 (fun w' => w'.cell? ⟨G, 0, none⟩ = some (.int .i64 x.1) ∧ w'.cell? ⟨G, 1, none⟩ = some (.string ⟨x.2.1.toArray⟩) ∧ w'.cell? ⟨pb, 0, none⟩ = some (.pointer (some ⟨b, 0, none⟩)))
        (first | go_keep | exact ⟨s0, s1, s2⟩)
        (first
          | (go_at_call 50; refine Calls.mono (show Calls _ _ _ _ _ from ko _) ?_; rintro e w8 ⟨rfl, rfl⟩)
          | (go_at_call 21; refine Calls.mono (show Calls _ _ _ _ _ from kl) ?_; rintro e w5 ⟨rfl, hW5, hb5, hk5⟩; have hg5 := hk5.2 G _ _ _ hgA hnb (by decide); have hp5 := hk5.2 pb _ _ _ hpo hpn (by decide); have s0 : w5.cell? ⟨G, 0, none⟩ = some (.int .i64 x.1) := (by rw [Lib.cell_of_heap hg5]; rfl); have s1 : w5.cell? ⟨G, 1, none⟩ = some (.string ⟨x.2.1.toArray⟩) := (by rw [Lib.cell_of_heap hg5]; rfl); have s2 : w5.cell? ⟨pb, 0, none⟩ = some (.pointer (some ⟨b, 0, none⟩)) := (by rw [Lib.cell_of_heap hp5]; rfl)))
      have s3 : w5.cell? ⟨G, 2, none⟩ = some (.slice au x.2.2.length cu) := by rw [Lib.cell_of_heap hg5]; rfl
      have hbB5 : Below B w w5 := (Below.drew hbB).trans hb5
      have hkw5 : WKept b w w5 := (hkA.trans (WKept.of_below (Below.drew (Below.refl _ wo)))).trans hk5
      go_wp2_with fail
      clear s0 s1 s2 s3 d0 d1 dp
      go_loopw [23] (fun i wq => R2 B b l3 x.2.1 x.2.2 w w5 i wq) (fun i _ => x.2.2.length - (RowKit.intOf i).toNat)
      case atStart => exact ⟨0, rfl, by omega, by simpa [valsB] using hW5, hbB5, WKept.refl _ _⟩
      case round =>
        obtain ⟨j, rfl, hj, hWq, hbq, hkq⟩ := hrel
        have hq0 : Below w0.heap.size w0 wr := h0.trans (hbq.mono hB0)
        have hgq := hkq.2 G _ _ _ hg5 hnb (by decide)
        have hpq := hkq.2 pb _ _ _ hp5 hpn (by decide)
        have c1 : wr.cell? ⟨G, 1, none⟩ = some (.string ⟨x.2.1.toArray⟩) := by rw [Lib.cell_of_heap hgq]; rfl
        have cp : wr.cell? ⟨pb, 0, none⟩ = some (.pointer (some ⟨b, 0, none⟩)) := by rw [Lib.cell_of_heap hpq]; rfl
        have hBq : B ≤ wr.heap.size := Nat.le_trans hBw hbq.size
        by_cases hjl : j < x.2.2.length
        · obtain ⟨y, hy⟩ : ∃ y, x.2.2[j] = y := ⟨_, rfl⟩
          have hyk : x.2.2[j]? = some y := by rw [List.getElem?_eq_getElem hjl, hy]
          have hyne : x.2.2 ≠ [] := by intro e; rw [e] at hjl; simp at hjl
          have hyl := HX3.out y (List.mem_of_getElem? hyk)
          obtain ⟨a3, c3, e3, _, hcell3⟩ := HU.out.below hq0
          obtain ⟨g3, o3, ha3, hcc3⟩ := hcell3 hyne
          cases e3
          subst ha3
          have py := hcc3 j y hyk
          have hvs := valsB_snoc x.2.1 x.2.2 j y hyk
          have hvp := valsB_part x.2.1 x.2.2 j
          obtain ⟨l4, hl4⟩ : ∃ l4, l3 ++ valsB x.2.1 (x.2.2.take j) = l4 := ⟨_, rfl⟩
          have hl4l : l4.length ≤ 1099511627776 := by rw [← hl4, List.length_append]; omega
          have hnext : l3 ++ valsB x.2.1 (x.2.2.take (j + 1)) = l4 ++ lineB x.2.1 y := by rw [hvs, ← hl4, List.append_assoc]
          have HNX := Lib.hid hnext
          rw [hl4] at hWq
          have kl2 := line_any B b l4 x.2.1 y wr hWq hl4l hx1 hyl hBq
          clear hcc3 hcell3 hy hyk hyne hvs hvp hl4 hnext
          have gj : decide ((j : Int) < (x.2.2.length : Int)) = true := decide_eq_true (by omega)
          have gj2 : (j : Int) < (x.2.2.length : Int) := by omega
          go_wp2_with (go_at_call 21; refine Calls.mono (show Calls _ _ _ _ _ from kl2) ?_; rintro e w6 ⟨rfl, hW6, hb6, hk6⟩)
          go_roundw
          case rel => exact ⟨j + 1, by go_num, by omega, by rw [HNX.out]; exact hW6, hbq.trans hb6, hkq.trans hk6⟩
          case measure => simp [RowKit.intOf]; omega
        · obtain rfl : j = x.2.2.length := by omega
          rw [List.take_of_length_le (Nat.le_refl _)] at hWq
          have gj : decide ((x.2.2.length : Int) < (x.2.2.length : Int)) = false := decide_eq_false (by omega)
          have gj2 : ¬ x.2.2.length < x.2.2.length := by omega
          have kw := W_WriteString B b (l3 ++ valsB x.2.1 x.2.2) [45, 10] wr hWq (by rw [List.length_append]; omega) (by simp) hBq
          have hfin : l3 ++ valsB x.2.1 x.2.2 ++ [45, 10] = l2 ++ modB1 x := by rw [HM1.out, ← HL3.out]; simp
          have HFI := Lib.hid hfin
          clear hfin
          go_wp2_with (go_at_call 47; refine Calls.mono (show Calls _ _ _ _ _ from kw) ?_; rintro e w6 ⟨rfl, hW6, hb6, hk6⟩)
          rw [HFI.out] at hW6
          go_roundw
          case rel => exact ⟨k + 1, by go_num, by omega, by rw [HSN.out]; exact hW6, hbq.trans hb6, (hkw5.trans hkq).trans hk6⟩
          case measure => simp [RowKit.intOf]; omega
    · obtain rfl : k = ml.length := by omega
      rw [List.take_of_length_le (Nat.le_refl _)] at hW
      have gk : decide ((ml.length : Int) < (ml.length : Int)) = false := decide_eq_false (by omega)
      go_wp2_with fail
      go_end0
      exact ⟨rfl, hW, hbe, hkw⟩
end Go.Proofs.YtehpdodjncabkaaDoor
