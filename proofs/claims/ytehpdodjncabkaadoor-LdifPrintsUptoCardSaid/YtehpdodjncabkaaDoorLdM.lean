/- ldif: what writes a record that moves an entry. -/
import Derived.Test.YtehpdodjncabkaaDoorLdC
namespace Go.Proofs.YtehpdodjncabkaaDoor
open Go.RowKit Go.Lib

theorem lineB_len (n v : List UInt8) : (lineB n v).length ≤ n.length + 2 * v.length + 8 := by
  unfold lineB
  split
  · simp; omega
  · simp only [List.length_append, b64_length v.length v (Nat.le_refl _)]
    simp
    omega
set_option maxRecDepth 100000 in
set_option maxHeartbeats 2000000 in
theorem rest3_any (B b cb pb : Nat) (l : List UInt8) (c : Chg) (cs : Array Value) (w : World) (hW : IsW B b l w) (hBw : B ≤ w.heap.size)
    (hcb : w.heap[cb]? = some (.cells cs 25 (0, 0))) (hc6 : cs[6]? = some (.string ⟨c.newRdn.toArray⟩)) (hc7 : cs[7]? = some (.string ⟨c.newSup.toArray⟩)) (hc8 : cs[8]? = some (.bool c.delOld)) (hc9 : cs[9]? = some (.bool c.hasSup))
    (hpb : w.heap[pb]? = some (.cells #[.pointer (some ⟨b, 0, none⟩)] 95 (0, 0))) (hcn : cb ≠ b) (hpn : pb ≠ b)
    (hl : l.length ≤ 1000000000) (hn6 : c.newRdn.length ≤ 1000000000) (hn7 : c.newSup.length ≤ 1000000000) :
    Calls Tryd.prog 51 #[.pointer (some ⟨pb, 0, none⟩), .pointer (some ⟨cb, 0, none⟩)] w fun e w' => e = .returned (.tuple #[]) ∧ (IsW B b (l ++ moveB c) w' ∧ Below B w w' ∧ WKept b w w') := by
  have facts : ∀ w' : World, WKept b w w' → w'.cell? ⟨cb, 6, none⟩ = some (.string ⟨c.newRdn.toArray⟩) ∧ w'.cell? ⟨cb, 7, none⟩ = some (.string ⟨c.newSup.toArray⟩) ∧ w'.cell? ⟨cb, 8, none⟩ = some (.bool c.delOld) ∧ w'.cell? ⟨cb, 9, none⟩ = some (.bool c.hasSup) ∧ w'.cell? ⟨pb, 0, none⟩ = some (.pointer (some ⟨b, 0, none⟩)) := by
    intro w' hk
    have h1 := hk.2 cb _ _ _ hcb hcn (by decide)
    have h2 := hk.2 pb _ _ _ hpb hpn (by decide)
    refine ⟨?_, ?_, ?_, ?_, ?_⟩
    · rw [Lib.cell_of_heap h1]; exact hc6
    · rw [Lib.cell_of_heap h1]; exact hc7
    · rw [Lib.cell_of_heap h1]; exact hc8
    · rw [Lib.cell_of_heap h1]; exact hc9
    · rw [Lib.cell_of_heap h2]; rfl
  have HF := Lib.hid facts
  clear facts hcb hpb hc6 hc7 hc8 hc9
  obtain ⟨q6, q7, q8, q9, qp⟩ := HF.out w (WKept.refl b w)
  have hx1 := lineB_len [110, 101, 119, 114, 100, 110] c.newRdn
  have hmv : moveB c = lineB [110, 101, 119, 114, 100, 110] c.newRdn ++ lineB [100, 101, 108, 101, 116, 101, 111, 108, 100, 114, 100, 110] (if c.delOld then [49] else [48]) ++ (if c.hasSup then lineB [110, 101, 119, 115, 117, 112, 101, 114, 105, 111, 114] c.newSup else []) := rfl
  rw [hmv]
  clear hmv
  have k1 := line_any B b l [110, 101, 119, 114, 100, 110] c.newRdn w hW (by omega) (by simp) (by omega) hBw
  obtain ⟨N6, hN6⟩ : ∃ N6, c.newRdn = N6 := ⟨_, rfl⟩
  obtain ⟨N7, hN7⟩ : ∃ N7, c.newSup = N7 := ⟨_, rfl⟩
  obtain ⟨D, hD⟩ : ∃ D, c.delOld = D := ⟨_, rfl⟩
  obtain ⟨S, hS⟩ : ∃ S, c.hasSup = S := ⟨_, rfl⟩
  rw [hN6, hN7, hD, hS] at HF
  rw [hN6] at k1 hx1 q6 hn6 ⊢
  rw [hN7] at q7 hn7 ⊢
  rw [hD] at q8 ⊢
  rw [hS] at q9 ⊢
  clear hN6 hN7 hD hS
  obtain ⟨M1, hM1⟩ : ∃ M1, lineB [110, 101, 119, 114, 100, 110] N6 = M1 := ⟨_, rfl⟩
  rw [hM1] at k1 hx1 ⊢
  clear hM1
  simp only [List.length_cons, List.length_nil] at hx1
  cases D <;> cases S
  all_goals
    go_enter Tryd.func51, Tryd.ntmps51
    go_wp2_with fail
    refine Calls.mono (show Calls _ _ _ _ _ from k1) ?_
    rintro e w1 ⟨rfl, hW1, hb1, hk1⟩
    clear q6 q7 q8 q9 qp
    obtain ⟨q6, q7, q8, q9, qp⟩ := HF.out w1 hk1
    go_wp2_with fail
  · refine Calls.mono (show Calls _ _ _ _ _ from line_any B b (l ++ M1) [100, 101, 108, 101, 116, 101, 111, 108, 100, 114, 100, 110] [48] w1 hW1 (by rw [List.length_append]; omega) (by simp) (by simp) (Nat.le_trans hBw hb1.size)) ?_
    rintro e w2 ⟨rfl, hW2, hb2, hk2⟩
    clear q6 q7 q8 q9 qp
    obtain ⟨q6, q7, q8, q9, qp⟩ := HF.out w2 (hk1.trans hk2)
    go_wp2_with fail
    go_end0
    exact ⟨rfl, by simpa using hW2, hb1.trans hb2, hk1.trans hk2⟩
  · refine Calls.mono (show Calls _ _ _ _ _ from line_any B b (l ++ M1) [100, 101, 108, 101, 116, 101, 111, 108, 100, 114, 100, 110] [48] w1 hW1 (by rw [List.length_append]; omega) (by simp) (by simp) (Nat.le_trans hBw hb1.size)) ?_
    rintro e w2 ⟨rfl, hW2, hb2, hk2⟩
    clear q6 q7 q8 q9 qp
    obtain ⟨q6, q7, q8, q9, qp⟩ := HF.out w2 (hk1.trans hk2)
    have hx2 := lineB_len [100, 101, 108, 101, 116, 101, 111, 108, 100, 114, 100, 110] [48]
    simp only [List.length_cons, List.length_nil] at hx2
    obtain ⟨M2, hM2⟩ : ∃ M2, lineB [100, 101, 108, 101, 116, 101, 111, 108, 100, 114, 100, 110] [48] = M2 := ⟨_, rfl⟩
    rw [hM2] at hx2 hW2
    go_wp2_with fail
    refine Calls.mono (show Calls _ _ _ _ _ from line_any B b (l ++ M1 ++ M2) [110, 101, 119, 115, 117, 112, 101, 114, 105, 111, 114] N7 w2 hW2 (by simp only [List.length_append]; omega) (by simp) (by omega) (Nat.le_trans (Nat.le_trans hBw hb1.size) hb2.size)) ?_
    rintro e w3 ⟨rfl, hW3, hb3, hk3⟩
    go_wp2_with fail
    go_end0
    refine ⟨rfl, ?_, (hb1.trans hb2).trans hb3, (hk1.trans hk2).trans hk3⟩
    first | simpa [List.append_assoc] using hW3 | (rw [← hM2] at hW3; simpa [List.append_assoc] using hW3)
  · refine Calls.mono (show Calls _ _ _ _ _ from line_any B b (l ++ M1) [100, 101, 108, 101, 116, 101, 111, 108, 100, 114, 100, 110] [49] w1 hW1 (by rw [List.length_append]; omega) (by simp) (by simp) (Nat.le_trans hBw hb1.size)) ?_
    rintro e w2 ⟨rfl, hW2, hb2, hk2⟩
    clear q6 q7 q8 q9 qp
    obtain ⟨q6, q7, q8, q9, qp⟩ := HF.out w2 (hk1.trans hk2)
    go_wp2_with fail
    go_end0
    exact ⟨rfl, by simpa using hW2, hb1.trans hb2, hk1.trans hk2⟩
  · refine Calls.mono (show Calls _ _ _ _ _ from line_any B b (l ++ M1) [100, 101, 108, 101, 116, 101, 111, 108, 100, 114, 100, 110] [49] w1 hW1 (by rw [List.length_append]; omega) (by simp) (by simp) (Nat.le_trans hBw hb1.size)) ?_
    rintro e w2 ⟨rfl, hW2, hb2, hk2⟩
    clear q6 q7 q8 q9 qp
    obtain ⟨q6, q7, q8, q9, qp⟩ := HF.out w2 (hk1.trans hk2)
    have hx2 := lineB_len [100, 101, 108, 101, 116, 101, 111, 108, 100, 114, 100, 110] [49]
    simp only [List.length_cons, List.length_nil] at hx2
    obtain ⟨M2, hM2⟩ : ∃ M2, lineB [100, 101, 108, 101, 116, 101, 111, 108, 100, 114, 100, 110] [49] = M2 := ⟨_, rfl⟩
    rw [hM2] at hx2 hW2
    go_wp2_with fail
    refine Calls.mono (show Calls _ _ _ _ _ from line_any B b (l ++ M1 ++ M2) [110, 101, 119, 115, 117, 112, 101, 114, 105, 111, 114] N7 w2 hW2 (by simp only [List.length_append]; omega) (by simp) (by omega) (Nat.le_trans (Nat.le_trans hBw hb1.size) hb2.size)) ?_
    rintro e w3 ⟨rfl, hW3, hb3, hk3⟩
    go_wp2_with fail
    go_end0
    refine ⟨rfl, ?_, (hb1.trans hb2).trans hb3, (hk1.trans hk2).trans hk3⟩
    first | simpa [List.append_assoc] using hW3 | (rw [← hM2] at hW3; simpa [List.append_assoc] using hW3)
end Go.Proofs.YtehpdodjncabkaaDoor
