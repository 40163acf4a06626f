/- ldif.Print at the record that alive prints. -/
import Derived.Test.YtgdnekhndmijpaaDoorLdifA
namespace Go.Proofs.YtgdnekhndmijpaaDoor
open Go.RowKit Go.Lib

theorem IsW_new (w : World) : IsW w.heap.size w.heap.size [] (w.alloc (.cells #[.pointer none, .slice none 0 0] 65)) :=
  .inl ⟨Nat.le_refl _, .slice none 0 0, alloc_at _ _ _ rfl, World.ownsRow_nil _ _ _ _, by simp [Value.ownBlock]⟩
def aliveC (t d : List UInt8) : Array Value := #[.string ⟨t.toArray⟩, .string ⟨#[]⟩, .string ⟨d.toArray⟩, .int .i64 1, .slice none 0 0, .slice none 0 0, .string ⟨#[]⟩, .string ⟨#[]⟩, .bool false, .bool false]
theorem lineB_le (n v : List UInt8) : (lineB n v).length ≤ n.length + 2 * v.length + 8 := by
  unfold lineB
  split
  · simp; omega
  · simp only [List.length_append, b64_length v.length v (Nat.le_refl _)]
    simp
    omega
theorem cc_cells {g : Nat} {t d : List UInt8} {W : World} (h : W.heap[g]? = some (.cells (aliveC t d) 25 (0, 0))) :
    W.cell? ⟨g, 0, none⟩ = some (.string ⟨t.toArray⟩) ∧ W.cell? ⟨g, 1, none⟩ = some (.string ⟨#[]⟩) ∧ W.cell? ⟨g, 2, none⟩ = some (.string ⟨d.toArray⟩) ∧ W.cell? ⟨g, 3, none⟩ = some (.int .i64 1) := by
  refine ⟨?_, ?_, ?_, ?_⟩ <;> (rw [Lib.cell_of_heap h]; rfl)
def aliveB (t d : List UInt8) : List UInt8 := [] ++ lineB [116, 105, 109, 101] t ++ lineB [119, 104, 111] [] ++ lineB [100, 110] d ++ lineB [99, 104, 97, 110, 103, 101, 116, 121, 112, 101] [100, 101, 108, 101, 116, 101] ++ [10]
set_option maxRecDepth 100000 in
set_option maxHeartbeats 2000000 in
theorem Print_alive (w : World) (t d : List UInt8) (ht : t.length ≤ 1000) (hd : d.length ≤ 1000) :
    Calls Tryd.prog 12 #[.agg #[.string ⟨t.toArray⟩, .string ⟨#[]⟩, .string ⟨d.toArray⟩, .int .i64 1, .slice none 0 0, .slice none 0 0, .string ⟨#[]⟩, .string ⟨#[]⟩, .bool false, .bool false]] w fun e w' => e = .returned (.tuple #[.string ⟨(aliveB t d).toArray⟩, .int .i64 0]) ∧ Below w.heap.size w w' := by
  obtain ⟨ANS, hA⟩ : ∃ ANS, aliveB t d = ANS := ⟨_, rfl⟩
  rw [hA]
  have HA := Lib.hid hA
  clear hA
  go_enter Tryd.func12, Tryd.ntmps12
  go_wp2_with (go_at_call 25; refine (right_alive _ _ _).mono ?_; rintro e w1 ⟨rfl, hb1⟩; have hc1 := hb1.block w.heap.size (by simp); rw [alloc_at _ _ _ rfl] at hc1; have hs1 := hb1.size; have hlt1 : w.heap.size < w1.heap.size := (by simp at hs1; omega); have hc2 := (Lib.alloc_old w1 (.cells #[.pointer none, .slice none 0 0] 65) w.heap.size hlt1).trans hc1; obtain ⟨q0, q1, q2, q3⟩ := cc_cells hc2)
  refine Calls.mono (line_any w1.heap.size w1.heap.size [] [116, 105, 109, 101] t _ (IsW_new w1) (by simp) (by simp) (by omega) (by simp)) ?_
  rintro e w2 ⟨rfl, hw2, hb2⟩
  clear q0 q1 q2 q3
  have hc3 := (hb2.block w.heap.size hlt1).trans hc2
  obtain ⟨q0, q1, q2, q3⟩ := cc_cells hc3
  have z2 : w1.heap.size ≤ w2.heap.size := Nat.le_trans (by simp) hb2.size
  go_wp2_with fail
  obtain ⟨l2, hl2⟩ : ∃ l2, [] ++ lineB [116, 105, 109, 101] t = l2 := ⟨_, rfl⟩
  rw [hl2] at hw2
  have y2 : l2.length ≤ 10000 := by have := lineB_le [116, 105, 109, 101] t; rw [← hl2]; simp at this ⊢; omega
  refine Calls.mono (line_any w1.heap.size w1.heap.size l2 [119, 104, 111] [] w2 hw2 (by omega) (by simp) (by simp) z2) ?_
  rintro e w3 ⟨rfl, hw3, hb3⟩
  clear q0 q1 q2 q3
  have hc4 := (hb3.block w.heap.size hlt1).trans hc3
  obtain ⟨q0, q1, q2, q3⟩ := cc_cells hc4
  have z3 : w1.heap.size ≤ w3.heap.size := Nat.le_trans z2 hb3.size
  go_wp2_with fail
  obtain ⟨l3, hl3⟩ : ∃ l3, l2 ++ lineB [119, 104, 111] [] = l3 := ⟨_, rfl⟩
  rw [hl3] at hw3
  have y3 : l3.length ≤ 20000 := by have := lineB_le [119, 104, 111] []; rw [← hl3]; simp at this ⊢; omega
  refine Calls.mono (line_any w1.heap.size w1.heap.size l3 [100, 110] d w3 hw3 (by omega) (by simp) (by omega) z3) ?_
  rintro e w4 ⟨rfl, hw4, hb4⟩
  clear q0 q1 q2 q3
  have hc5 := (hb4.block w.heap.size hlt1).trans hc4
  obtain ⟨q0, q1, q2, q3⟩ := cc_cells hc5
  have z4 : w1.heap.size ≤ w4.heap.size := Nat.le_trans z3 hb4.size
  go_wp2_with (go_at_call 27; refine (kind_alive _).mono ?_; rintro e w' ⟨rfl, rfl⟩)
  obtain ⟨l4, hl4⟩ : ∃ l4, l3 ++ lineB [100, 110] d = l4 := ⟨_, rfl⟩
  rw [hl4] at hw4
  have y4 : l4.length ≤ 30000 := by have := lineB_le [100, 110] d; rw [← hl4]; simp at this ⊢; omega
  refine Calls.mono (line_any w1.heap.size w1.heap.size l4 [99, 104, 97, 110, 103, 101, 116, 121, 112, 101] [100, 101, 108, 101, 116, 101] w4 hw4 (by omega) (by simp) (by simp) z4) ?_
  rintro e w5 ⟨rfl, hw5, hb5⟩
  clear q0 q1 q2 q3
  have hc6 := (hb5.block w.heap.size hlt1).trans hc5
  have z5 : w1.heap.size ≤ w5.heap.size := Nat.le_trans z4 hb5.size
  obtain ⟨l5, hl5⟩ : ∃ l5, l4 ++ lineB [99, 104, 97, 110, 103, 101, 116, 121, 112, 101] [100, 101, 108, 101, 116, 101] = l5 := ⟨_, rfl⟩
  rw [hl5] at hw5
  have y5 : l5.length ≤ 40000 := by have := lineB_le [99, 104, 97, 110, 103, 101, 116, 121, 112, 101] [100, 101, 108, 101, 116, 101]; rw [← hl5]; simp at this ⊢; omega
  obtain ⟨q0, q1, q2, q3⟩ := cc_cells hc6
  obtain ⟨q4, q5, q6, q7, q8, q9⟩ : w5.cell? ⟨w.heap.size, 4, none⟩ = some (.slice none 0 0) ∧ w5.cell? ⟨w.heap.size, 5, none⟩ = some (.slice none 0 0) ∧ w5.cell? ⟨w.heap.size, 6, none⟩ = some (.string ⟨#[]⟩) ∧ w5.cell? ⟨w.heap.size, 7, none⟩ = some (.string ⟨#[]⟩) ∧ w5.cell? ⟨w.heap.size, 8, none⟩ = some (.bool false) ∧ w5.cell? ⟨w.heap.size, 9, none⟩ = some (.bool false) := by
    refine ⟨?_, ?_, ?_, ?_, ?_, ?_⟩ <;> (rw [Lib.cell_of_heap hc6]; rfl)
  have hans : l5 ++ [10] = ANS := by rw [← HA.out, ← hl5, ← hl4, ← hl3, ← hl2]; rfl
  have HB := Lib.hid hans
  clear hans hl5 hl4 hl3 hl2 HA
  go_wp2_with (first | (go_at_call 28; refine (rest_alive _ _ _ _).mono ?_; rintro e w6 ⟨rfl, hb6⟩; have hw6 := IsW.below hw5 hb6; have z6 := Nat.le_trans z5 hb6.size) | (go_at_call 29; refine Calls.mono (show Calls _ _ _ _ _ from W_WriteByte w1.heap.size w1.heap.size l5 10 w6 hw6 (by omega) z6) ?_; rintro e w7 ⟨rfl, hw7, hb7⟩; rw [HB.out] at hw7; have hal : ANS.length ≤ 40001 := (by rw [← HB.out]; simp; omega); have han : ANS ≠ [] := (by rw [← HB.out]; simp)) | (go_at_call 30; refine (W_Len _ _ ANS w7 hw7).mono ?_; rintro e w' ⟨rfl, rfl⟩) | (go_at_call 31; refine (W_String _ _ ANS w7 hw7 han).mono ?_; rintro e w8 ⟨rfl, hb8⟩))
  go_ret2
  have hle : w.heap.size ≤ w1.heap.size := Nat.le_of_lt hlt1
  have b1 := ((Below.refl w.heap.size w).alloc (Nat.le_refl _) _).trans (hb1.mono (by simp))
  have b5 := ((((b1.alloc hle _).trans (hb2.mono hle)).trans (hb3.mono hle)).trans (hb4.mono hle)).trans (hb5.mono hle)
  exact ⟨rfl, ((b5.trans (hb6.mono (Nat.le_trans hle z5))).trans (hb7.mono hle)).trans (hb8.mono hle)⟩
end Go.Proofs.YtgdnekhndmijpaaDoor
