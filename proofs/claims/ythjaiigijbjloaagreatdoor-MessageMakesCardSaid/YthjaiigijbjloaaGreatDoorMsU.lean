/- message.Result, Notice; the document's Reply, IsRequest, Same at messages without lists; the laws MessageReplies and MessageMakes. (Written by genmsu.py.) -/
import Derived.Test.YthjaiigijbjloaaGreatDoorMsT
namespace Go.Proofs.YthjaiigijbjloaaGreatDoor
open Go.RowKit Go.Lib

theorem row_cells {g : Nat} {x0 x1 x2 x3 x4 x5 x6 x7 x8 x9 x10 x11 x12 x13 x14 x15 x16 x17 x18 x19 x20 x21 x22 x23 x24 x25 x26 x27 : Value} {W : World} (h : W.heap[g]? = some (.cells #[x0, x1, x2, x3, x4, x5, x6, x7, x8, x9, x10, x11, x12, x13, x14, x15, x16, x17, x18, x19, x20, x21, x22, x23, x24, x25, x26, x27] 28 (0, 0))) :
    W.cell? ⟨g, 0, none⟩ = some x0 ∧ W.cell? ⟨g, 1, none⟩ = some x1 ∧ W.cell? ⟨g, 2, none⟩ = some x2 ∧ W.cell? ⟨g, 3, none⟩ = some x3 ∧ W.cell? ⟨g, 4, none⟩ = some x4 ∧ W.cell? ⟨g, 5, none⟩ = some x5 ∧ W.cell? ⟨g, 6, none⟩ = some x6 ∧ W.cell? ⟨g, 7, none⟩ = some x7 ∧ W.cell? ⟨g, 8, none⟩ = some x8 ∧ W.cell? ⟨g, 9, none⟩ = some x9 ∧ W.cell? ⟨g, 10, none⟩ = some x10 ∧ W.cell? ⟨g, 11, none⟩ = some x11 ∧ W.cell? ⟨g, 12, none⟩ = some x12 ∧ W.cell? ⟨g, 13, none⟩ = some x13 ∧ W.cell? ⟨g, 14, none⟩ = some x14 ∧ W.cell? ⟨g, 15, none⟩ = some x15 ∧ W.cell? ⟨g, 16, none⟩ = some x16 ∧ W.cell? ⟨g, 17, none⟩ = some x17 ∧ W.cell? ⟨g, 18, none⟩ = some x18 ∧ W.cell? ⟨g, 19, none⟩ = some x19 ∧ W.cell? ⟨g, 20, none⟩ = some x20 ∧ W.cell? ⟨g, 21, none⟩ = some x21 ∧ W.cell? ⟨g, 22, none⟩ = some x22 ∧ W.cell? ⟨g, 23, none⟩ = some x23 ∧ W.cell? ⟨g, 24, none⟩ = some x24 ∧ W.cell? ⟨g, 25, none⟩ = some x25 ∧ W.cell? ⟨g, 26, none⟩ = some x26 ∧ W.cell? ⟨g, 27, none⟩ = some x27 := by
  refine ⟨?_, ?_, ?_, ?_, ?_, ?_, ?_, ?_, ?_, ?_, ?_, ?_, ?_, ?_, ?_, ?_, ?_, ?_, ?_, ?_, ?_, ?_, ?_, ?_, ?_, ?_, ?_, ?_⟩ <;> (rw [Lib.cell_of_heap h]; rfl)
theorem r9SameFilter_nil (w : World) : Calls Tryz.prog 49 #[.slice none 0 0, .slice none 0 0] w fun e w' => e = .returned (.bool true) ∧ w' = w := by
  go_enter Tryz.func49, Tryz.ntmps49
  go_wp2_with fail
  refine wp_loop_rounds 1 ?_
  rw [rounds_succ]
  go_wp2_with fail
  go_ret
  exact ⟨rfl, rfl⟩
theorem r9texts_nil (w : World) : Calls Tryz.prog 50 #[.slice none 0 0, .slice none 0 0] w fun e w' => e = .returned (.bool true) ∧ w' = w := by
  go_enter Tryz.func50, Tryz.ntmps50
  go_wp2_with fail
  refine wp_loop_rounds 1 ?_
  rw [rounds_succ]
  go_wp2_with fail
  go_ret
  exact ⟨rfl, rfl⟩
theorem r9SameMods_nil (w : World) : Calls Tryz.prog 51 #[.slice none 0 0, .slice none 0 0] w fun e w' => e = .returned (.bool true) ∧ w' = w := by
  go_enter Tryz.func51, Tryz.ntmps51
  go_wp2_with fail
  refine wp_loop_rounds 1 ?_
  rw [rounds_succ]
  go_wp2_with fail
  go_ret
  exact ⟨rfl, rfl⟩
theorem r9SameAttrs_nil (w : World) : Calls Tryz.prog 52 #[.slice none 0 0, .slice none 0 0] w fun e w' => e = .returned (.bool true) ∧ w' = w := by
  go_enter Tryz.func52, Tryz.ntmps52
  go_wp2_with fail
  refine wp_loop_rounds 1 ?_
  rw [rounds_succ]
  go_wp2_with fail
  go_ret
  exact ⟨rfl, rfl⟩
theorem r9SameControls_nil (w : World) : Calls Tryz.prog 53 #[.slice none 0 0, .slice none 0 0] w fun e w' => e = .returned (.bool true) ∧ w' = w := by
  go_enter Tryz.func53, Tryz.ntmps53
  go_wp2_with fail
  refine wp_loop_rounds 1 ?_
  rw [rounds_succ]
  go_wp2_with fail
  go_ret
  exact ⟨rfl, rfl⟩
set_option maxRecDepth 100000 in
set_option maxHeartbeats 8000000 in
theorem SameFlat (x0 : Int) (x1 : Int) (x2 : List UInt8) (x3 : Int) (x4 : Bool) (x5 : List UInt8) (x6 : Int) (x7 : Int) (x8 : Int) (x9 : Int) (x10 : Bool) (x15 : List UInt8) (x16 : List UInt8) (x17 : Bool) (x18 : Bool) (x19 : List UInt8) (x20 : List UInt8) (x21 : List UInt8) (x22 : Bool) (x23 : Int) (x24 : Int) (x25 : List UInt8) (x26 : List UInt8) (w : World) : Calls Tryz.prog 18 #[.agg #[.int .i64 x0, .int .i64 x1, .string ⟨x2.toArray⟩, .int .i64 x3, .bool x4, .string ⟨x5.toArray⟩, .int .i64 x6, .int .i64 x7, .int .i64 x8, .int .i64 x9, .bool x10, .slice none 0 0, .slice none 0 0, .slice none 0 0, .slice none 0 0, .string ⟨x15.toArray⟩, .string ⟨x16.toArray⟩, .bool x17, .bool x18, .string ⟨x19.toArray⟩, .string ⟨x20.toArray⟩, .string ⟨x21.toArray⟩, .bool x22, .int .i64 x23, .int .i64 x24, .string ⟨x25.toArray⟩, .string ⟨x26.toArray⟩, .slice none 0 0], .agg #[.int .i64 x0, .int .i64 x1, .string ⟨x2.toArray⟩, .int .i64 x3, .bool x4, .string ⟨x5.toArray⟩, .int .i64 x6, .int .i64 x7, .int .i64 x8, .int .i64 x9, .bool x10, .slice none 0 0, .slice none 0 0, .slice none 0 0, .slice none 0 0, .string ⟨x15.toArray⟩, .string ⟨x16.toArray⟩, .bool x17, .bool x18, .string ⟨x19.toArray⟩, .string ⟨x20.toArray⟩, .string ⟨x21.toArray⟩, .bool x22, .int .i64 x23, .int .i64 x24, .string ⟨x25.toArray⟩, .string ⟨x26.toArray⟩, .slice none 0 0]] w fun e w' => e = .returned (.bool true) ∧ Below w.heap.size w w' := by
  have hb2 : Below w.heap.size w ((w.alloc (.cells #[.int .i64 x0, .int .i64 x1, .string ⟨x2.toArray⟩, .int .i64 x3, .bool x4, .string ⟨x5.toArray⟩, .int .i64 x6, .int .i64 x7, .int .i64 x8, .int .i64 x9, .bool x10, .slice none 0 0, .slice none 0 0, .slice none 0 0, .slice none 0 0, .string ⟨x15.toArray⟩, .string ⟨x16.toArray⟩, .bool x17, .bool x18, .string ⟨x19.toArray⟩, .string ⟨x20.toArray⟩, .string ⟨x21.toArray⟩, .bool x22, .int .i64 x23, .int .i64 x24, .string ⟨x25.toArray⟩, .string ⟨x26.toArray⟩, .slice none 0 0] 28)).alloc (.cells #[.int .i64 x0, .int .i64 x1, .string ⟨x2.toArray⟩, .int .i64 x3, .bool x4, .string ⟨x5.toArray⟩, .int .i64 x6, .int .i64 x7, .int .i64 x8, .int .i64 x9, .bool x10, .slice none 0 0, .slice none 0 0, .slice none 0 0, .slice none 0 0, .string ⟨x15.toArray⟩, .string ⟨x16.toArray⟩, .bool x17, .bool x18, .string ⟨x19.toArray⟩, .string ⟨x20.toArray⟩, .string ⟨x21.toArray⟩, .bool x22, .int .i64 x23, .int .i64 x24, .string ⟨x25.toArray⟩, .string ⟨x26.toArray⟩, .slice none 0 0] 28)) := ((Below.refl _ _).alloc (Nat.le_refl _) _).alloc (by simp) _
  have hk1 : ((w.alloc (.cells #[.int .i64 x0, .int .i64 x1, .string ⟨x2.toArray⟩, .int .i64 x3, .bool x4, .string ⟨x5.toArray⟩, .int .i64 x6, .int .i64 x7, .int .i64 x8, .int .i64 x9, .bool x10, .slice none 0 0, .slice none 0 0, .slice none 0 0, .slice none 0 0, .string ⟨x15.toArray⟩, .string ⟨x16.toArray⟩, .bool x17, .bool x18, .string ⟨x19.toArray⟩, .string ⟨x20.toArray⟩, .string ⟨x21.toArray⟩, .bool x22, .int .i64 x23, .int .i64 x24, .string ⟨x25.toArray⟩, .string ⟨x26.toArray⟩, .slice none 0 0] 28)).alloc (.cells #[.int .i64 x0, .int .i64 x1, .string ⟨x2.toArray⟩, .int .i64 x3, .bool x4, .string ⟨x5.toArray⟩, .int .i64 x6, .int .i64 x7, .int .i64 x8, .int .i64 x9, .bool x10, .slice none 0 0, .slice none 0 0, .slice none 0 0, .slice none 0 0, .string ⟨x15.toArray⟩, .string ⟨x16.toArray⟩, .bool x17, .bool x18, .string ⟨x19.toArray⟩, .string ⟨x20.toArray⟩, .string ⟨x21.toArray⟩, .bool x22, .int .i64 x23, .int .i64 x24, .string ⟨x25.toArray⟩, .string ⟨x26.toArray⟩, .slice none 0 0] 28)).heap[w.heap.size]? = some (.cells #[.int .i64 x0, .int .i64 x1, .string ⟨x2.toArray⟩, .int .i64 x3, .bool x4, .string ⟨x5.toArray⟩, .int .i64 x6, .int .i64 x7, .int .i64 x8, .int .i64 x9, .bool x10, .slice none 0 0, .slice none 0 0, .slice none 0 0, .slice none 0 0, .string ⟨x15.toArray⟩, .string ⟨x16.toArray⟩, .bool x17, .bool x18, .string ⟨x19.toArray⟩, .string ⟨x20.toArray⟩, .string ⟨x21.toArray⟩, .bool x22, .int .i64 x23, .int .i64 x24, .string ⟨x25.toArray⟩, .string ⟨x26.toArray⟩, .slice none 0 0] 28 (0, 0)) := (Lib.alloc_old _ _ _ (by simp)).trans (alloc_at _ _ _ rfl)
  have hk2 : ((w.alloc (.cells #[.int .i64 x0, .int .i64 x1, .string ⟨x2.toArray⟩, .int .i64 x3, .bool x4, .string ⟨x5.toArray⟩, .int .i64 x6, .int .i64 x7, .int .i64 x8, .int .i64 x9, .bool x10, .slice none 0 0, .slice none 0 0, .slice none 0 0, .slice none 0 0, .string ⟨x15.toArray⟩, .string ⟨x16.toArray⟩, .bool x17, .bool x18, .string ⟨x19.toArray⟩, .string ⟨x20.toArray⟩, .string ⟨x21.toArray⟩, .bool x22, .int .i64 x23, .int .i64 x24, .string ⟨x25.toArray⟩, .string ⟨x26.toArray⟩, .slice none 0 0] 28)).alloc (.cells #[.int .i64 x0, .int .i64 x1, .string ⟨x2.toArray⟩, .int .i64 x3, .bool x4, .string ⟨x5.toArray⟩, .int .i64 x6, .int .i64 x7, .int .i64 x8, .int .i64 x9, .bool x10, .slice none 0 0, .slice none 0 0, .slice none 0 0, .slice none 0 0, .string ⟨x15.toArray⟩, .string ⟨x16.toArray⟩, .bool x17, .bool x18, .string ⟨x19.toArray⟩, .string ⟨x20.toArray⟩, .string ⟨x21.toArray⟩, .bool x22, .int .i64 x23, .int .i64 x24, .string ⟨x25.toArray⟩, .string ⟨x26.toArray⟩, .slice none 0 0] 28)).heap[w.heap.size + 1]? = some (.cells #[.int .i64 x0, .int .i64 x1, .string ⟨x2.toArray⟩, .int .i64 x3, .bool x4, .string ⟨x5.toArray⟩, .int .i64 x6, .int .i64 x7, .int .i64 x8, .int .i64 x9, .bool x10, .slice none 0 0, .slice none 0 0, .slice none 0 0, .slice none 0 0, .string ⟨x15.toArray⟩, .string ⟨x16.toArray⟩, .bool x17, .bool x18, .string ⟨x19.toArray⟩, .string ⟨x20.toArray⟩, .string ⟨x21.toArray⟩, .bool x22, .int .i64 x23, .int .i64 x24, .string ⟨x25.toArray⟩, .string ⟨x26.toArray⟩, .slice none 0 0] 28 (0, 0)) := alloc_at _ _ _ (by simp)
  go_enter Tryz.func18, Tryz.ntmps18
  refine wp_seq ?_
  refine wp_region_list ?_
  refine wpList_plain rfl fun K hK => ?_
  go_simp
  refine hK _ _ ?_; clear hK K
  refine wpList_plain rfl fun K hK => ?_
  go_simp
  refine hK _ _ ?_; clear hK K
  generalize ((w.alloc (.cells #[.int .i64 x0, .int .i64 x1, .string ⟨x2.toArray⟩, .int .i64 x3, .bool x4, .string ⟨x5.toArray⟩, .int .i64 x6, .int .i64 x7, .int .i64 x8, .int .i64 x9, .bool x10, .slice none 0 0, .slice none 0 0, .slice none 0 0, .slice none 0 0, .string ⟨x15.toArray⟩, .string ⟨x16.toArray⟩, .bool x17, .bool x18, .string ⟨x19.toArray⟩, .string ⟨x20.toArray⟩, .string ⟨x21.toArray⟩, .bool x22, .int .i64 x23, .int .i64 x24, .string ⟨x25.toArray⟩, .string ⟨x26.toArray⟩, .slice none 0 0] 28)).alloc (.cells #[.int .i64 x0, .int .i64 x1, .string ⟨x2.toArray⟩, .int .i64 x3, .bool x4, .string ⟨x5.toArray⟩, .int .i64 x6, .int .i64 x7, .int .i64 x8, .int .i64 x9, .bool x10, .slice none 0 0, .slice none 0 0, .slice none 0 0, .slice none 0 0, .string ⟨x15.toArray⟩, .string ⟨x16.toArray⟩, .bool x17, .bool x18, .string ⟨x19.toArray⟩, .string ⟨x20.toArray⟩, .string ⟨x21.toArray⟩, .bool x22, .int .i64 x23, .int .i64 x24, .string ⟨x25.toArray⟩, .string ⟨x26.toArray⟩, .slice none 0 0] 28)) = w2 at hb2 hk1 hk2 ⊢
  obtain ⟨c0, c1, c2, c3, c4, c5, c6, c7, c8, c9, c10, c11, c12, c13, c14, c15, c16, c17, c18, c19, c20, c21, c22, c23, c24, c25, c26, c27⟩ := row_cells hk1
  obtain ⟨d0, d1, d2, d3, d4, d5, d6, d7, d8, d9, d10, d11, d12, d13, d14, d15, d16, d17, d18, d19, d20, d21, d22, d23, d24, d25, d26, d27⟩ := row_cells hk2
  clear hk1 hk2
  go_wp2_with (first
    | (go_at_call 49; refine Calls.mono (show Calls _ _ _ _ _ from r9SameFilter_nil _) ?_; rintro e w3 ⟨rfl, rfl⟩)
    | (go_at_call 50; refine Calls.mono (show Calls _ _ _ _ _ from r9texts_nil _) ?_; rintro e w4 ⟨rfl, rfl⟩)
    | (go_at_call 51; refine Calls.mono (show Calls _ _ _ _ _ from r9SameMods_nil _) ?_; rintro e w5 ⟨rfl, rfl⟩)
    | (go_at_call 52; refine Calls.mono (show Calls _ _ _ _ _ from r9SameAttrs_nil _) ?_; rintro e w6 ⟨rfl, rfl⟩)
    | (go_at_call 53; refine Calls.mono (show Calls _ _ _ _ _ from r9SameControls_nil _) ?_; rintro e w7 ⟨rfl, rfl⟩))
  go_ret
  exact ⟨rfl, hb2⟩
end Go.Proofs.YthjaiigijbjloaaGreatDoor
