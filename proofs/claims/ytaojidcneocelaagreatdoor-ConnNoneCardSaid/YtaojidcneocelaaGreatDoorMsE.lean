/- message.bare at a delete. (Written by genmsd.py.) -/
import Derived.Test.YtaojidcneocelaaGreatDoorMsD
namespace Go.Proofs.YtaojidcneocelaaGreatDoor
open Go.RowKit Go.Lib

set_option maxRecDepth 100000 in
set_option maxHeartbeats 4000000 in
theorem bare_delete (n : Int) (dn : List UInt8) (w : World) :
    Calls Tryz.prog 57 #[.agg (msgD n 10 dn)] w fun e w' => e = .returned (.tuple #[.agg (msgD n 10 dn), .bool true]) ∧ Below w.heap.size w w' := by
  obtain ⟨A, hA⟩ : ∃ A, msgD n 10 dn = A := ⟨_, rfl⟩
  rw [hA]
  have HA := Lib.hid hA
  clear hA
  have b1 : Below w.heap.size w ((w.alloc (.cells A 32)).alloc (.cells #[.int .i64 0, .int .i64 0, .string ⟨#[]⟩, .int .i64 0, .bool false, .string ⟨#[]⟩, .int .i64 0, .int .i64 0, .int .i64 0, .int .i64 0, .bool false, .slice none 0 0, .slice none 0 0, .slice none 0 0, .slice none 0 0, .string ⟨#[]⟩, .string ⟨#[]⟩, .bool false, .bool false, .string ⟨#[]⟩, .string ⟨#[]⟩, .string ⟨#[]⟩, .bool false, .int .i64 0, .int .i64 0, .string ⟨#[]⟩, .string ⟨#[]⟩, .slice none 0 0] 32)) := ((Below.refl _ _).alloc (Nat.le_refl _) _).alloc (by simp) _
  have m1 : ((w.alloc (.cells A 32)).alloc (.cells #[.int .i64 0, .int .i64 0, .string ⟨#[]⟩, .int .i64 0, .bool false, .string ⟨#[]⟩, .int .i64 0, .int .i64 0, .int .i64 0, .int .i64 0, .bool false, .slice none 0 0, .slice none 0 0, .slice none 0 0, .slice none 0 0, .string ⟨#[]⟩, .string ⟨#[]⟩, .bool false, .bool false, .string ⟨#[]⟩, .string ⟨#[]⟩, .string ⟨#[]⟩, .bool false, .int .i64 0, .int .i64 0, .string ⟨#[]⟩, .string ⟨#[]⟩, .slice none 0 0] 32)).heap[w.heap.size]? = some (.cells A 32 (0, 0)) := (Lib.alloc_old _ _ _ (by simp)).trans (alloc_at _ _ _ rfl)
  have t1 : ((w.alloc (.cells A 32)).alloc (.cells #[.int .i64 0, .int .i64 0, .string ⟨#[]⟩, .int .i64 0, .bool false, .string ⟨#[]⟩, .int .i64 0, .int .i64 0, .int .i64 0, .int .i64 0, .bool false, .slice none 0 0, .slice none 0 0, .slice none 0 0, .slice none 0 0, .string ⟨#[]⟩, .string ⟨#[]⟩, .bool false, .bool false, .string ⟨#[]⟩, .string ⟨#[]⟩, .string ⟨#[]⟩, .bool false, .int .i64 0, .int .i64 0, .string ⟨#[]⟩, .string ⟨#[]⟩, .slice none 0 0] 32)).heap[w.heap.size + 1]? = some (.cells (msgD 0 0 []) 32 (0, 0)) := alloc_at _ _ _ (by simp)
  have hsz : ((w.alloc (.cells A 32)).alloc (.cells #[.int .i64 0, .int .i64 0, .string ⟨#[]⟩, .int .i64 0, .bool false, .string ⟨#[]⟩, .int .i64 0, .int .i64 0, .int .i64 0, .int .i64 0, .bool false, .slice none 0 0, .slice none 0 0, .slice none 0 0, .slice none 0 0, .string ⟨#[]⟩, .string ⟨#[]⟩, .bool false, .bool false, .string ⟨#[]⟩, .string ⟨#[]⟩, .string ⟨#[]⟩, .bool false, .int .i64 0, .int .i64 0, .string ⟨#[]⟩, .string ⟨#[]⟩, .slice none 0 0] 32)).heap.size = w.heap.size + 2 := by simp
  have HS := Lib.hid hsz
  clear hsz
  go_enter Tryz.func57, Tryz.ntmps57
  refine wp_seq ?_
  refine wp_region_list ?_
  refine wpList_plain rfl fun K hK => ?_
  go_simp
  refine hK _ _ ?_; clear hK K
  refine wpList_plain rfl fun K hK => ?_
  go_simp
  refine hK _ _ ?_; clear hK K
  generalize ((w.alloc (.cells A 32)).alloc (.cells #[.int .i64 0, .int .i64 0, .string ⟨#[]⟩, .int .i64 0, .bool false, .string ⟨#[]⟩, .int .i64 0, .int .i64 0, .int .i64 0, .int .i64 0, .bool false, .slice none 0 0, .slice none 0 0, .slice none 0 0, .slice none 0 0, .string ⟨#[]⟩, .string ⟨#[]⟩, .bool false, .bool false, .string ⟨#[]⟩, .string ⟨#[]⟩, .string ⟨#[]⟩, .bool false, .int .i64 0, .int .i64 0, .string ⟨#[]⟩, .string ⟨#[]⟩, .slice none 0 0] 32)) = w1 at b1 m1 t1 HS ⊢
  have q0 : w1.cell? ⟨w.heap.size, 0, none⟩ = some (.int .i64 n) := (Lib.cell_of_heap m1 0).trans (by rw [← HA.out]; rfl)
  have q1 : w1.cell? ⟨w.heap.size, 1, none⟩ = some (.int .i64 10) := (Lib.cell_of_heap m1 1).trans (by rw [← HA.out]; rfl)
  have q27 : w1.cell? ⟨w.heap.size, 27, none⟩ = some (.slice none 0 0) := (Lib.cell_of_heap m1 27).trans (by rw [← HA.out]; rfl)
  obtain ⟨X, hX⟩ : ∃ X, msgD n 10 [] = X := ⟨_, rfl⟩
  have hX1 : (#[.int .i64 n, .int .i64 10, .string ⟨#[]⟩, .int .i64 0, .bool false, .string ⟨#[]⟩, .int .i64 0, .int .i64 0, .int .i64 0, .int .i64 0, .bool false, .slice none 0 0, .slice none 0 0, .slice none 0 0, .slice none 0 0, .string ⟨#[]⟩, .string ⟨#[]⟩, .bool false, .bool false, .string ⟨#[]⟩, .string ⟨#[]⟩, .string ⟨#[]⟩, .bool false, .int .i64 0, .int .i64 0, .string ⟨#[]⟩, .string ⟨#[]⟩, .slice none 0 0] : Array Value) = X := hX
  have hX2 : X.all (·.oneCell') = true := by rw [← hX]; simp [msgD, Value.oneCell']
  have hX3 : X.size = 28 := by rw [← hX]; rfl
  have HX := Lib.hid hX
  have HX1 := Lib.hid hX1
  have HX2 := Lib.hid hX2
  have HX3 := Lib.hid hX3
  clear hX hX1 hX2 hX3
  go_upto_region 1 with fail
  refine wp_region_list ?_
  refine wpList_plain rfl fun K hK => ?_
  go_simp
  refine hK _ _ ?_; clear hK K
  refine wpList_plain rfl fun K hK => ?_
  go_simp
  refine hK _ _ ?_; clear hK K
  refine wpList_plain rfl fun K hK => ?_
  go_simp
  refine hK _ _ ?_; clear hK K
  refine wpList_plain rfl fun K hK => ?_
  go_simp
  refine hK _ _ ?_; clear hK K
  refine wpList_plain rfl fun K hK => ?_
  go_simp
  refine hK _ _ ?_; clear hK K
  refine wpList_plain rfl fun K hK => ?_
  go_simp
  refine hK _ _ ?_; clear hK K
  refine wpList_plain rfl fun K hK => ?_
  go_simp
  rw [HX1.out]
  refine hK _ _ ?_; clear hK K
  clear q0 q27
  refine wpList_plain rfl fun K hK => ?_
  go_simp
  refine hK _ _ ?_; clear hK K
  have b2 := b1.trans ((Below.refl w1.heap.size w1).alloc (Nat.le_refl _) (.cells #[.int .i64 0, .int .i64 0, .string ⟨#[]⟩, .int .i64 0, .bool false, .string ⟨#[]⟩, .int .i64 0, .int .i64 0, .int .i64 0, .int .i64 0, .bool false, .slice none 0 0, .slice none 0 0, .slice none 0 0, .slice none 0 0, .string ⟨#[]⟩, .string ⟨#[]⟩, .bool false, .bool false, .string ⟨#[]⟩, .string ⟨#[]⟩, .string ⟨#[]⟩, .bool false, .int .i64 0, .int .i64 0, .string ⟨#[]⟩, .string ⟨#[]⟩, .slice none 0 0] 32) |>.mono b1.size)
  have m2 := (Lib.alloc_old w1 (.cells #[.int .i64 0, .int .i64 0, .string ⟨#[]⟩, .int .i64 0, .bool false, .string ⟨#[]⟩, .int .i64 0, .int .i64 0, .int .i64 0, .int .i64 0, .bool false, .slice none 0 0, .slice none 0 0, .slice none 0 0, .slice none 0 0, .string ⟨#[]⟩, .string ⟨#[]⟩, .bool false, .bool false, .string ⟨#[]⟩, .string ⟨#[]⟩, .string ⟨#[]⟩, .bool false, .int .i64 0, .int .i64 0, .string ⟨#[]⟩, .string ⟨#[]⟩, .slice none 0 0] 32) w.heap.size (Array.getElem?_eq_some_iff.1 m1).1).trans m1
  have t2 := (Lib.alloc_old w1 (.cells #[.int .i64 0, .int .i64 0, .string ⟨#[]⟩, .int .i64 0, .bool false, .string ⟨#[]⟩, .int .i64 0, .int .i64 0, .int .i64 0, .int .i64 0, .bool false, .slice none 0 0, .slice none 0 0, .slice none 0 0, .slice none 0 0, .string ⟨#[]⟩, .string ⟨#[]⟩, .bool false, .bool false, .string ⟨#[]⟩, .string ⟨#[]⟩, .string ⟨#[]⟩, .bool false, .int .i64 0, .int .i64 0, .string ⟨#[]⟩, .string ⟨#[]⟩, .slice none 0 0] 32) (w.heap.size + 1) (Array.getElem?_eq_some_iff.1 t1).1).trans t1
  have x2 : (w1.alloc (.cells #[.int .i64 0, .int .i64 0, .string ⟨#[]⟩, .int .i64 0, .bool false, .string ⟨#[]⟩, .int .i64 0, .int .i64 0, .int .i64 0, .int .i64 0, .bool false, .slice none 0 0, .slice none 0 0, .slice none 0 0, .slice none 0 0, .string ⟨#[]⟩, .string ⟨#[]⟩, .bool false, .bool false, .string ⟨#[]⟩, .string ⟨#[]⟩, .string ⟨#[]⟩, .bool false, .int .i64 0, .int .i64 0, .string ⟨#[]⟩, .string ⟨#[]⟩, .slice none 0 0] 32)).heap[w1.heap.size]? = some (.cells (msgD 0 0 []) 32 (0, 0)) := alloc_at _ _ _ rfl
  have hg : w.heap.size + 1 < w1.heap.size := (Array.getElem?_eq_some_iff.1 t1).1
  clear b1 m1 t1 q1
  generalize (w1.alloc (.cells #[.int .i64 0, .int .i64 0, .string ⟨#[]⟩, .int .i64 0, .bool false, .string ⟨#[]⟩, .int .i64 0, .int .i64 0, .int .i64 0, .int .i64 0, .bool false, .slice none 0 0, .slice none 0 0, .slice none 0 0, .slice none 0 0, .string ⟨#[]⟩, .string ⟨#[]⟩, .bool false, .bool false, .string ⟨#[]⟩, .string ⟨#[]⟩, .string ⟨#[]⟩, .bool false, .int .i64 0, .int .i64 0, .string ⟨#[]⟩, .string ⟨#[]⟩, .slice none 0 0] 32)) = w2 at b2 m2 t2 x2 ⊢
  generalize w1.heap.size = g at x2 hg ⊢
  refine wpList_storeRow rfl 32 (.tmp 4) (.tmp 12) rfl g 32 _ X (by rfl) (by rfl) x2 (by rw [HX3.out]; rfl) (by rw [HX3.out]; rfl) HX2.out ?_
  have b3 := below_row b2 (g := g) (by omega) X
  have m3 := (setRow_other w2 g w.heap.size X (by omega)).trans m2
  have t3 := (setRow_other w2 g (w.heap.size + 1) X (by omega)).trans t2
  have x3 := setRow_heap w2 g _ X _ _ x2
  clear b2 m2 t2 x2
  generalize w2.setRow g X = w3 at b3 m3 t3 x3 ⊢
  have q1 : w3.cell? ⟨w.heap.size, 1, none⟩ = some (.int .i64 10) := (Lib.cell_of_heap m3 1).trans (by rw [← HA.out]; rfl)
  have q2 : w3.cell? ⟨w.heap.size, 2, none⟩ = some (.string ⟨dn.toArray⟩) := (Lib.cell_of_heap m3 2).trans (by rw [← HA.out]; rfl)
  go_simp
  have a3 : (w3.alloc (.cells #[.int .i64 8, .int .i64 4] 3)).heap[w3.heap.size]? = some (.cells #[.int .i64 8, .int .i64 4] 3 (0, 0)) := alloc_at _ _ _ rfl
  have kc := isOp_any 10 w3.heap.size [8, 4] (w3.alloc (.cells #[.int .i64 8, .int .i64 4] 3)) (by simp) (fun j hj => by
    have h2 : j < 2 := hj
    have hcases : j = 0 ∨ j = 1 := by omega
    rcases hcases with rfl | rfl
    · exact (Lib.cell_of_heap a3 0).trans rfl
    · exact (Lib.cell_of_heap a3 1).trans rfl)
  rw [show ([8, 4] : List Int).contains 10 = false from by decide] at kc
  have b4 := b3.trans ((Below.refl w3.heap.size w3).alloc (Nat.le_refl _) (.cells #[.int .i64 8, .int .i64 4] 3) |>.mono b3.size)
  have m4 := (Lib.alloc_old w3 (.cells #[.int .i64 8, .int .i64 4] 3) w.heap.size (Array.getElem?_eq_some_iff.1 m3).1).trans m3
  have t4 := (Lib.alloc_old w3 (.cells #[.int .i64 8, .int .i64 4] 3) (w.heap.size + 1) (Array.getElem?_eq_some_iff.1 t3).1).trans t3
  have x4 := (Lib.alloc_old w3 (.cells #[.int .i64 8, .int .i64 4] 3) g (Array.getElem?_eq_some_iff.1 x3).1).trans x3
  clear b3 m3 t3 x3 a3
  go_wp2_with fail
  clear q1 q2
  generalize w3.alloc (.cells #[.int .i64 8, .int .i64 4] 3) = w4 at b4 m4 t4 x4 kc ⊢
  refine Calls.mono (show Calls _ _ _ _ _ from kc) ?_
  rintro e w5 ⟨rfl, hw5⟩
  rw [hw5]
  clear hw5 kc
  have q1 : w4.cell? ⟨w.heap.size, 1, none⟩ = some (.int .i64 10) := (Lib.cell_of_heap m4 1).trans (by rw [← HA.out]; rfl)
  have q2 : w4.cell? ⟨w.heap.size, 2, none⟩ = some (.string ⟨dn.toArray⟩) := (Lib.cell_of_heap m4 2).trans (by rw [← HA.out]; rfl)
  have r2 : w4.cell? ⟨g, 2, none⟩ = some (.string ⟨#[]⟩) := (Lib.cell_of_heap x4 2).trans (by rw [← HX.out]; rfl)
  have z2 := Lib.frozen_of_heap x4 2
  have x5 : (w4.setCell ⟨g, 2, none⟩ (.string ⟨dn.toArray⟩)).heap[g]? = some (.cells A 32 (0, 0)) := by
    rw [← HX.out] at x4
    rw [← HA.out]
    exact setCell_at (i := 2) (u := .string ⟨dn.toArray⟩) x4
  have t5 : (w4.setCell ⟨g, 2, none⟩ (.string ⟨dn.toArray⟩)).heap[w.heap.size + 1]? = some (.cells (msgD 0 0 []) 32 (0, 0)) := (Below.heap_setCell w4 ⟨g, 2, none⟩ _ (w.heap.size + 1) (by show w.heap.size + 1 ≠ g; omega)).trans t4
  have b5 : Below w.heap.size w (w4.setCell ⟨g, 2, none⟩ (.string ⟨dn.toArray⟩)) := b4.setCell (p := ⟨g, 2, none⟩) (by show w.heap.size ≤ g; omega) _
  have X5 := Lib.hid x5
  have T5 := Lib.hid t5
  have B5 := Lib.hid b5
  clear x5 t5 b5 x4 t4 b4 m4
  go_upto_region 36 with fail
  clear q1 q2 r2 z2
  have x5 := X5.out
  have t5 := T5.out
  have b5 := B5.out
  clear X5 T5 B5
  generalize w4.setCell ⟨g, 2, none⟩ (.string ⟨dn.toArray⟩) = w5 at x5 t5 b5 ⊢
  refine wp_region_list ?_
  have hA1 : A.all (·.oneCell') = true := by rw [← HA.out]; simp [msgD, Value.oneCell']
  have hA2 : A.size = 28 := by rw [← HA.out]; rfl
  have HA1 := Lib.hid hA1
  have HA2 := Lib.hid hA2
  clear hA1 hA2
  refine wpList_loadRow rfl 32 (.tmp 4) rfl g 32 _ (0, 0) (by rfl) x5 _ Tryz.underlying32 rfl (by rw [HA2.out]; rfl) ?_
  refine wpList_plain rfl fun K hK => ?_
  go_simp
  refine hK _ _ ?_; clear hK K
  have b6 := below_row b5 (g := w.heap.size + 1) (by omega) A
  have t6 := setRow_heap w5 (w.heap.size + 1) _ A _ _ t5
  refine wpList_storeRow rfl 32 (.tmp 2) (.tmp 231) rfl (w.heap.size + 1) 32 _ A (by rfl) (by rfl) t5 (by rw [HA2.out]; rfl) (by rw [HA2.out]; rfl) HA1.out ?_
  generalize w5.setRow (w.heap.size + 1) A = w6 at b6 t6 ⊢
  clear b5 t5 x5
  go_simp
  go_wp2_with fail
  refine bodyPost_ret (v := .tuple #[.agg A, .bool true]) ?_ rfl ⟨rfl, b6⟩
  have hr := run_loadVar_row (P := Tryz.prog) w6 (w.heap.size + 1) 32 32 A (0, 0) _ t6 (show Tryz.prog.underlying 32 = _ from Tryz.underlying32) (by rfl) (by rw [HA2.out]; rfl)
  simp [results, Tryz.f57]
  show ((Sem.run Tryz.prog (loadVar 32 ⟨w.heap.size + 1, 0, none⟩) w6).andThen fun a w' => Result.ok (Value.tuple #[a, Value.bool true]) w') = _
  rw [hr]
  simp
end Go.Proofs.YtaojidcneocelaaGreatDoor
