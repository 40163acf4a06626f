/- bare at an extended result. (Written by genmsg.py.) -/
import Derived.Test.YtaojidcneocelaaGreatDoorMsG
namespace Go.Proofs.YtaojidcneocelaaGreatDoor
open Go.RowKit Go.Lib

set_option maxRecDepth 100000 in
set_option maxHeartbeats 4000000 in
theorem bare_extended (n code : Int) (matched text : List UInt8) (w : World) (h0 : 0 ≤ code) (h1 : code ≤ 2147483647) :
    Calls Tryz.prog 57 #[.agg (Mg.row { id := n, op := 24, code := code, matched := matched, text := text })] w fun e w' => e = .returned (.tuple #[.agg (Mg.row { id := n, op := 24, code := code, matched := matched, text := text }), .bool true]) ∧ Below w.heap.size w w' := by
  obtain ⟨A, hA⟩ : ∃ A, (Mg.row { id := n, op := 24, code := code, matched := matched, text := text }) = A := ⟨_, rfl⟩
  rw [hA]
  have HA := Lib.hid hA
  clear hA
  have b1 : Below w.heap.size w ((w.alloc (.cells A 32)).alloc (.cells #[.int .i64 0, .int .i64 0, .string ⟨#[]⟩, .int .i64 0, .bool false, .string ⟨#[]⟩, .int .i64 0, .int .i64 0, .int .i64 0, .int .i64 0, .bool false, .slice none 0 0, .slice none 0 0, .slice none 0 0, .slice none 0 0, .string ⟨#[]⟩, .string ⟨#[]⟩, .bool false, .bool false, .string ⟨#[]⟩, .string ⟨#[]⟩, .string ⟨#[]⟩, .bool false, .int .i64 0, .int .i64 0, .string ⟨#[]⟩, .string ⟨#[]⟩, .slice none 0 0] 32)) := ((Below.refl _ _).alloc (Nat.le_refl _) _).alloc (by simp) _
  have m1 : ((w.alloc (.cells A 32)).alloc (.cells #[.int .i64 0, .int .i64 0, .string ⟨#[]⟩, .int .i64 0, .bool false, .string ⟨#[]⟩, .int .i64 0, .int .i64 0, .int .i64 0, .int .i64 0, .bool false, .slice none 0 0, .slice none 0 0, .slice none 0 0, .slice none 0 0, .string ⟨#[]⟩, .string ⟨#[]⟩, .bool false, .bool false, .string ⟨#[]⟩, .string ⟨#[]⟩, .string ⟨#[]⟩, .bool false, .int .i64 0, .int .i64 0, .string ⟨#[]⟩, .string ⟨#[]⟩, .slice none 0 0] 32)).heap[w.heap.size]? = some (.cells A 32 (0, 0)) := (Lib.alloc_old _ _ _ (by simp)).trans (alloc_at _ _ _ rfl)
  have t1 : ((w.alloc (.cells A 32)).alloc (.cells #[.int .i64 0, .int .i64 0, .string ⟨#[]⟩, .int .i64 0, .bool false, .string ⟨#[]⟩, .int .i64 0, .int .i64 0, .int .i64 0, .int .i64 0, .bool false, .slice none 0 0, .slice none 0 0, .slice none 0 0, .slice none 0 0, .string ⟨#[]⟩, .string ⟨#[]⟩, .bool false, .bool false, .string ⟨#[]⟩, .string ⟨#[]⟩, .string ⟨#[]⟩, .bool false, .int .i64 0, .int .i64 0, .string ⟨#[]⟩, .string ⟨#[]⟩, .slice none 0 0] 32)).heap[w.heap.size + 1]? = some (.cells (Mg.row {}) 32 (0, 0)) := alloc_at _ _ _ (by simp)
  have hsz : ((w.alloc (.cells A 32)).alloc (.cells #[.int .i64 0, .int .i64 0, .string ⟨#[]⟩, .int .i64 0, .bool false, .string ⟨#[]⟩, .int .i64 0, .int .i64 0, .int .i64 0, .int .i64 0, .bool false, .slice none 0 0, .slice none 0 0, .slice none 0 0, .slice none 0 0, .string ⟨#[]⟩, .string ⟨#[]⟩, .bool false, .bool false, .string ⟨#[]⟩, .string ⟨#[]⟩, .string ⟨#[]⟩, .bool false, .int .i64 0, .int .i64 0, .string ⟨#[]⟩, .string ⟨#[]⟩, .slice none 0 0] 32)).heap.size = w.heap.size + 2 := by simp
  have HS := Lib.hid hsz
  clear hsz
  go_enter Tryz.func57, Tryz.ntmps57
  refine wp_seq ?_
  refine wp_region_list ?_
  refine wpList_plain rfl fun K hK => ?_
  go_simp
  refine hK _ _ ?_; clear hK K
  refine wpList_plain rfl fun K hK => ?_
  go_simp
  refine hK _ _ ?_; clear hK K
  generalize ((w.alloc (.cells A 32)).alloc (.cells #[.int .i64 0, .int .i64 0, .string ⟨#[]⟩, .int .i64 0, .bool false, .string ⟨#[]⟩, .int .i64 0, .int .i64 0, .int .i64 0, .int .i64 0, .bool false, .slice none 0 0, .slice none 0 0, .slice none 0 0, .slice none 0 0, .string ⟨#[]⟩, .string ⟨#[]⟩, .bool false, .bool false, .string ⟨#[]⟩, .string ⟨#[]⟩, .string ⟨#[]⟩, .bool false, .int .i64 0, .int .i64 0, .string ⟨#[]⟩, .string ⟨#[]⟩, .slice none 0 0] 32)) = w1 at b1 m1 t1 HS ⊢
  have q0 : w1.cell? ⟨w.heap.size, 0, none⟩ = some (.int .i64 n) := (Lib.cell_of_heap m1 0).trans (by rw [← HA.out]; rfl)
  have q1 : w1.cell? ⟨w.heap.size, 1, none⟩ = some (.int .i64 24) := (Lib.cell_of_heap m1 1).trans (by rw [← HA.out]; rfl)
  have q27 : w1.cell? ⟨w.heap.size, 27, none⟩ = some (.slice none 0 0) := (Lib.cell_of_heap m1 27).trans (by rw [← HA.out]; rfl)
  obtain ⟨X, hX⟩ : ∃ X, Mg.row { id := n, op := 24 } = X := ⟨_, rfl⟩
  have hX1 : (#[.int .i64 n, .int .i64 24, .string ⟨#[]⟩, .int .i64 0, .bool false, .string ⟨#[]⟩, .int .i64 0, .int .i64 0, .int .i64 0, .int .i64 0, .bool false, .slice none 0 0, .slice none 0 0, .slice none 0 0, .slice none 0 0, .string ⟨#[]⟩, .string ⟨#[]⟩, .bool false, .bool false, .string ⟨#[]⟩, .string ⟨#[]⟩, .string ⟨#[]⟩, .bool false, .int .i64 0, .int .i64 0, .string ⟨#[]⟩, .string ⟨#[]⟩, .slice none 0 0] : Array Value) = X := hX
  have hX2 : X.all (·.oneCell') = true := by rw [← hX]; simp [Mg.row, Value.oneCell']
  have hX3 : X.size = 28 := by rw [← hX]; rfl
  have HX := Lib.hid hX
  have HX1 := Lib.hid hX1
  have HX2 := Lib.hid hX2
  have HX3 := Lib.hid hX3
  clear hX hX1 hX2 hX3
  go_upto_region 1 with fail
  refine wp_region_list ?_
  refine wpList_plain rfl fun K hK => ?_
  go_simp
  refine hK _ _ ?_; clear hK K
  refine wpList_plain rfl fun K hK => ?_
  go_simp
  refine hK _ _ ?_; clear hK K
  refine wpList_plain rfl fun K hK => ?_
  go_simp
  refine hK _ _ ?_; clear hK K
  refine wpList_plain rfl fun K hK => ?_
  go_simp
  refine hK _ _ ?_; clear hK K
  refine wpList_plain rfl fun K hK => ?_
  go_simp
  refine hK _ _ ?_; clear hK K
  refine wpList_plain rfl fun K hK => ?_
  go_simp
  refine hK _ _ ?_; clear hK K
  refine wpList_plain rfl fun K hK => ?_
  go_simp
  rw [HX1.out]
  refine hK _ _ ?_; clear hK K
  clear q0 q27
  refine wpList_plain rfl fun K hK => ?_
  go_simp
  refine hK _ _ ?_; clear hK K
  have b2 := b1.trans ((Below.refl w1.heap.size w1).alloc (Nat.le_refl _) (.cells #[.int .i64 0, .int .i64 0, .string ⟨#[]⟩, .int .i64 0, .bool false, .string ⟨#[]⟩, .int .i64 0, .int .i64 0, .int .i64 0, .int .i64 0, .bool false, .slice none 0 0, .slice none 0 0, .slice none 0 0, .slice none 0 0, .string ⟨#[]⟩, .string ⟨#[]⟩, .bool false, .bool false, .string ⟨#[]⟩, .string ⟨#[]⟩, .string ⟨#[]⟩, .bool false, .int .i64 0, .int .i64 0, .string ⟨#[]⟩, .string ⟨#[]⟩, .slice none 0 0] 32) |>.mono b1.size)
  have m2 := (Lib.alloc_old w1 (.cells #[.int .i64 0, .int .i64 0, .string ⟨#[]⟩, .int .i64 0, .bool false, .string ⟨#[]⟩, .int .i64 0, .int .i64 0, .int .i64 0, .int .i64 0, .bool false, .slice none 0 0, .slice none 0 0, .slice none 0 0, .slice none 0 0, .string ⟨#[]⟩, .string ⟨#[]⟩, .bool false, .bool false, .string ⟨#[]⟩, .string ⟨#[]⟩, .string ⟨#[]⟩, .bool false, .int .i64 0, .int .i64 0, .string ⟨#[]⟩, .string ⟨#[]⟩, .slice none 0 0] 32) w.heap.size (Array.getElem?_eq_some_iff.1 m1).1).trans m1
  have t2 := (Lib.alloc_old w1 (.cells #[.int .i64 0, .int .i64 0, .string ⟨#[]⟩, .int .i64 0, .bool false, .string ⟨#[]⟩, .int .i64 0, .int .i64 0, .int .i64 0, .int .i64 0, .bool false, .slice none 0 0, .slice none 0 0, .slice none 0 0, .slice none 0 0, .string ⟨#[]⟩, .string ⟨#[]⟩, .bool false, .bool false, .string ⟨#[]⟩, .string ⟨#[]⟩, .string ⟨#[]⟩, .bool false, .int .i64 0, .int .i64 0, .string ⟨#[]⟩, .string ⟨#[]⟩, .slice none 0 0] 32) (w.heap.size + 1) (Array.getElem?_eq_some_iff.1 t1).1).trans t1
  have x2 : (w1.alloc (.cells #[.int .i64 0, .int .i64 0, .string ⟨#[]⟩, .int .i64 0, .bool false, .string ⟨#[]⟩, .int .i64 0, .int .i64 0, .int .i64 0, .int .i64 0, .bool false, .slice none 0 0, .slice none 0 0, .slice none 0 0, .slice none 0 0, .string ⟨#[]⟩, .string ⟨#[]⟩, .bool false, .bool false, .string ⟨#[]⟩, .string ⟨#[]⟩, .string ⟨#[]⟩, .bool false, .int .i64 0, .int .i64 0, .string ⟨#[]⟩, .string ⟨#[]⟩, .slice none 0 0] 32)).heap[w1.heap.size]? = some (.cells (Mg.row {}) 32 (0, 0)) := alloc_at _ _ _ rfl
  have hg : w.heap.size + 1 < w1.heap.size := (Array.getElem?_eq_some_iff.1 t1).1
  clear b1 m1 t1 q1
  generalize (w1.alloc (.cells #[.int .i64 0, .int .i64 0, .string ⟨#[]⟩, .int .i64 0, .bool false, .string ⟨#[]⟩, .int .i64 0, .int .i64 0, .int .i64 0, .int .i64 0, .bool false, .slice none 0 0, .slice none 0 0, .slice none 0 0, .slice none 0 0, .string ⟨#[]⟩, .string ⟨#[]⟩, .bool false, .bool false, .string ⟨#[]⟩, .string ⟨#[]⟩, .string ⟨#[]⟩, .bool false, .int .i64 0, .int .i64 0, .string ⟨#[]⟩, .string ⟨#[]⟩, .slice none 0 0] 32)) = w2 at b2 m2 t2 x2 ⊢
  generalize w1.heap.size = g at x2 hg ⊢
  refine wpList_storeRow rfl 32 (.tmp 4) (.tmp 12) rfl g 32 _ X (by rfl) (by rfl) x2 (by rw [HX3.out]; rfl) (by rw [HX3.out]; rfl) HX2.out ?_
  have b3 := below_row b2 (g := g) (by omega) X
  have m3 := (setRow_other w2 g w.heap.size X (by omega)).trans m2
  have t3 := (setRow_other w2 g (w.heap.size + 1) X (by omega)).trans t2
  have x3 := setRow_heap w2 g _ X _ _ x2
  clear b2 m2 t2 x2
  generalize w2.setRow g X = w3 at b3 m3 t3 x3 ⊢
  have q1 : w3.cell? ⟨w.heap.size, 1, none⟩ = some (.int .i64 24) := (Lib.cell_of_heap m3 1).trans (by rw [← HA.out]; rfl)
  go_simp
  go_upto_region 15 with fail
  have a3 : (w3.alloc (.cells #[.int .i64 8, .int .i64 4] 3)).heap[w3.heap.size]? = some (.cells #[.int .i64 8, .int .i64 4] 3 (0, 0)) := alloc_at _ _ _ rfl
  have kc := isOp_any 24 w3.heap.size [8, 4] (w3.alloc (.cells #[.int .i64 8, .int .i64 4] 3)) (by simp) (fun j hj => by
    have h2 : j < 2 := hj
    have hcases : j = 0 ∨ j = 1 := by omega
    rcases hcases with rfl | rfl
    · exact (Lib.cell_of_heap a3 0).trans rfl
    · exact (Lib.cell_of_heap a3 1).trans rfl)
  rw [show ([8, 4] : List Int).contains 24 = false from by decide] at kc
  have b4 := b3.trans ((Below.refl w3.heap.size w3).alloc (Nat.le_refl _) (.cells #[.int .i64 8, .int .i64 4] 3) |>.mono b3.size)
  have m4 := (Lib.alloc_old w3 (.cells #[.int .i64 8, .int .i64 4] 3) w.heap.size (Array.getElem?_eq_some_iff.1 m3).1).trans m3
  have t4 := (Lib.alloc_old w3 (.cells #[.int .i64 8, .int .i64 4] 3) (w.heap.size + 1) (Array.getElem?_eq_some_iff.1 t3).1).trans t3
  have x4 := (Lib.alloc_old w3 (.cells #[.int .i64 8, .int .i64 4] 3) g (Array.getElem?_eq_some_iff.1 x3).1).trans x3
  clear b3 m3 t3 x3 a3
  go_wp2_with fail
  clear q1
  generalize w3.alloc (.cells #[.int .i64 8, .int .i64 4] 3) = w4 at b4 m4 t4 x4 kc ⊢
  refine Calls.mono (show Calls _ _ _ _ _ from kc) ?_
  rintro e w' ⟨rfl, hw'⟩
  rw [hw']
  clear hw' kc
  have q1 : w4.cell? ⟨w.heap.size, 1, none⟩ = some (.int .i64 24) := (Lib.cell_of_heap m4 1).trans (by rw [← HA.out]; rfl)
  have kr := isRes_any 24 w4
  rw [show isResL.contains 24 = true from by decide] at kr
  go_wp2_with fail
  refine Calls.mono (show Calls _ _ _ _ _ from kr) ?_
  rintro e w5 ⟨rfl, hb5⟩
  have m5 := (hb5.block _ (Array.getElem?_eq_some_iff.1 m4).1).trans m4
  have t5 := (hb5.block _ (Array.getElem?_eq_some_iff.1 t4).1).trans t4
  have x5 := (hb5.block _ (Array.getElem?_eq_some_iff.1 x4).1).trans x4
  have b5 := b4.trans (hb5.mono b4.size)
  clear kr hb5 m4 t4 x4 b4 q1
  go_upto_region 31 with fail
  have q1 := m5
  have T : w5.drew.heap[w.heap.size]? = some (.cells A 32 (0, 0)) ∧ w5.drew.heap[w.heap.size + 1]? = some (.cells (Mg.row {}) 32 (0, 0)) := ⟨m5, t5⟩
  have D : Below w.heap.size w w5.drew := b5.drew
  have Y : w5.drew.heap[g]? = some (.cells X 32 (0, 0)) := x5
  refine wp_region_held (S := fun w' => w'.heap[w.heap.size]? = some (.cells A 32 (0, 0)) ∧ w'.heap[w.heap.size + 1]? = some (.cells (Mg.row {}) 32 (0, 0))) (by kernel_rfl) ?_
  change wpAnyH _ _ _ _ _ _ _ _ w5.drew
  clear m5 t5 b5 x5 q1
  generalize w5.drew = wr0 at T D Y ⊢
  refine anyH_take 0 (.pointer (some ⟨w.heap.size, 24, none⟩)) rfl (by kernel_rfl) (by kernel_rfl) (by kernel_rfl) (fun _ _ _ h => h) (by rfl) (fun w' hS => by go_simp) T (fun K hK => ?_); go_simp; refine hK _ _ ?_; clear hK K
  refine anyH_take 1 (.int .i64 code) rfl (by kernel_rfl) (by kernel_rfl) (by kernel_rfl) (fun _ _ _ h => h) (by rfl) (fun w' hS => by have q := (Lib.cell_of_heap hS.1 24).trans (show _ = some (.int .i64 code) from by rw [← HA.out]; rfl); go_simp) T (fun K hK => ?_); go_simp; refine hK _ _ ?_; clear hK K
  refine anyH_take 2 (.pointer (some ⟨w.heap.size, 25, none⟩)) rfl (by kernel_rfl) (by kernel_rfl) (by kernel_rfl) (fun _ _ _ h => h) (by rfl) (fun w' hS => by go_simp) T (fun K hK => ?_); go_simp; refine hK _ _ ?_; clear hK K
  refine anyH_take 3 (.string ⟨matched.toArray⟩) rfl (by kernel_rfl) (by kernel_rfl) (by kernel_rfl) (fun _ _ _ h => h) (by rfl) (fun w' hS => by have q := (Lib.cell_of_heap hS.1 25).trans (show _ = some (.string ⟨matched.toArray⟩) from by rw [← HA.out]; rfl); go_simp) T (fun K hK => ?_); go_simp; refine hK _ _ ?_; clear hK K
  refine anyH_take 4 (.pointer (some ⟨w.heap.size, 26, none⟩)) rfl (by kernel_rfl) (by kernel_rfl) (by kernel_rfl) (fun _ _ _ h => h) (by rfl) (fun w' hS => by go_simp) T (fun K hK => ?_); go_simp; refine hK _ _ ?_; clear hK K
  refine anyH_take 5 (.string ⟨text.toArray⟩) rfl (by kernel_rfl) (by kernel_rfl) (by kernel_rfl) (fun _ _ _ h => h) (by rfl) (fun w' hS => by have q := (Lib.cell_of_heap hS.1 26).trans (show _ = some (.string ⟨text.toArray⟩) from by rw [← HA.out]; rfl); go_simp) T (fun K hK => ?_); go_simp; refine hK _ _ ?_; clear hK K
  have HY := HX.out
  have Y0 : wr0.heap[g]? = some (.cells (Mg.row { id := n, op := 24 }) 32 (0, 0)) := by rw [HY]; exact Y
  clear HY Y
  refine anyH_take 6 (.pointer (some ⟨g, 24, none⟩)) rfl (by kernel_rfl) (by kernel_rfl) (by kernel_rfl) (fun _ _ _ h => h) (by rfl) (fun w' hS => by go_simp) T (fun K hK => ?_); go_simp; refine hK _ _ ?_; clear hK K
  have s : wr0.cell? ⟨g, 24, none⟩ = some (.int .i64 0) := (Lib.cell_of_heap Y0 24).trans rfl
  have z := Lib.frozen_of_heap Y0 24
  have Y1 : (wr0.setCell ⟨g, 24, none⟩ (.int .i64 code)).heap[g]? = some (.cells (Mg.row { id := n, op := 24, code := code }) 32 (0, 0)) := setCell_at (i := 24) (u := .int .i64 code) Y0
  have T0 : (wr0.setCell ⟨g, 24, none⟩ (.int .i64 code)).heap[w.heap.size]? = some (.cells A 32 (0, 0)) ∧ (wr0.setCell ⟨g, 24, none⟩ (.int .i64 code)).heap[w.heap.size + 1]? = some (.cells (Mg.row {}) 32 (0, 0)) := ⟨(Below.heap_setCell wr0 ⟨g, 24, none⟩ _ w.heap.size (by show w.heap.size ≠ g; omega)).trans T.1, (Below.heap_setCell wr0 ⟨g, 24, none⟩ _ (w.heap.size + 1) (by show w.heap.size + 1 ≠ g; omega)).trans T.2⟩
  have D0 := D.setCell (p := ⟨g, 24, none⟩) (by show w.heap.size ≤ g; omega) (.int .i64 code)
  refine anyH_one 7 (by kernel_rfl) rfl (by rfl) (fun K hK => ?_); go_simp; refine hK _ _ T0 ?_; clear hK K
  clear s z Y0 T D
  have T := T0
  have D := D0
  clear T0 D0
  generalize wr0.setCell ⟨g, 24, none⟩ (.int .i64 code) = wr1 at T D Y1 ⊢
  refine anyH_take 8 (.pointer (some ⟨g, 25, none⟩)) rfl (by kernel_rfl) (by kernel_rfl) (by kernel_rfl) (fun _ _ _ h => h) (by rfl) (fun w' hS => by go_simp) T (fun K hK => ?_); go_simp; refine hK _ _ ?_; clear hK K
  have s : wr1.cell? ⟨g, 25, none⟩ = some (.string ⟨#[]⟩) := (Lib.cell_of_heap Y1 25).trans rfl
  have z := Lib.frozen_of_heap Y1 25
  have Y2 : (wr1.setCell ⟨g, 25, none⟩ (.string ⟨matched.toArray⟩)).heap[g]? = some (.cells (Mg.row { id := n, op := 24, code := code, matched := matched }) 32 (0, 0)) := setCell_at (i := 25) (u := .string ⟨matched.toArray⟩) Y1
  have T1 : (wr1.setCell ⟨g, 25, none⟩ (.string ⟨matched.toArray⟩)).heap[w.heap.size]? = some (.cells A 32 (0, 0)) ∧ (wr1.setCell ⟨g, 25, none⟩ (.string ⟨matched.toArray⟩)).heap[w.heap.size + 1]? = some (.cells (Mg.row {}) 32 (0, 0)) := ⟨(Below.heap_setCell wr1 ⟨g, 25, none⟩ _ w.heap.size (by show w.heap.size ≠ g; omega)).trans T.1, (Below.heap_setCell wr1 ⟨g, 25, none⟩ _ (w.heap.size + 1) (by show w.heap.size + 1 ≠ g; omega)).trans T.2⟩
  have D1 := D.setCell (p := ⟨g, 25, none⟩) (by show w.heap.size ≤ g; omega) (.string ⟨matched.toArray⟩)
  refine anyH_one 9 (by kernel_rfl) rfl (by rfl) (fun K hK => ?_); go_simp; refine hK _ _ T1 ?_; clear hK K
  clear s z Y1 T D
  have T := T1
  have D := D1
  clear T1 D1
  generalize wr1.setCell ⟨g, 25, none⟩ (.string ⟨matched.toArray⟩) = wr2 at T D Y2 ⊢
  refine anyH_take 10 (.pointer (some ⟨g, 26, none⟩)) rfl (by kernel_rfl) (by kernel_rfl) (by kernel_rfl) (fun _ _ _ h => h) (by rfl) (fun w' hS => by go_simp) T (fun K hK => ?_); go_simp; refine hK _ _ ?_; clear hK K
  have s : wr2.cell? ⟨g, 26, none⟩ = some (.string ⟨#[]⟩) := (Lib.cell_of_heap Y2 26).trans rfl
  have z := Lib.frozen_of_heap Y2 26
  have Y3 : (wr2.setCell ⟨g, 26, none⟩ (.string ⟨text.toArray⟩)).heap[g]? = some (.cells (Mg.row { id := n, op := 24, code := code, matched := matched, text := text }) 32 (0, 0)) := setCell_at (i := 26) (u := .string ⟨text.toArray⟩) Y2
  have T2 : (wr2.setCell ⟨g, 26, none⟩ (.string ⟨text.toArray⟩)).heap[w.heap.size]? = some (.cells A 32 (0, 0)) ∧ (wr2.setCell ⟨g, 26, none⟩ (.string ⟨text.toArray⟩)).heap[w.heap.size + 1]? = some (.cells (Mg.row {}) 32 (0, 0)) := ⟨(Below.heap_setCell wr2 ⟨g, 26, none⟩ _ w.heap.size (by show w.heap.size ≠ g; omega)).trans T.1, (Below.heap_setCell wr2 ⟨g, 26, none⟩ _ (w.heap.size + 1) (by show w.heap.size + 1 ≠ g; omega)).trans T.2⟩
  have D2 := D.setCell (p := ⟨g, 26, none⟩) (by show w.heap.size ≤ g; omega) (.string ⟨text.toArray⟩)
  refine anyH_one 11 (by kernel_rfl) rfl (by rfl) (fun K hK => ?_); go_simp; refine hK _ _ T2 ?_; clear hK K
  clear s z Y2 T D
  have T := T2
  have D := D2
  clear T2 D2
  generalize wr2.setCell ⟨g, 26, none⟩ (.string ⟨text.toArray⟩) = wr3 at T D Y3 ⊢
  refine wpAnyH_done (by kernel_rfl) ?_ _
  simp only [Exit.then]
  refine ‹∀ (a : Act) (w : World), Code.wp _ _ _ a w → _› _ _ ?_
  have q1 := (Lib.cell_of_heap T.1 1).trans (show _ = some (Value.int .i64 24) from by rw [← HA.out]; rfl)
  have Y : wr3.heap[g]? = some (.cells A 32 (0, 0)) := by rw [← HA.out]; exact Y3
  clear Y3
  have q24 : wr3.cell? ⟨w.heap.size, 24, none⟩ = some (.int .i64 code) := (Lib.cell_of_heap T.1 24).trans (by rw [← HA.out]; rfl)
  go_wp2_with fail
  refine Calls.mono (show Calls _ _ _ _ _ from inRange_ok code 2147483647 h0 h1 wr3) ?_
  rintro e w' ⟨rfl, hw'⟩
  rw [hw']
  clear hw' q24
  go_upto_region 34 with fail
  clear q1
  obtain ⟨w8, hw8⟩ : ∃ w8, wr3 = w8 := ⟨_, rfl⟩
  rw [hw8] at T D Y ⊢
  clear hw8
  have m8 := T.1
  have t8 := T.2
  have b8 := D
  obtain ⟨X', hX'⟩ : ∃ X', Mg.row { id := n, op := 24, code := code, matched := matched, text := text } = X' := ⟨_, rfl⟩
  have x8 : w8.heap[g]? = some (.cells X' 32 (0, 0)) := by rw [← hX', HA.out]; exact Y
  have HX' := Lib.hid hX'
  clear T D Y hX'
  have q1 := m8
  have T : w8.drew.heap[w.heap.size]? = some (.cells A 32 (0, 0)) ∧ w8.drew.heap[w.heap.size + 1]? = some (.cells (Mg.row {}) 32 (0, 0)) := ⟨m8, t8⟩
  have D : Below w.heap.size w w8.drew := b8.drew
  have Y : w8.drew.heap[g]? = some (.cells X' 32 (0, 0)) := x8
  refine wp_region_held (S := fun w' => w'.heap[w.heap.size]? = some (.cells A 32 (0, 0)) ∧ w'.heap[w.heap.size + 1]? = some (.cells (Mg.row {}) 32 (0, 0))) (by kernel_rfl) ?_
  change wpAnyH _ _ _ _ _ _ _ _ w8.drew
  clear m8 t8 b8 x8 q1
  generalize w8.drew = ws0 at T D Y ⊢
  refine anyH_take 0 (.pointer (some ⟨w.heap.size, 21, none⟩)) rfl (by kernel_rfl) (by kernel_rfl) (by kernel_rfl) (fun _ _ _ h => h) (by rfl) (fun w' hS => by go_simp) T (fun K hK => ?_); go_simp; refine hK _ _ ?_; clear hK K
  refine anyH_take 1 (.string ⟨#[]⟩) rfl (by kernel_rfl) (by kernel_rfl) (by kernel_rfl) (fun _ _ _ h => h) (by rfl) (fun w' hS => by have q := (Lib.cell_of_heap hS.1 21).trans (show _ = some (.string ⟨#[]⟩) from by rw [← HA.out]; rfl); go_simp) T (fun K hK => ?_); go_simp; refine hK _ _ ?_; clear hK K
  refine anyH_take 2 (.pointer (some ⟨w.heap.size, 22, none⟩)) rfl (by kernel_rfl) (by kernel_rfl) (by kernel_rfl) (fun _ _ _ h => h) (by rfl) (fun w' hS => by go_simp) T (fun K hK => ?_); go_simp; refine hK _ _ ?_; clear hK K
  refine anyH_take 3 (.bool false) rfl (by kernel_rfl) (by kernel_rfl) (by kernel_rfl) (fun _ _ _ h => h) (by rfl) (fun w' hS => by have q := (Lib.cell_of_heap hS.1 22).trans (show _ = some (.bool false) from by rw [← HA.out]; rfl); go_simp) T (fun K hK => ?_); go_simp; refine hK _ _ ?_; clear hK K
  refine anyH_take 4 (.pointer (some ⟨w.heap.size, 20, none⟩)) rfl (by kernel_rfl) (by kernel_rfl) (by kernel_rfl) (fun _ _ _ h => h) (by rfl) (fun w' hS => by go_simp) T (fun K hK => ?_); go_simp; refine hK _ _ ?_; clear hK K
  refine anyH_take 5 (.string ⟨#[]⟩) rfl (by kernel_rfl) (by kernel_rfl) (by kernel_rfl) (fun _ _ _ h => h) (by rfl) (fun w' hS => by have q := (Lib.cell_of_heap hS.1 20).trans (show _ = some (.string ⟨#[]⟩) from by rw [← HA.out]; rfl); go_simp) T (fun K hK => ?_); go_simp; refine hK _ _ ?_; clear hK K
  have HY := HX'.out
  have Y0 : ws0.heap[g]? = some (.cells (Mg.row { id := n, op := 24, code := code, matched := matched, text := text }) 32 (0, 0)) := by rw [HY]; exact Y
  clear HY Y
  refine anyH_take 6 (.pointer (some ⟨g, 21, none⟩)) rfl (by kernel_rfl) (by kernel_rfl) (by kernel_rfl) (fun _ _ _ h => h) (by rfl) (fun w' hS => by go_simp) T (fun K hK => ?_); go_simp; refine hK _ _ ?_; clear hK K
  have s : ws0.cell? ⟨g, 21, none⟩ = some (.string ⟨#[]⟩) := (Lib.cell_of_heap Y0 21).trans rfl
  have z := Lib.frozen_of_heap Y0 21
  have Y1 : (ws0.setCell ⟨g, 21, none⟩ (.string ⟨#[]⟩)).heap[g]? = some (.cells (Mg.row { id := n, op := 24, code := code, matched := matched, text := text, oid := [] }) 32 (0, 0)) := setCell_at (i := 21) (u := .string ⟨#[]⟩) Y0
  have T0 : (ws0.setCell ⟨g, 21, none⟩ (.string ⟨#[]⟩)).heap[w.heap.size]? = some (.cells A 32 (0, 0)) ∧ (ws0.setCell ⟨g, 21, none⟩ (.string ⟨#[]⟩)).heap[w.heap.size + 1]? = some (.cells (Mg.row {}) 32 (0, 0)) := ⟨(Below.heap_setCell ws0 ⟨g, 21, none⟩ _ w.heap.size (by show w.heap.size ≠ g; omega)).trans T.1, (Below.heap_setCell ws0 ⟨g, 21, none⟩ _ (w.heap.size + 1) (by show w.heap.size + 1 ≠ g; omega)).trans T.2⟩
  have D0 := D.setCell (p := ⟨g, 21, none⟩) (by show w.heap.size ≤ g; omega) (.string ⟨#[]⟩)
  refine anyH_one 7 (by kernel_rfl) rfl (by rfl) (fun K hK => ?_); go_simp; refine hK _ _ T0 ?_; clear hK K
  clear s z Y0 T D
  have T := T0
  have D := D0
  clear T0 D0
  generalize ws0.setCell ⟨g, 21, none⟩ (.string ⟨#[]⟩) = ws1 at T D Y1 ⊢
  refine anyH_take 8 (.pointer (some ⟨g, 22, none⟩)) rfl (by kernel_rfl) (by kernel_rfl) (by kernel_rfl) (fun _ _ _ h => h) (by rfl) (fun w' hS => by go_simp) T (fun K hK => ?_); go_simp; refine hK _ _ ?_; clear hK K
  have s : ws1.cell? ⟨g, 22, none⟩ = some (.bool false) := (Lib.cell_of_heap Y1 22).trans rfl
  have z := Lib.frozen_of_heap Y1 22
  have Y2 : (ws1.setCell ⟨g, 22, none⟩ (.bool false)).heap[g]? = some (.cells (Mg.row { id := n, op := 24, code := code, matched := matched, text := text, oid := [], has := false }) 32 (0, 0)) := setCell_at (i := 22) (u := .bool false) Y1
  have T1 : (ws1.setCell ⟨g, 22, none⟩ (.bool false)).heap[w.heap.size]? = some (.cells A 32 (0, 0)) ∧ (ws1.setCell ⟨g, 22, none⟩ (.bool false)).heap[w.heap.size + 1]? = some (.cells (Mg.row {}) 32 (0, 0)) := ⟨(Below.heap_setCell ws1 ⟨g, 22, none⟩ _ w.heap.size (by show w.heap.size ≠ g; omega)).trans T.1, (Below.heap_setCell ws1 ⟨g, 22, none⟩ _ (w.heap.size + 1) (by show w.heap.size + 1 ≠ g; omega)).trans T.2⟩
  have D1 := D.setCell (p := ⟨g, 22, none⟩) (by show w.heap.size ≤ g; omega) (.bool false)
  refine anyH_one 9 (by kernel_rfl) rfl (by rfl) (fun K hK => ?_); go_simp; refine hK _ _ T1 ?_; clear hK K
  clear s z Y1 T D
  have T := T1
  have D := D1
  clear T1 D1
  generalize ws1.setCell ⟨g, 22, none⟩ (.bool false) = ws2 at T D Y2 ⊢
  refine anyH_take 10 (.pointer (some ⟨g, 20, none⟩)) rfl (by kernel_rfl) (by kernel_rfl) (by kernel_rfl) (fun _ _ _ h => h) (by rfl) (fun w' hS => by go_simp) T (fun K hK => ?_); go_simp; refine hK _ _ ?_; clear hK K
  have s : ws2.cell? ⟨g, 20, none⟩ = some (.string ⟨#[]⟩) := (Lib.cell_of_heap Y2 20).trans rfl
  have z := Lib.frozen_of_heap Y2 20
  have Y3 : (ws2.setCell ⟨g, 20, none⟩ (.string ⟨#[]⟩)).heap[g]? = some (.cells (Mg.row { id := n, op := 24, code := code, matched := matched, text := text, oid := [], has := false, value := [] }) 32 (0, 0)) := setCell_at (i := 20) (u := .string ⟨#[]⟩) Y2
  have T2 : (ws2.setCell ⟨g, 20, none⟩ (.string ⟨#[]⟩)).heap[w.heap.size]? = some (.cells A 32 (0, 0)) ∧ (ws2.setCell ⟨g, 20, none⟩ (.string ⟨#[]⟩)).heap[w.heap.size + 1]? = some (.cells (Mg.row {}) 32 (0, 0)) := ⟨(Below.heap_setCell ws2 ⟨g, 20, none⟩ _ w.heap.size (by show w.heap.size ≠ g; omega)).trans T.1, (Below.heap_setCell ws2 ⟨g, 20, none⟩ _ (w.heap.size + 1) (by show w.heap.size + 1 ≠ g; omega)).trans T.2⟩
  have D2 := D.setCell (p := ⟨g, 20, none⟩) (by show w.heap.size ≤ g; omega) (.string ⟨#[]⟩)
  refine anyH_one 11 (by kernel_rfl) rfl (by rfl) (fun K hK => ?_); go_simp; refine hK _ _ T2 ?_; clear hK K
  clear s z Y2 T D
  have T := T2
  have D := D2
  clear T2 D2
  generalize ws2.setCell ⟨g, 20, none⟩ (.string ⟨#[]⟩) = ws3 at T D Y3 ⊢
  refine wpAnyH_done (by kernel_rfl) ?_ _
  simp only [Exit.then]
  refine ‹∀ (a : Act) (w : World), Code.wp _ _ _ a w → _› _ _ ?_
  have q1 := (Lib.cell_of_heap T.1 1).trans (show _ = some (Value.int .i64 24) from by rw [← HA.out]; rfl)
  have Y : ws3.heap[g]? = some (.cells A 32 (0, 0)) := by rw [← HA.out]; exact Y3
  clear Y3
  have q20 : ws3.cell? ⟨w.heap.size, 20, none⟩ = some (.string ⟨#[]⟩) := (Lib.cell_of_heap T.1 20).trans (by rw [← HA.out]; rfl)
  have q22 : ws3.cell? ⟨w.heap.size, 22, none⟩ = some (.bool false) := (Lib.cell_of_heap T.1 22).trans (by rw [← HA.out]; rfl)
  go_upto_region 36 with fail
  clear q1 q20 q22
  refine wp_region_list ?_
  have hA1 : A.all (·.oneCell') = true := by rw [← HA.out]; simp [Mg.row, Value.oneCell']
  have hA2 : A.size = 28 := by rw [← HA.out]; rfl
  have HA1 := Lib.hid hA1
  have HA2 := Lib.hid hA2
  clear hA1 hA2
  have t5 := T.2
  refine wpList_loadRow rfl 32 (.tmp 4) rfl g 32 _ (0, 0) (by rfl) Y _ Tryz.underlying32 rfl (by rw [HA2.out]; rfl) ?_
  refine wpList_plain rfl fun K hK => ?_
  go_simp
  refine hK _ _ ?_; clear hK K
  have b6 := below_row D (g := w.heap.size + 1) (by omega) A
  have t6 := setRow_heap ws3 (w.heap.size + 1) _ A _ _ t5
  refine wpList_storeRow rfl 32 (.tmp 2) (.tmp 231) rfl (w.heap.size + 1) 32 _ A (by rfl) (by rfl) t5 (by rw [HA2.out]; rfl) (by rw [HA2.out]; rfl) HA1.out ?_
  generalize ws3.setRow (w.heap.size + 1) A = w6 at b6 t6 ⊢
  clear T D Y t5
  go_simp
  go_wp2_with fail
  refine bodyPost_ret (v := .tuple #[.agg A, .bool true]) ?_ rfl ⟨rfl, b6⟩
  have hr := run_loadVar_row (P := Tryz.prog) w6 (w.heap.size + 1) 32 32 A (0, 0) _ t6 (show Tryz.prog.underlying 32 = _ from Tryz.underlying32) (by rfl) (by rw [HA2.out]; rfl)
  simp [results, Tryz.f57]
  show ((Sem.run Tryz.prog (loadVar 32 ⟨w.heap.size + 1, 0, none⟩) w6).andThen fun a w' => Result.ok (Value.tuple #[a, Value.bool true]) w') = _
  rw [hr]
  simp
end Go.Proofs.YtaojidcneocelaaGreatDoor
