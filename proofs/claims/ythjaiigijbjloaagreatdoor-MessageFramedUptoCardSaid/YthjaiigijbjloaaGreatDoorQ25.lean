/- FsC. -/
import Derived.Test.YthjaiigijbjloaaGreatDoorQ24
namespace Go.Proofs.YthjaiigijbjloaaGreatDoor
open Go.RowKit Go.Lib
set_option maxRecDepth 100000 in
set_option maxHeartbeats 4000000 in
theorem shape_0 (p : Fl) (u : Value) (w : World) (hu : StrsM w u p.any) (hok : p.ok) (hE : Env w) (hop : p.op = 0) :
  Calls Tryz.prog 164 #[.agg (p.row u)] w fun e w' => e = .returned (.bool (shapeB p)) ∧ Below w.heap.size w w' := by
 obtain ⟨OK, hOK⟩ : ∃ b, shapeB p = b := ⟨_, rfl⟩
 rw [hOK]
 have HOK := hid hOK
 clear hOK
 obtain ⟨P, hP⟩ : ∃ P, p.row u = P := ⟨_, rfl⟩
 rw [hP]
 have hP2 : P.size = 7 := by rw [← hP]; rfl
 have HP := hid hP
 have HP2 := hid hP2
 clear hP hP2
 obtain ⟨k1, k2, k3, k4, k5, k6⟩ := hok
 have HK6 := hid k6
 have HE := hid hE
 have HU := hid hu
 clear hu hE k6
 obtain ⟨X0, hX0⟩ : ∃ X, Fl.row ⟨0, 0, p.typ, [], [], [], []⟩ (.slice none 0 0) = X := ⟨_, rfl⟩
 have hX1 : (#[.int .i64 0, .int .i64 0, .string ⟨p.typ.toArray⟩, .string ⟨#[]⟩, .string ⟨#[]⟩, .string ⟨#[]⟩, .slice none 0 0] : Array Value) = X0 := hX0
 have hX2 : X0.size = 7 := by rw [← hX0]; rfl
 have hX3 : X0.all (·.oneCell') = true := by rw [← hX0]; simp [Fl.row, Value.oneCell']
 have HX0 := hid hX0
 have HX1 := hid hX1
 have HX2 := hid hX2
 have HX3 := hid hX3
 clear hX0 hX1 hX2 hX3
 have b1 : Below w.heap.size w (w.alloc (.cells P 60)) := (Below.refl _ _).alloc (Nat.le_refl _) _
 have m1 : (w.alloc (.cells P 60)).heap[w.heap.size]? = some (.cells P 60 (0, 0)) := alloc_at _ _ _ rfl
 have hs1 : (w.alloc (.cells P 60)).heap.size = w.heap.size + 1 := by simp
 have HS1 := hid hs1
 clear hs1
 go_enter Tryz.func164, Tryz.ntmps164
 go_upto_region 1 with fail
 generalize w.alloc (.cells P 60) = w1 at b1 m1 HS1 ⊢
 have q0 : w1.cell? ⟨w.heap.size, 0, none⟩ = some (.int .i64 0) := (cell_of_heap m1 0).trans (by rw [← HP.out]; simp [Fl.row, hop])
 have q2 : w1.cell? ⟨w.heap.size, 2, none⟩ = some (.string ⟨p.typ.toArray⟩) := (cell_of_heap m1 2).trans (by rw [← HP.out]; rfl)
 refine wp_region_list ?_
 iterate 4 (refine wpList_plain rfl fun K hK => ?_; go_simp; refine hK _ _ ?_; clear hK K)
 refine wpList_plain rfl fun K hK => ?_
 go_simp
 rw [HX1.out]
 refine hK _ _ ?_; clear hK K
 refine wpList_plain rfl fun K hK => ?_; go_simp; refine hK _ _ ?_; clear hK K
 clear q0 q2
 have b2 := b1.trans ((Below.refl w1.heap.size w1).alloc (Nat.le_refl _) (.cells Zf 60) |>.mono b1.size)
 have m2 := (alloc_old w1 (.cells Zf 60) w.heap.size (gl m1)).trans m1
 have x2 : (w1.alloc (.cells Zf 60)).heap[w.heap.size + 1]? = some (.cells Zf 60 (0, 0)) := alloc_at _ _ _ (by rw [HS1.out])
 rw [HS1.out]
 clear b1 m1
 generalize w1.alloc (.cells Zf 60) = w2 at b2 m2 x2 ⊢
 refine wpList_storeRow rfl 60 (.tmp 3) (.tmp 8) rfl (w.heap.size + 1) 60 _ X0 (by rfl) (by rfl) x2 (by rw [HX2.out]; rfl) (by rw [HX2.out]; rfl) HX3.out ?_
 have b3 := below_row b2 (g := w.heap.size + 1) (by omega) X0
 have m3 := (setRow_other w2 (w.heap.size + 1) w.heap.size X0 (by omega)).trans m2
 have x3 := setRow_heap w2 (w.heap.size + 1) _ X0 _ _ x2
 clear b2 m2 x2 HX1 HX3 HS1
 generalize w2.setRow (w.heap.size + 1) X0 = w3 at b3 m3 x3 ⊢
 have q0 : w3.cell? ⟨w.heap.size, 0, none⟩ = some (.int .i64 0) := (cell_of_heap m3 0).trans (by rw [← HP.out]; simp [Fl.row, hop])
 go_simp
 go_upto_region 7 with fail
 clear q0
 have T : w3.drew.heap[w.heap.size]? = some (.cells P 60 (0, 0)) := m3
 have D : Below w.heap.size w w3.drew := b3.drew
 have Y : w3.drew.heap[w.heap.size + 1]? = some (.cells (Fl.row ⟨0, 0, p.typ, [], [], [], []⟩ (.slice none 0 0)) 60 (0, 0)) := by rw [HX0.out]; exact x3
 refine wp_region_held (S := fun w' => w'.heap[w.heap.size]? = some (.cells P 60 (0, 0))) (by kernel_rfl) ?_
 change wpAnyH _ _ _ _ _ _ _ _ w3.drew
 clear m3 b3 x3 HX0 HX2
 generalize w3.drew = w4 at T D Y ⊢
 refine tk 0 (.pointer (some ⟨w.heap.size, 1, none⟩)) rfl (fun w' hS => by go_simp) T (fun K hK => ?_); go_simp; refine hK _ _ ?_; clear hK K
 refine tk 1 (.int .i64 p.n) rfl (fun w' hS => by have q := (cell_of_heap hS 1).trans (show _ = some (Value.int .i64 p.n) from by rw [← HP.out]; rfl); go_simp) T (fun K hK => ?_); go_simp; refine hK _ _ ?_; clear hK K
 refine tk 2 (.pointer (some ⟨w.heap.size + 1, 2, none⟩)) rfl (fun w' hS => by go_simp) T (fun K hK => ?_); go_simp; refine hK _ _ ?_; clear hK K
 have s : w4.cell? ⟨w.heap.size + 1, 2, none⟩ = some (.string ⟨p.typ.toArray⟩) := (cell_of_heap Y 2).trans rfl
 have z := Lib.frozen_of_heap Y 2
 have Y1 : (w4.setCell ⟨w.heap.size + 1, 2, none⟩ (.string ⟨#[]⟩)).heap[w.heap.size + 1]? = some (.cells (Fl.row ⟨0, 0, [], [], [], [], []⟩ (.slice none 0 0)) 60 (0, 0)) := setCell_at (i := 2) (u := .string ⟨#[]⟩) Y
 have T1 : (w4.setCell ⟨w.heap.size + 1, 2, none⟩ (.string ⟨#[]⟩)).heap[w.heap.size]? = some (.cells P 60 (0, 0)) := (Below.heap_setCell w4 ⟨w.heap.size + 1, 2, none⟩ _ w.heap.size (by show w.heap.size ≠ w.heap.size + 1; omega)).trans T
 have D1 := D.setCell (p := ⟨w.heap.size + 1, 2, none⟩) (by show w.heap.size ≤ w.heap.size + 1; omega) (.string ⟨#[]⟩)
 refine anyH_one 3 (by kernel_rfl) rfl (by rfl) (fun K hK => ?_); go_simp; refine hK _ _ T1 ?_; clear hK K
 clear s z Y T D
 generalize w4.setCell ⟨w.heap.size + 1, 2, none⟩ (.string ⟨#[]⟩) = w5 at T1 D1 Y1 ⊢
 refine tk 4 (.pointer (some ⟨w.heap.size + 1, 1, none⟩)) rfl (fun w' hS => by go_simp) T1 (fun K hK => ?_); go_simp; refine hK _ _ ?_; clear hK K
 have s : w5.cell? ⟨w.heap.size + 1, 1, none⟩ = some (.int .i64 0) := (cell_of_heap Y1 1).trans rfl
 have z := Lib.frozen_of_heap Y1 1
 have x6s : (w5.setCell ⟨w.heap.size + 1, 1, none⟩ (.int .i64 p.n)).heap[w.heap.size + 1]? = some (.cells (Fl.row ⟨0, p.n, [], [], [], [], []⟩ (.slice none 0 0)) 60 (0, 0)) := setCell_at (i := 1) (u := .int .i64 p.n) Y1
 have m6 : (w5.setCell ⟨w.heap.size + 1, 1, none⟩ (.int .i64 p.n)).heap[w.heap.size]? = some (.cells P 60 (0, 0)) := (Below.heap_setCell w5 ⟨w.heap.size + 1, 1, none⟩ _ w.heap.size (by show w.heap.size ≠ w.heap.size + 1; omega)).trans T1
 have b6 := D1.setCell (p := ⟨w.heap.size + 1, 1, none⟩) (by show w.heap.size ≤ w.heap.size + 1; omega) (.int .i64 p.n)
 refine anyH_one 5 (by kernel_rfl) rfl (by rfl) (fun K hK => ?_); go_simp; refine hK _ _ m6 ?_; clear hK K
 clear s z Y1 T1 D1
 refine wpAnyH_done (by kernel_rfl) ?_ _
 try simp only [Exit.then]
 refine ‹∀ (a : Act) (w : World), Code.wp _ _ _ a w → _› _ _ ?_
 obtain ⟨X6, hX6⟩ : ∃ X, Fl.row ⟨0, p.n, [], [], [], [], []⟩ (.slice none 0 0) = X := ⟨_, rfl⟩
 have x6 : (w5.setCell ⟨w.heap.size + 1, 1, none⟩ (.int .i64 p.n)).heap[w.heap.size + 1]? = some (.cells X6 60 (0, 0)) := by rw [← hX6]; exact x6s
 have hX7 : X6.size = 7 := by rw [← hX6]; rfl
 have HX6 := hid hX6
 have HX7 := hid hX7
 clear hX6 hX7 x6s
 generalize w5.setCell ⟨w.heap.size + 1, 1, none⟩ (.int .i64 p.n) = w6 at x6 m6 b6 ⊢
 have ks := same_any p ⟨0, p.n, [], [], [], [], []⟩ u (.slice none 0 0) w6 (HU.out.below b6) (⟨none, 0, rfl, Nat.le_refl _, fun h => absurd rfl h⟩) (by omega) (by simp)
 rw [HP.out, HX6.out] at ks
 have hAll : OK = (sameB p ⟨0, p.n, [], [], [], [], []⟩ && decide (0 ≤ p.n) && (decide ((0 : Int) ≠ 2) || decide (p.n = 1))) := by rw [← HOK.out]; simp [shapeB, sameB, hop, Bool.and_assoc]
 obtain ⟨B, hB⟩ : ∃ B, sameB p ⟨0, p.n, [], [], [], [], []⟩ = B := ⟨_, rfl⟩
 rw [hB] at ks hAll
 have HALL := hid hAll
 clear hAll hB
 go_wp2_with (first | (refine wpList_loadRow rfl 60 (.tmp 1) rfl w.heap.size 60 _ (0, 0) (by rfl) m6 _ Tryz.underlying60 rfl (by rw [HP2.out]; rfl) ?_) | (refine wpList_loadRow rfl 60 (.tmp 3) rfl (w.heap.size + 1) 60 _ (0, 0) (by rfl) x6 _ Tryz.underlying60 rfl (by rw [HX7.out]; rfl) ?_))
 refine Calls.mono ks ?_
 rintro e w20 ⟨rfl, hb⟩
 have m20 := (hb.block _ (gl m6)).trans m6
 have b20 := b6.trans (hb.mono b6.size)
 clear ks hb m6 x6 b6
 have q0 : w20.cell? ⟨w.heap.size, 0, none⟩ = some (.int .i64 0) := (cell_of_heap m20 0).trans (by rw [← HP.out]; simp [Fl.row, hop])
 have q1 : w20.cell? ⟨w.heap.size, 1, none⟩ = some (.int .i64 p.n) := (cell_of_heap m20 1).trans (by rw [← HP.out]; rfl)
 cases B
 ·go_wp2_with fail
  go_ret
  exact ⟨by rw [HALL.out]; rfl, b20⟩
 ·by_cases hn : 0 ≤ p.n
  ·have f0 : decide (p.n ≥ 0) = true := decide_eq_true hn
   have f1 : decide (0 ≤ p.n) = true := decide_eq_true hn
   have hO : OK = true := by rw [HALL.out, f1]; rfl
   have HO := hid hO
   clear hO HALL
   go_wp2_with fail
   go_ret
   exact ⟨by rw [HO.out]; rfl, b20⟩
  ·have f0 : decide (p.n ≥ 0) = false := decide_eq_false hn
   have f1 : decide (0 ≤ p.n) = false := decide_eq_false hn
   have hO : OK = false := by rw [HALL.out, f1]; rfl
   have HO := hid hO
   clear hO HALL
   go_wp2_with fail
   go_ret
   exact ⟨by rw [HO.out]; rfl, b20⟩
set_option maxRecDepth 100000 in
set_option maxHeartbeats 4000000 in
theorem shape_1 (p : Fl) (u : Value) (w : World) (hu : StrsM w u p.any) (hok : p.ok) (hE : Env w) (hop : p.op = 1) :
  Calls Tryz.prog 164 #[.agg (p.row u)] w fun e w' => e = .returned (.bool (shapeB p)) ∧ Below w.heap.size w w' := by
 obtain ⟨OK, hOK⟩ : ∃ b, shapeB p = b := ⟨_, rfl⟩
 rw [hOK]
 have HOK := hid hOK
 clear hOK
 obtain ⟨P, hP⟩ : ∃ P, p.row u = P := ⟨_, rfl⟩
 rw [hP]
 have hP2 : P.size = 7 := by rw [← hP]; rfl
 have HP := hid hP
 have HP2 := hid hP2
 clear hP hP2
 obtain ⟨k1, k2, k3, k4, k5, k6⟩ := hok
 have HK6 := hid k6
 have HE := hid hE
 have HU := hid hu
 clear hu hE k6
 obtain ⟨X0, hX0⟩ : ∃ X, Fl.row ⟨1, 0, p.typ, [], [], [], []⟩ (.slice none 0 0) = X := ⟨_, rfl⟩
 have hX1 : (#[.int .i64 1, .int .i64 0, .string ⟨p.typ.toArray⟩, .string ⟨#[]⟩, .string ⟨#[]⟩, .string ⟨#[]⟩, .slice none 0 0] : Array Value) = X0 := hX0
 have hX2 : X0.size = 7 := by rw [← hX0]; rfl
 have hX3 : X0.all (·.oneCell') = true := by rw [← hX0]; simp [Fl.row, Value.oneCell']
 have HX0 := hid hX0
 have HX1 := hid hX1
 have HX2 := hid hX2
 have HX3 := hid hX3
 clear hX0 hX1 hX2 hX3
 have b1 : Below w.heap.size w (w.alloc (.cells P 60)) := (Below.refl _ _).alloc (Nat.le_refl _) _
 have m1 : (w.alloc (.cells P 60)).heap[w.heap.size]? = some (.cells P 60 (0, 0)) := alloc_at _ _ _ rfl
 have hs1 : (w.alloc (.cells P 60)).heap.size = w.heap.size + 1 := by simp
 have HS1 := hid hs1
 clear hs1
 go_enter Tryz.func164, Tryz.ntmps164
 go_upto_region 1 with fail
 generalize w.alloc (.cells P 60) = w1 at b1 m1 HS1 ⊢
 have q0 : w1.cell? ⟨w.heap.size, 0, none⟩ = some (.int .i64 1) := (cell_of_heap m1 0).trans (by rw [← HP.out]; simp [Fl.row, hop])
 have q2 : w1.cell? ⟨w.heap.size, 2, none⟩ = some (.string ⟨p.typ.toArray⟩) := (cell_of_heap m1 2).trans (by rw [← HP.out]; rfl)
 refine wp_region_list ?_
 iterate 4 (refine wpList_plain rfl fun K hK => ?_; go_simp; refine hK _ _ ?_; clear hK K)
 refine wpList_plain rfl fun K hK => ?_
 go_simp
 rw [HX1.out]
 refine hK _ _ ?_; clear hK K
 refine wpList_plain rfl fun K hK => ?_; go_simp; refine hK _ _ ?_; clear hK K
 clear q0 q2
 have b2 := b1.trans ((Below.refl w1.heap.size w1).alloc (Nat.le_refl _) (.cells Zf 60) |>.mono b1.size)
 have m2 := (alloc_old w1 (.cells Zf 60) w.heap.size (gl m1)).trans m1
 have x2 : (w1.alloc (.cells Zf 60)).heap[w.heap.size + 1]? = some (.cells Zf 60 (0, 0)) := alloc_at _ _ _ (by rw [HS1.out])
 rw [HS1.out]
 clear b1 m1
 generalize w1.alloc (.cells Zf 60) = w2 at b2 m2 x2 ⊢
 refine wpList_storeRow rfl 60 (.tmp 3) (.tmp 8) rfl (w.heap.size + 1) 60 _ X0 (by rfl) (by rfl) x2 (by rw [HX2.out]; rfl) (by rw [HX2.out]; rfl) HX3.out ?_
 have b3 := below_row b2 (g := w.heap.size + 1) (by omega) X0
 have m3 := (setRow_other w2 (w.heap.size + 1) w.heap.size X0 (by omega)).trans m2
 have x3 := setRow_heap w2 (w.heap.size + 1) _ X0 _ _ x2
 clear b2 m2 x2 HX1 HX3 HS1
 generalize w2.setRow (w.heap.size + 1) X0 = w3 at b3 m3 x3 ⊢
 have q0 : w3.cell? ⟨w.heap.size, 0, none⟩ = some (.int .i64 1) := (cell_of_heap m3 0).trans (by rw [← HP.out]; simp [Fl.row, hop])
 go_simp
 go_upto_region 7 with fail
 clear q0
 have T : w3.drew.heap[w.heap.size]? = some (.cells P 60 (0, 0)) := m3
 have D : Below w.heap.size w w3.drew := b3.drew
 have Y : w3.drew.heap[w.heap.size + 1]? = some (.cells (Fl.row ⟨1, 0, p.typ, [], [], [], []⟩ (.slice none 0 0)) 60 (0, 0)) := by rw [HX0.out]; exact x3
 refine wp_region_held (S := fun w' => w'.heap[w.heap.size]? = some (.cells P 60 (0, 0))) (by kernel_rfl) ?_
 change wpAnyH _ _ _ _ _ _ _ _ w3.drew
 clear m3 b3 x3 HX0 HX2
 generalize w3.drew = w4 at T D Y ⊢
 refine tk 0 (.pointer (some ⟨w.heap.size, 1, none⟩)) rfl (fun w' hS => by go_simp) T (fun K hK => ?_); go_simp; refine hK _ _ ?_; clear hK K
 refine tk 1 (.int .i64 p.n) rfl (fun w' hS => by have q := (cell_of_heap hS 1).trans (show _ = some (Value.int .i64 p.n) from by rw [← HP.out]; rfl); go_simp) T (fun K hK => ?_); go_simp; refine hK _ _ ?_; clear hK K
 refine tk 2 (.pointer (some ⟨w.heap.size + 1, 2, none⟩)) rfl (fun w' hS => by go_simp) T (fun K hK => ?_); go_simp; refine hK _ _ ?_; clear hK K
 have s : w4.cell? ⟨w.heap.size + 1, 2, none⟩ = some (.string ⟨p.typ.toArray⟩) := (cell_of_heap Y 2).trans rfl
 have z := Lib.frozen_of_heap Y 2
 have Y1 : (w4.setCell ⟨w.heap.size + 1, 2, none⟩ (.string ⟨#[]⟩)).heap[w.heap.size + 1]? = some (.cells (Fl.row ⟨1, 0, [], [], [], [], []⟩ (.slice none 0 0)) 60 (0, 0)) := setCell_at (i := 2) (u := .string ⟨#[]⟩) Y
 have T1 : (w4.setCell ⟨w.heap.size + 1, 2, none⟩ (.string ⟨#[]⟩)).heap[w.heap.size]? = some (.cells P 60 (0, 0)) := (Below.heap_setCell w4 ⟨w.heap.size + 1, 2, none⟩ _ w.heap.size (by show w.heap.size ≠ w.heap.size + 1; omega)).trans T
 have D1 := D.setCell (p := ⟨w.heap.size + 1, 2, none⟩) (by show w.heap.size ≤ w.heap.size + 1; omega) (.string ⟨#[]⟩)
 refine anyH_one 3 (by kernel_rfl) rfl (by rfl) (fun K hK => ?_); go_simp; refine hK _ _ T1 ?_; clear hK K
 clear s z Y T D
 generalize w4.setCell ⟨w.heap.size + 1, 2, none⟩ (.string ⟨#[]⟩) = w5 at T1 D1 Y1 ⊢
 refine tk 4 (.pointer (some ⟨w.heap.size + 1, 1, none⟩)) rfl (fun w' hS => by go_simp) T1 (fun K hK => ?_); go_simp; refine hK _ _ ?_; clear hK K
 have s : w5.cell? ⟨w.heap.size + 1, 1, none⟩ = some (.int .i64 0) := (cell_of_heap Y1 1).trans rfl
 have z := Lib.frozen_of_heap Y1 1
 have x6s : (w5.setCell ⟨w.heap.size + 1, 1, none⟩ (.int .i64 p.n)).heap[w.heap.size + 1]? = some (.cells (Fl.row ⟨1, p.n, [], [], [], [], []⟩ (.slice none 0 0)) 60 (0, 0)) := setCell_at (i := 1) (u := .int .i64 p.n) Y1
 have m6 : (w5.setCell ⟨w.heap.size + 1, 1, none⟩ (.int .i64 p.n)).heap[w.heap.size]? = some (.cells P 60 (0, 0)) := (Below.heap_setCell w5 ⟨w.heap.size + 1, 1, none⟩ _ w.heap.size (by show w.heap.size ≠ w.heap.size + 1; omega)).trans T1
 have b6 := D1.setCell (p := ⟨w.heap.size + 1, 1, none⟩) (by show w.heap.size ≤ w.heap.size + 1; omega) (.int .i64 p.n)
 refine anyH_one 5 (by kernel_rfl) rfl (by rfl) (fun K hK => ?_); go_simp; refine hK _ _ m6 ?_; clear hK K
 clear s z Y1 T1 D1
 refine wpAnyH_done (by kernel_rfl) ?_ _
 try simp only [Exit.then]
 refine ‹∀ (a : Act) (w : World), Code.wp _ _ _ a w → _› _ _ ?_
 obtain ⟨X6, hX6⟩ : ∃ X, Fl.row ⟨1, p.n, [], [], [], [], []⟩ (.slice none 0 0) = X := ⟨_, rfl⟩
 have x6 : (w5.setCell ⟨w.heap.size + 1, 1, none⟩ (.int .i64 p.n)).heap[w.heap.size + 1]? = some (.cells X6 60 (0, 0)) := by rw [← hX6]; exact x6s
 have hX7 : X6.size = 7 := by rw [← hX6]; rfl
 have HX6 := hid hX6
 have HX7 := hid hX7
 clear hX6 hX7 x6s
 generalize w5.setCell ⟨w.heap.size + 1, 1, none⟩ (.int .i64 p.n) = w6 at x6 m6 b6 ⊢
 have ks := same_any p ⟨1, p.n, [], [], [], [], []⟩ u (.slice none 0 0) w6 (HU.out.below b6) (⟨none, 0, rfl, Nat.le_refl _, fun h => absurd rfl h⟩) (by omega) (by simp)
 rw [HP.out, HX6.out] at ks
 have hAll : OK = (sameB p ⟨1, p.n, [], [], [], [], []⟩ && decide (0 ≤ p.n) && (decide ((1 : Int) ≠ 2) || decide (p.n = 1))) := by rw [← HOK.out]; simp [shapeB, sameB, hop, Bool.and_assoc]
 obtain ⟨B, hB⟩ : ∃ B, sameB p ⟨1, p.n, [], [], [], [], []⟩ = B := ⟨_, rfl⟩
 rw [hB] at ks hAll
 have HALL := hid hAll
 clear hAll hB
 go_wp2_with (first | (refine wpList_loadRow rfl 60 (.tmp 1) rfl w.heap.size 60 _ (0, 0) (by rfl) m6 _ Tryz.underlying60 rfl (by rw [HP2.out]; rfl) ?_) | (refine wpList_loadRow rfl 60 (.tmp 3) rfl (w.heap.size + 1) 60 _ (0, 0) (by rfl) x6 _ Tryz.underlying60 rfl (by rw [HX7.out]; rfl) ?_))
 refine Calls.mono ks ?_
 rintro e w20 ⟨rfl, hb⟩
 have m20 := (hb.block _ (gl m6)).trans m6
 have b20 := b6.trans (hb.mono b6.size)
 clear ks hb m6 x6 b6
 have q0 : w20.cell? ⟨w.heap.size, 0, none⟩ = some (.int .i64 1) := (cell_of_heap m20 0).trans (by rw [← HP.out]; simp [Fl.row, hop])
 have q1 : w20.cell? ⟨w.heap.size, 1, none⟩ = some (.int .i64 p.n) := (cell_of_heap m20 1).trans (by rw [← HP.out]; rfl)
 cases B
 ·go_wp2_with fail
  go_ret
  exact ⟨by rw [HALL.out]; rfl, b20⟩
 ·by_cases hn : 0 ≤ p.n
  ·have f0 : decide (p.n ≥ 0) = true := decide_eq_true hn
   have f1 : decide (0 ≤ p.n) = true := decide_eq_true hn
   have hO : OK = true := by rw [HALL.out, f1]; rfl
   have HO := hid hO
   clear hO HALL
   go_wp2_with fail
   go_ret
   exact ⟨by rw [HO.out]; rfl, b20⟩
  ·have f0 : decide (p.n ≥ 0) = false := decide_eq_false hn
   have f1 : decide (0 ≤ p.n) = false := decide_eq_false hn
   have hO : OK = false := by rw [HALL.out, f1]; rfl
   have HO := hid hO
   clear hO HALL
   go_wp2_with fail
   go_ret
   exact ⟨by rw [HO.out]; rfl, b20⟩
set_option maxRecDepth 100000 in
set_option maxHeartbeats 4000000 in
theorem shape_2 (p : Fl) (u : Value) (w : World) (hu : StrsM w u p.any) (hok : p.ok) (hE : Env w) (hop : p.op = 2) :
  Calls Tryz.prog 164 #[.agg (p.row u)] w fun e w' => e = .returned (.bool (shapeB p)) ∧ Below w.heap.size w w' := by
 obtain ⟨OK, hOK⟩ : ∃ b, shapeB p = b := ⟨_, rfl⟩
 rw [hOK]
 have HOK := hid hOK
 clear hOK
 obtain ⟨P, hP⟩ : ∃ P, p.row u = P := ⟨_, rfl⟩
 rw [hP]
 have hP2 : P.size = 7 := by rw [← hP]; rfl
 have HP := hid hP
 have HP2 := hid hP2
 clear hP hP2
 obtain ⟨k1, k2, k3, k4, k5, k6⟩ := hok
 have HK6 := hid k6
 have HE := hid hE
 have HU := hid hu
 clear hu hE k6
 obtain ⟨X0, hX0⟩ : ∃ X, Fl.row ⟨2, 0, p.typ, [], [], [], []⟩ (.slice none 0 0) = X := ⟨_, rfl⟩
 have hX1 : (#[.int .i64 2, .int .i64 0, .string ⟨p.typ.toArray⟩, .string ⟨#[]⟩, .string ⟨#[]⟩, .string ⟨#[]⟩, .slice none 0 0] : Array Value) = X0 := hX0
 have hX2 : X0.size = 7 := by rw [← hX0]; rfl
 have hX3 : X0.all (·.oneCell') = true := by rw [← hX0]; simp [Fl.row, Value.oneCell']
 have HX0 := hid hX0
 have HX1 := hid hX1
 have HX2 := hid hX2
 have HX3 := hid hX3
 clear hX0 hX1 hX2 hX3
 have b1 : Below w.heap.size w (w.alloc (.cells P 60)) := (Below.refl _ _).alloc (Nat.le_refl _) _
 have m1 : (w.alloc (.cells P 60)).heap[w.heap.size]? = some (.cells P 60 (0, 0)) := alloc_at _ _ _ rfl
 have hs1 : (w.alloc (.cells P 60)).heap.size = w.heap.size + 1 := by simp
 have HS1 := hid hs1
 clear hs1
 go_enter Tryz.func164, Tryz.ntmps164
 go_upto_region 1 with fail
 generalize w.alloc (.cells P 60) = w1 at b1 m1 HS1 ⊢
 have q0 : w1.cell? ⟨w.heap.size, 0, none⟩ = some (.int .i64 2) := (cell_of_heap m1 0).trans (by rw [← HP.out]; simp [Fl.row, hop])
 have q2 : w1.cell? ⟨w.heap.size, 2, none⟩ = some (.string ⟨p.typ.toArray⟩) := (cell_of_heap m1 2).trans (by rw [← HP.out]; rfl)
 refine wp_region_list ?_
 iterate 4 (refine wpList_plain rfl fun K hK => ?_; go_simp; refine hK _ _ ?_; clear hK K)
 refine wpList_plain rfl fun K hK => ?_
 go_simp
 rw [HX1.out]
 refine hK _ _ ?_; clear hK K
 refine wpList_plain rfl fun K hK => ?_; go_simp; refine hK _ _ ?_; clear hK K
 clear q0 q2
 have b2 := b1.trans ((Below.refl w1.heap.size w1).alloc (Nat.le_refl _) (.cells Zf 60) |>.mono b1.size)
 have m2 := (alloc_old w1 (.cells Zf 60) w.heap.size (gl m1)).trans m1
 have x2 : (w1.alloc (.cells Zf 60)).heap[w.heap.size + 1]? = some (.cells Zf 60 (0, 0)) := alloc_at _ _ _ (by rw [HS1.out])
 rw [HS1.out]
 clear b1 m1
 generalize w1.alloc (.cells Zf 60) = w2 at b2 m2 x2 ⊢
 refine wpList_storeRow rfl 60 (.tmp 3) (.tmp 8) rfl (w.heap.size + 1) 60 _ X0 (by rfl) (by rfl) x2 (by rw [HX2.out]; rfl) (by rw [HX2.out]; rfl) HX3.out ?_
 have b3 := below_row b2 (g := w.heap.size + 1) (by omega) X0
 have m3 := (setRow_other w2 (w.heap.size + 1) w.heap.size X0 (by omega)).trans m2
 have x3 := setRow_heap w2 (w.heap.size + 1) _ X0 _ _ x2
 clear b2 m2 x2 HX1 HX3 HS1
 generalize w2.setRow (w.heap.size + 1) X0 = w3 at b3 m3 x3 ⊢
 have q0 : w3.cell? ⟨w.heap.size, 0, none⟩ = some (.int .i64 2) := (cell_of_heap m3 0).trans (by rw [← HP.out]; simp [Fl.row, hop])
 go_simp
 go_upto_region 7 with fail
 clear q0
 have T : w3.drew.heap[w.heap.size]? = some (.cells P 60 (0, 0)) := m3
 have D : Below w.heap.size w w3.drew := b3.drew
 have Y : w3.drew.heap[w.heap.size + 1]? = some (.cells (Fl.row ⟨2, 0, p.typ, [], [], [], []⟩ (.slice none 0 0)) 60 (0, 0)) := by rw [HX0.out]; exact x3
 refine wp_region_held (S := fun w' => w'.heap[w.heap.size]? = some (.cells P 60 (0, 0))) (by kernel_rfl) ?_
 change wpAnyH _ _ _ _ _ _ _ _ w3.drew
 clear m3 b3 x3 HX0 HX2
 generalize w3.drew = w4 at T D Y ⊢
 refine tk 0 (.pointer (some ⟨w.heap.size, 1, none⟩)) rfl (fun w' hS => by go_simp) T (fun K hK => ?_); go_simp; refine hK _ _ ?_; clear hK K
 refine tk 1 (.int .i64 p.n) rfl (fun w' hS => by have q := (cell_of_heap hS 1).trans (show _ = some (Value.int .i64 p.n) from by rw [← HP.out]; rfl); go_simp) T (fun K hK => ?_); go_simp; refine hK _ _ ?_; clear hK K
 refine tk 2 (.pointer (some ⟨w.heap.size + 1, 2, none⟩)) rfl (fun w' hS => by go_simp) T (fun K hK => ?_); go_simp; refine hK _ _ ?_; clear hK K
 have s : w4.cell? ⟨w.heap.size + 1, 2, none⟩ = some (.string ⟨p.typ.toArray⟩) := (cell_of_heap Y 2).trans rfl
 have z := Lib.frozen_of_heap Y 2
 have Y1 : (w4.setCell ⟨w.heap.size + 1, 2, none⟩ (.string ⟨#[]⟩)).heap[w.heap.size + 1]? = some (.cells (Fl.row ⟨2, 0, [], [], [], [], []⟩ (.slice none 0 0)) 60 (0, 0)) := setCell_at (i := 2) (u := .string ⟨#[]⟩) Y
 have T1 : (w4.setCell ⟨w.heap.size + 1, 2, none⟩ (.string ⟨#[]⟩)).heap[w.heap.size]? = some (.cells P 60 (0, 0)) := (Below.heap_setCell w4 ⟨w.heap.size + 1, 2, none⟩ _ w.heap.size (by show w.heap.size ≠ w.heap.size + 1; omega)).trans T
 have D1 := D.setCell (p := ⟨w.heap.size + 1, 2, none⟩) (by show w.heap.size ≤ w.heap.size + 1; omega) (.string ⟨#[]⟩)
 refine anyH_one 3 (by kernel_rfl) rfl (by rfl) (fun K hK => ?_); go_simp; refine hK _ _ T1 ?_; clear hK K
 clear s z Y T D
 generalize w4.setCell ⟨w.heap.size + 1, 2, none⟩ (.string ⟨#[]⟩) = w5 at T1 D1 Y1 ⊢
 refine tk 4 (.pointer (some ⟨w.heap.size + 1, 1, none⟩)) rfl (fun w' hS => by go_simp) T1 (fun K hK => ?_); go_simp; refine hK _ _ ?_; clear hK K
 have s : w5.cell? ⟨w.heap.size + 1, 1, none⟩ = some (.int .i64 0) := (cell_of_heap Y1 1).trans rfl
 have z := Lib.frozen_of_heap Y1 1
 have x6s : (w5.setCell ⟨w.heap.size + 1, 1, none⟩ (.int .i64 p.n)).heap[w.heap.size + 1]? = some (.cells (Fl.row ⟨2, p.n, [], [], [], [], []⟩ (.slice none 0 0)) 60 (0, 0)) := setCell_at (i := 1) (u := .int .i64 p.n) Y1
 have m6 : (w5.setCell ⟨w.heap.size + 1, 1, none⟩ (.int .i64 p.n)).heap[w.heap.size]? = some (.cells P 60 (0, 0)) := (Below.heap_setCell w5 ⟨w.heap.size + 1, 1, none⟩ _ w.heap.size (by show w.heap.size ≠ w.heap.size + 1; omega)).trans T1
 have b6 := D1.setCell (p := ⟨w.heap.size + 1, 1, none⟩) (by show w.heap.size ≤ w.heap.size + 1; omega) (.int .i64 p.n)
 refine anyH_one 5 (by kernel_rfl) rfl (by rfl) (fun K hK => ?_); go_simp; refine hK _ _ m6 ?_; clear hK K
 clear s z Y1 T1 D1
 refine wpAnyH_done (by kernel_rfl) ?_ _
 try simp only [Exit.then]
 refine ‹∀ (a : Act) (w : World), Code.wp _ _ _ a w → _› _ _ ?_
 obtain ⟨X6, hX6⟩ : ∃ X, Fl.row ⟨2, p.n, [], [], [], [], []⟩ (.slice none 0 0) = X := ⟨_, rfl⟩
 have x6 : (w5.setCell ⟨w.heap.size + 1, 1, none⟩ (.int .i64 p.n)).heap[w.heap.size + 1]? = some (.cells X6 60 (0, 0)) := by rw [← hX6]; exact x6s
 have hX7 : X6.size = 7 := by rw [← hX6]; rfl
 have HX6 := hid hX6
 have HX7 := hid hX7
 clear hX6 hX7 x6s
 generalize w5.setCell ⟨w.heap.size + 1, 1, none⟩ (.int .i64 p.n) = w6 at x6 m6 b6 ⊢
 have ks := same_any p ⟨2, p.n, [], [], [], [], []⟩ u (.slice none 0 0) w6 (HU.out.below b6) (⟨none, 0, rfl, Nat.le_refl _, fun h => absurd rfl h⟩) (by omega) (by simp)
 rw [HP.out, HX6.out] at ks
 have hAll : OK = (sameB p ⟨2, p.n, [], [], [], [], []⟩ && decide (0 ≤ p.n) && (decide ((2 : Int) ≠ 2) || decide (p.n = 1))) := by rw [← HOK.out]; simp [shapeB, sameB, hop, Bool.and_assoc]
 obtain ⟨B, hB⟩ : ∃ B, sameB p ⟨2, p.n, [], [], [], [], []⟩ = B := ⟨_, rfl⟩
 rw [hB] at ks hAll
 have HALL := hid hAll
 clear hAll hB
 go_wp2_with (first | (refine wpList_loadRow rfl 60 (.tmp 1) rfl w.heap.size 60 _ (0, 0) (by rfl) m6 _ Tryz.underlying60 rfl (by rw [HP2.out]; rfl) ?_) | (refine wpList_loadRow rfl 60 (.tmp 3) rfl (w.heap.size + 1) 60 _ (0, 0) (by rfl) x6 _ Tryz.underlying60 rfl (by rw [HX7.out]; rfl) ?_))
 refine Calls.mono ks ?_
 rintro e w20 ⟨rfl, hb⟩
 have m20 := (hb.block _ (gl m6)).trans m6
 have b20 := b6.trans (hb.mono b6.size)
 clear ks hb m6 x6 b6
 have q0 : w20.cell? ⟨w.heap.size, 0, none⟩ = some (.int .i64 2) := (cell_of_heap m20 0).trans (by rw [← HP.out]; simp [Fl.row, hop])
 have q1 : w20.cell? ⟨w.heap.size, 1, none⟩ = some (.int .i64 p.n) := (cell_of_heap m20 1).trans (by rw [← HP.out]; rfl)
 cases B
 ·go_wp2_with fail
  go_ret
  exact ⟨by rw [HALL.out]; rfl, b20⟩
 ·by_cases hn : 0 ≤ p.n
  ·have f0 : decide (p.n ≥ 0) = true := decide_eq_true hn
   have f1 : decide (0 ≤ p.n) = true := decide_eq_true hn
   by_cases h1 : p.n = 1
   ·have f2 : (p.n == 1) = true := by simpa using h1
    have hO : OK = true := by rw [HALL.out, f1, decide_eq_true h1]; rfl
    have HO := hid hO
    clear hO h1 HALL
    go_wp2_with fail
    go_ret
    exact ⟨by rw [HO.out]; rfl, b20⟩
   ·have f2 : (p.n == 1) = false := beq_false_of_ne h1
    have hO : OK = false := by rw [HALL.out, f1, decide_eq_false h1]; rfl
    have HO := hid hO
    clear hO h1 HALL
    go_wp2_with fail
    go_ret
    exact ⟨by rw [HO.out]; rfl, b20⟩
  ·have f0 : decide (p.n ≥ 0) = false := decide_eq_false hn
   have f1 : decide (0 ≤ p.n) = false := decide_eq_false hn
   have hO : OK = false := by rw [HALL.out, f1]; rfl
   have HO := hid hO
   clear hO HALL
   go_wp2_with fail
   go_ret
   exact ⟨by rw [HO.out]; rfl, b20⟩
end Go.Proofs.YthjaiigijbjloaaGreatDoor
