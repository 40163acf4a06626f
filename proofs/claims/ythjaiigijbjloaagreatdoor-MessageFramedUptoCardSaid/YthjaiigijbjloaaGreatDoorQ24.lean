/- FsB. -/
import Derived.Deep.CutRange
import Derived.Test.YthjaiigijbjloaaGreatDoorQ23
namespace Go.Proofs.YthjaiigijbjloaaGreatDoor
open Go.RowKit Go.Lib
def ShRel (w : World) (P X : Array Value) (wx : World) : Prop := wx.heap[w.heap.size]? = some (.cells P 60 (0, 0)) ∧ wx.heap[w.heap.size + 1]? = some (.cells X 60 (0, 0)) ∧ Below w.heap.size w wx
set_option maxRecDepth 100000 in
set_option maxHeartbeats 4000000 in
theorem shape_3 (p : Fl) (u : Value) (w : World) (hu : StrsM w u p.any) (hok : p.ok) (hE : Env w) (hop : p.op = 3) :
  Calls Tryz.prog 164 #[.agg (p.row u)] w fun e w' => e = .returned (.bool (shapeB p)) ∧ Below w.heap.size w w' := by
 obtain ⟨OK, hOK⟩ : ∃ b, shapeB p = b := ⟨_, rfl⟩
 rw [hOK]
 have HOK := hid hOK
 clear hOK
 obtain ⟨P, hP⟩ : ∃ P, p.row u = P := ⟨_, rfl⟩
 rw [hP]
 have hP2 : P.size = 7 := by rw [← hP]; rfl
 have HP := hid hP
 have HP2 := hid hP2
 clear hP hP2
 obtain ⟨k1, k2, k3, k4, k5, k6⟩ := hok
 have HK6 := hid k6
 have HE := hid hE
 have HU := hid hu
 clear hu hE k6
 obtain ⟨X0, hX0⟩ : ∃ X, Fl.row ⟨3, 0, p.typ, [], [], [], []⟩ (.slice none 0 0) = X := ⟨_, rfl⟩
 have hX1 : (#[.int .i64 3, .int .i64 0, .string ⟨p.typ.toArray⟩, .string ⟨#[]⟩, .string ⟨#[]⟩, .string ⟨#[]⟩, .slice none 0 0] : Array Value) = X0 := hX0
 have hX2 : X0.size = 7 := by rw [← hX0]; rfl
 have hX3 : X0.all (·.oneCell') = true := by rw [← hX0]; simp [Fl.row, Value.oneCell']
 have HX0 := hid hX0
 have HX1 := hid hX1
 have HX2 := hid hX2
 have HX3 := hid hX3
 clear hX0 hX1 hX2 hX3
 have b1 : Below w.heap.size w (w.alloc (.cells P 60)) := (Below.refl _ _).alloc (Nat.le_refl _) _
 have m1 : (w.alloc (.cells P 60)).heap[w.heap.size]? = some (.cells P 60 (0, 0)) := alloc_at _ _ _ rfl
 have hs1 : (w.alloc (.cells P 60)).heap.size = w.heap.size + 1 := by simp
 have HS1 := hid hs1
 clear hs1
 go_enter Tryz.func164, Tryz.ntmps164
 go_upto_region 1 with fail
 generalize w.alloc (.cells P 60) = w1 at b1 m1 HS1 ⊢
 have q0 : w1.cell? ⟨w.heap.size, 0, none⟩ = some (.int .i64 3) := (cell_of_heap m1 0).trans (by rw [← HP.out]; simp [Fl.row, hop])
 have q2 : w1.cell? ⟨w.heap.size, 2, none⟩ = some (.string ⟨p.typ.toArray⟩) := (cell_of_heap m1 2).trans (by rw [← HP.out]; rfl)
 refine wp_region_list ?_
 iterate 4 (refine wpList_plain rfl fun K hK => ?_; go_simp; refine hK _ _ ?_; clear hK K)
 refine wpList_plain rfl fun K hK => ?_
 go_simp
 rw [HX1.out]
 refine hK _ _ ?_; clear hK K
 refine wpList_plain rfl fun K hK => ?_; go_simp; refine hK _ _ ?_; clear hK K
 clear q0 q2
 have b2 := b1.trans ((Below.refl w1.heap.size w1).alloc (Nat.le_refl _) (.cells Zf 60) |>.mono b1.size)
 have m2 := (alloc_old w1 (.cells Zf 60) w.heap.size (gl m1)).trans m1
 have x2 : (w1.alloc (.cells Zf 60)).heap[w.heap.size + 1]? = some (.cells Zf 60 (0, 0)) := alloc_at _ _ _ (by rw [HS1.out])
 rw [HS1.out]
 clear b1 m1
 generalize w1.alloc (.cells Zf 60) = w2 at b2 m2 x2 ⊢
 refine wpList_storeRow rfl 60 (.tmp 3) (.tmp 8) rfl (w.heap.size + 1) 60 _ X0 (by rfl) (by rfl) x2 (by rw [HX2.out]; rfl) (by rw [HX2.out]; rfl) HX3.out ?_
 have b3 := below_row b2 (g := w.heap.size + 1) (by omega) X0
 have m3 := (setRow_other w2 (w.heap.size + 1) w.heap.size X0 (by omega)).trans m2
 have x3 := setRow_heap w2 (w.heap.size + 1) _ X0 _ _ x2
 clear b2 m2 x2 HX1 HX3 HS1
 generalize w2.setRow (w.heap.size + 1) X0 = w3 at b3 m3 x3 ⊢
 have q0 : w3.cell? ⟨w.heap.size, 0, none⟩ = some (.int .i64 3) := (cell_of_heap m3 0).trans (by rw [← HP.out]; simp [Fl.row, hop])
 go_simp
 have q3 : w3.cell? ⟨w.heap.size, 3, none⟩ = some (.string ⟨p.value.toArray⟩) := (cell_of_heap m3 3).trans (by rw [← HP.out]; rfl)
 have x3' : w3.heap[w.heap.size + 1]? = some (.cells (Fl.row ⟨3, 0, p.typ, [], [], [], []⟩ (.slice none 0 0)) 60 (0, 0)) := by rw [HX0.out]; exact x3
 have s3 : w3.cell? ⟨w.heap.size + 1, 3, none⟩ = some (.string ⟨#[]⟩) := (cell_of_heap x3' 3).trans rfl
 have z3 := Lib.frozen_of_heap x3' 3
 go_upto_region 19 with fail
 have x4s : (w3.setCell ⟨w.heap.size + 1, 3, none⟩ (.string ⟨p.value.toArray⟩)).heap[w.heap.size + 1]? = some (.cells (Fl.row ⟨3, 0, p.typ, p.value, [], [], []⟩ (.slice none 0 0)) 60 (0, 0)) := setCell_at (i := 3) (u := .string ⟨p.value.toArray⟩) x3'
 have m4 := (Below.heap_setCell w3 ⟨w.heap.size + 1, 3, none⟩ (.string ⟨p.value.toArray⟩) w.heap.size (by show w.heap.size ≠ w.heap.size + 1; omega)).trans m3
 have b4 := b3.setCell (p := ⟨w.heap.size + 1, 3, none⟩) (by show w.heap.size ≤ w.heap.size + 1; omega) (.string ⟨p.value.toArray⟩)
 obtain ⟨X4, hX4⟩ : ∃ X, Fl.row ⟨3, 0, p.typ, p.value, [], [], []⟩ (.slice none 0 0) = X := ⟨_, rfl⟩
 have x4 : (w3.setCell ⟨w.heap.size + 1, 3, none⟩ (.string ⟨p.value.toArray⟩)).heap[w.heap.size + 1]? = some (.cells X4 60 (0, 0)) := by rw [← hX4]; exact x4s
 have hX5 : X4.size = 7 := by rw [← hX4]; rfl
 have HX4 := hid hX4
 have HX5 := hid hX5
 clear hX4 hX5 x4s x3' x3 m3 b3 s3 z3 q3 q0 HX0 HX2
 generalize w3.setCell ⟨w.heap.size + 1, 3, none⟩ (.string ⟨p.value.toArray⟩) = w4 at x4 m4 b4 ⊢
 have ks := same_any p ⟨3, 0, p.typ, p.value, [], [], []⟩ u (.slice none 0 0) w4 (HU.out.below b4) (⟨none, 0, rfl, Nat.le_refl _, fun h => absurd rfl h⟩) (by omega) (by simp; try omega)
 rw [HP.out, HX4.out] at ks
 have hAll : OK = (sameB p ⟨3, 0, p.typ, p.value, [], [], []⟩ && isTyB p.typ) := by rw [← HOK.out]; simp [shapeB, sameB, hop, Bool.and_assoc]
 obtain ⟨B, hB⟩ : ∃ B, sameB p ⟨3, 0, p.typ, p.value, [], [], []⟩ = B := ⟨_, rfl⟩
 rw [hB] at ks hAll
 have HALL := hid hAll
 clear hAll hB
 go_wp2_with (first | (refine wpList_loadRow rfl 60 (.tmp 1) rfl w.heap.size 60 _ (0, 0) (by rfl) m4 _ Tryz.underlying60 rfl (by rw [HP2.out]; rfl) ?_) | (refine wpList_loadRow rfl 60 (.tmp 3) rfl (w.heap.size + 1) 60 _ (0, 0) (by rfl) x4 _ Tryz.underlying60 rfl (by rw [HX5.out]; rfl) ?_))
 refine Calls.mono ks ?_
 rintro e w20 ⟨rfl, hb⟩
 have m20 := (hb.block _ (gl m4)).trans m4
 have b20 := b4.trans (hb.mono b4.size)
 clear ks hb m4 x4 b4
 cases B
 ·go_wp2_with fail
  go_ret
  exact ⟨by rw [HALL.out]; rfl, b20⟩
 ·have q2 : w20.cell? ⟨w.heap.size, 2, none⟩ = some (.string ⟨p.typ.toArray⟩) := (cell_of_heap m20 2).trans (by rw [← HP.out]; rfl)
  have ki := IsType_any p.typ w20 (by omega) (HE.out.below b20)
  go_wp2_with fail
  refine Calls.mono ki ?_
  rintro e w21 ⟨rfl, hb⟩
  have b21 := b20.trans (hb.mono b20.size)
  clear ki hb b20 q2 m20
  go_wp2_with fail
  go_ret
  exact ⟨by rw [HALL.out]; simp, b21⟩
set_option maxRecDepth 100000 in
set_option maxHeartbeats 4000000 in
theorem shape_5 (p : Fl) (u : Value) (w : World) (hu : StrsM w u p.any) (hok : p.ok) (hE : Env w) (hop : p.op = 5) :
  Calls Tryz.prog 164 #[.agg (p.row u)] w fun e w' => e = .returned (.bool (shapeB p)) ∧ Below w.heap.size w w' := by
 obtain ⟨OK, hOK⟩ : ∃ b, shapeB p = b := ⟨_, rfl⟩
 rw [hOK]
 have HOK := hid hOK
 clear hOK
 obtain ⟨P, hP⟩ : ∃ P, p.row u = P := ⟨_, rfl⟩
 rw [hP]
 have hP2 : P.size = 7 := by rw [← hP]; rfl
 have HP := hid hP
 have HP2 := hid hP2
 clear hP hP2
 obtain ⟨k1, k2, k3, k4, k5, k6⟩ := hok
 have HK6 := hid k6
 have HE := hid hE
 have HU := hid hu
 clear hu hE k6
 obtain ⟨X0, hX0⟩ : ∃ X, Fl.row ⟨5, 0, p.typ, [], [], [], []⟩ (.slice none 0 0) = X := ⟨_, rfl⟩
 have hX1 : (#[.int .i64 5, .int .i64 0, .string ⟨p.typ.toArray⟩, .string ⟨#[]⟩, .string ⟨#[]⟩, .string ⟨#[]⟩, .slice none 0 0] : Array Value) = X0 := hX0
 have hX2 : X0.size = 7 := by rw [← hX0]; rfl
 have hX3 : X0.all (·.oneCell') = true := by rw [← hX0]; simp [Fl.row, Value.oneCell']
 have HX0 := hid hX0
 have HX1 := hid hX1
 have HX2 := hid hX2
 have HX3 := hid hX3
 clear hX0 hX1 hX2 hX3
 have b1 : Below w.heap.size w (w.alloc (.cells P 60)) := (Below.refl _ _).alloc (Nat.le_refl _) _
 have m1 : (w.alloc (.cells P 60)).heap[w.heap.size]? = some (.cells P 60 (0, 0)) := alloc_at _ _ _ rfl
 have hs1 : (w.alloc (.cells P 60)).heap.size = w.heap.size + 1 := by simp
 have HS1 := hid hs1
 clear hs1
 go_enter Tryz.func164, Tryz.ntmps164
 go_upto_region 1 with fail
 generalize w.alloc (.cells P 60) = w1 at b1 m1 HS1 ⊢
 have q0 : w1.cell? ⟨w.heap.size, 0, none⟩ = some (.int .i64 5) := (cell_of_heap m1 0).trans (by rw [← HP.out]; simp [Fl.row, hop])
 have q2 : w1.cell? ⟨w.heap.size, 2, none⟩ = some (.string ⟨p.typ.toArray⟩) := (cell_of_heap m1 2).trans (by rw [← HP.out]; rfl)
 refine wp_region_list ?_
 iterate 4 (refine wpList_plain rfl fun K hK => ?_; go_simp; refine hK _ _ ?_; clear hK K)
 refine wpList_plain rfl fun K hK => ?_
 go_simp
 rw [HX1.out]
 refine hK _ _ ?_; clear hK K
 refine wpList_plain rfl fun K hK => ?_; go_simp; refine hK _ _ ?_; clear hK K
 clear q0 q2
 have b2 := b1.trans ((Below.refl w1.heap.size w1).alloc (Nat.le_refl _) (.cells Zf 60) |>.mono b1.size)
 have m2 := (alloc_old w1 (.cells Zf 60) w.heap.size (gl m1)).trans m1
 have x2 : (w1.alloc (.cells Zf 60)).heap[w.heap.size + 1]? = some (.cells Zf 60 (0, 0)) := alloc_at _ _ _ (by rw [HS1.out])
 rw [HS1.out]
 clear b1 m1
 generalize w1.alloc (.cells Zf 60) = w2 at b2 m2 x2 ⊢
 refine wpList_storeRow rfl 60 (.tmp 3) (.tmp 8) rfl (w.heap.size + 1) 60 _ X0 (by rfl) (by rfl) x2 (by rw [HX2.out]; rfl) (by rw [HX2.out]; rfl) HX3.out ?_
 have b3 := below_row b2 (g := w.heap.size + 1) (by omega) X0
 have m3 := (setRow_other w2 (w.heap.size + 1) w.heap.size X0 (by omega)).trans m2
 have x3 := setRow_heap w2 (w.heap.size + 1) _ X0 _ _ x2
 clear b2 m2 x2 HX1 HX3 HS1
 generalize w2.setRow (w.heap.size + 1) X0 = w3 at b3 m3 x3 ⊢
 have q0 : w3.cell? ⟨w.heap.size, 0, none⟩ = some (.int .i64 5) := (cell_of_heap m3 0).trans (by rw [← HP.out]; simp [Fl.row, hop])
 go_simp
 have q3 : w3.cell? ⟨w.heap.size, 3, none⟩ = some (.string ⟨p.value.toArray⟩) := (cell_of_heap m3 3).trans (by rw [← HP.out]; rfl)
 have x3' : w3.heap[w.heap.size + 1]? = some (.cells (Fl.row ⟨5, 0, p.typ, [], [], [], []⟩ (.slice none 0 0)) 60 (0, 0)) := by rw [HX0.out]; exact x3
 have s3 : w3.cell? ⟨w.heap.size + 1, 3, none⟩ = some (.string ⟨#[]⟩) := (cell_of_heap x3' 3).trans rfl
 have z3 := Lib.frozen_of_heap x3' 3
 go_upto_region 19 with fail
 have x4s : (w3.setCell ⟨w.heap.size + 1, 3, none⟩ (.string ⟨p.value.toArray⟩)).heap[w.heap.size + 1]? = some (.cells (Fl.row ⟨5, 0, p.typ, p.value, [], [], []⟩ (.slice none 0 0)) 60 (0, 0)) := setCell_at (i := 3) (u := .string ⟨p.value.toArray⟩) x3'
 have m4 := (Below.heap_setCell w3 ⟨w.heap.size + 1, 3, none⟩ (.string ⟨p.value.toArray⟩) w.heap.size (by show w.heap.size ≠ w.heap.size + 1; omega)).trans m3
 have b4 := b3.setCell (p := ⟨w.heap.size + 1, 3, none⟩) (by show w.heap.size ≤ w.heap.size + 1; omega) (.string ⟨p.value.toArray⟩)
 obtain ⟨X4, hX4⟩ : ∃ X, Fl.row ⟨5, 0, p.typ, p.value, [], [], []⟩ (.slice none 0 0) = X := ⟨_, rfl⟩
 have x4 : (w3.setCell ⟨w.heap.size + 1, 3, none⟩ (.string ⟨p.value.toArray⟩)).heap[w.heap.size + 1]? = some (.cells X4 60 (0, 0)) := by rw [← hX4]; exact x4s
 have hX5 : X4.size = 7 := by rw [← hX4]; rfl
 have HX4 := hid hX4
 have HX5 := hid hX5
 clear hX4 hX5 x4s x3' x3 m3 b3 s3 z3 q3 q0 HX0 HX2
 generalize w3.setCell ⟨w.heap.size + 1, 3, none⟩ (.string ⟨p.value.toArray⟩) = w4 at x4 m4 b4 ⊢
 have ks := same_any p ⟨5, 0, p.typ, p.value, [], [], []⟩ u (.slice none 0 0) w4 (HU.out.below b4) (⟨none, 0, rfl, Nat.le_refl _, fun h => absurd rfl h⟩) (by omega) (by simp; try omega)
 rw [HP.out, HX4.out] at ks
 have hAll : OK = (sameB p ⟨5, 0, p.typ, p.value, [], [], []⟩ && isTyB p.typ) := by rw [← HOK.out]; simp [shapeB, sameB, hop, Bool.and_assoc]
 obtain ⟨B, hB⟩ : ∃ B, sameB p ⟨5, 0, p.typ, p.value, [], [], []⟩ = B := ⟨_, rfl⟩
 rw [hB] at ks hAll
 have HALL := hid hAll
 clear hAll hB
 go_wp2_with (first | (refine wpList_loadRow rfl 60 (.tmp 1) rfl w.heap.size 60 _ (0, 0) (by rfl) m4 _ Tryz.underlying60 rfl (by rw [HP2.out]; rfl) ?_) | (refine wpList_loadRow rfl 60 (.tmp 3) rfl (w.heap.size + 1) 60 _ (0, 0) (by rfl) x4 _ Tryz.underlying60 rfl (by rw [HX5.out]; rfl) ?_))
 refine Calls.mono ks ?_
 rintro e w20 ⟨rfl, hb⟩
 have m20 := (hb.block _ (gl m4)).trans m4
 have b20 := b4.trans (hb.mono b4.size)
 clear ks hb m4 x4 b4
 cases B
 ·go_wp2_with fail
  go_ret
  exact ⟨by rw [HALL.out]; rfl, b20⟩
 ·have q2 : w20.cell? ⟨w.heap.size, 2, none⟩ = some (.string ⟨p.typ.toArray⟩) := (cell_of_heap m20 2).trans (by rw [← HP.out]; rfl)
  have ki := IsType_any p.typ w20 (by omega) (HE.out.below b20)
  go_wp2_with fail
  refine Calls.mono ki ?_
  rintro e w21 ⟨rfl, hb⟩
  have b21 := b20.trans (hb.mono b20.size)
  clear ki hb b20 q2 m20
  go_wp2_with fail
  go_ret
  exact ⟨by rw [HALL.out]; simp, b21⟩
set_option maxRecDepth 100000 in
set_option maxHeartbeats 4000000 in
theorem shape_6 (p : Fl) (u : Value) (w : World) (hu : StrsM w u p.any) (hok : p.ok) (hE : Env w) (hop : p.op = 6) :
  Calls Tryz.prog 164 #[.agg (p.row u)] w fun e w' => e = .returned (.bool (shapeB p)) ∧ Below w.heap.size w w' := by
 obtain ⟨OK, hOK⟩ : ∃ b, shapeB p = b := ⟨_, rfl⟩
 rw [hOK]
 have HOK := hid hOK
 clear hOK
 obtain ⟨P, hP⟩ : ∃ P, p.row u = P := ⟨_, rfl⟩
 rw [hP]
 have hP2 : P.size = 7 := by rw [← hP]; rfl
 have HP := hid hP
 have HP2 := hid hP2
 clear hP hP2
 obtain ⟨k1, k2, k3, k4, k5, k6⟩ := hok
 have HK6 := hid k6
 have HE := hid hE
 have HU := hid hu
 clear hu hE k6
 obtain ⟨X0, hX0⟩ : ∃ X, Fl.row ⟨6, 0, p.typ, [], [], [], []⟩ (.slice none 0 0) = X := ⟨_, rfl⟩
 have hX1 : (#[.int .i64 6, .int .i64 0, .string ⟨p.typ.toArray⟩, .string ⟨#[]⟩, .string ⟨#[]⟩, .string ⟨#[]⟩, .slice none 0 0] : Array Value) = X0 := hX0
 have hX2 : X0.size = 7 := by rw [← hX0]; rfl
 have hX3 : X0.all (·.oneCell') = true := by rw [← hX0]; simp [Fl.row, Value.oneCell']
 have HX0 := hid hX0
 have HX1 := hid hX1
 have HX2 := hid hX2
 have HX3 := hid hX3
 clear hX0 hX1 hX2 hX3
 have b1 : Below w.heap.size w (w.alloc (.cells P 60)) := (Below.refl _ _).alloc (Nat.le_refl _) _
 have m1 : (w.alloc (.cells P 60)).heap[w.heap.size]? = some (.cells P 60 (0, 0)) := alloc_at _ _ _ rfl
 have hs1 : (w.alloc (.cells P 60)).heap.size = w.heap.size + 1 := by simp
 have HS1 := hid hs1
 clear hs1
 go_enter Tryz.func164, Tryz.ntmps164
 go_upto_region 1 with fail
 generalize w.alloc (.cells P 60) = w1 at b1 m1 HS1 ⊢
 have q0 : w1.cell? ⟨w.heap.size, 0, none⟩ = some (.int .i64 6) := (cell_of_heap m1 0).trans (by rw [← HP.out]; simp [Fl.row, hop])
 have q2 : w1.cell? ⟨w.heap.size, 2, none⟩ = some (.string ⟨p.typ.toArray⟩) := (cell_of_heap m1 2).trans (by rw [← HP.out]; rfl)
 refine wp_region_list ?_
 iterate 4 (refine wpList_plain rfl fun K hK => ?_; go_simp; refine hK _ _ ?_; clear hK K)
 refine wpList_plain rfl fun K hK => ?_
 go_simp
 rw [HX1.out]
 refine hK _ _ ?_; clear hK K
 refine wpList_plain rfl fun K hK => ?_; go_simp; refine hK _ _ ?_; clear hK K
 clear q0 q2
 have b2 := b1.trans ((Below.refl w1.heap.size w1).alloc (Nat.le_refl _) (.cells Zf 60) |>.mono b1.size)
 have m2 := (alloc_old w1 (.cells Zf 60) w.heap.size (gl m1)).trans m1
 have x2 : (w1.alloc (.cells Zf 60)).heap[w.heap.size + 1]? = some (.cells Zf 60 (0, 0)) := alloc_at _ _ _ (by rw [HS1.out])
 rw [HS1.out]
 clear b1 m1
 generalize w1.alloc (.cells Zf 60) = w2 at b2 m2 x2 ⊢
 refine wpList_storeRow rfl 60 (.tmp 3) (.tmp 8) rfl (w.heap.size + 1) 60 _ X0 (by rfl) (by rfl) x2 (by rw [HX2.out]; rfl) (by rw [HX2.out]; rfl) HX3.out ?_
 have b3 := below_row b2 (g := w.heap.size + 1) (by omega) X0
 have m3 := (setRow_other w2 (w.heap.size + 1) w.heap.size X0 (by omega)).trans m2
 have x3 := setRow_heap w2 (w.heap.size + 1) _ X0 _ _ x2
 clear b2 m2 x2 HX1 HX3 HS1
 generalize w2.setRow (w.heap.size + 1) X0 = w3 at b3 m3 x3 ⊢
 have q0 : w3.cell? ⟨w.heap.size, 0, none⟩ = some (.int .i64 6) := (cell_of_heap m3 0).trans (by rw [← HP.out]; simp [Fl.row, hop])
 go_simp
 have q3 : w3.cell? ⟨w.heap.size, 3, none⟩ = some (.string ⟨p.value.toArray⟩) := (cell_of_heap m3 3).trans (by rw [← HP.out]; rfl)
 have x3' : w3.heap[w.heap.size + 1]? = some (.cells (Fl.row ⟨6, 0, p.typ, [], [], [], []⟩ (.slice none 0 0)) 60 (0, 0)) := by rw [HX0.out]; exact x3
 have s3 : w3.cell? ⟨w.heap.size + 1, 3, none⟩ = some (.string ⟨#[]⟩) := (cell_of_heap x3' 3).trans rfl
 have z3 := Lib.frozen_of_heap x3' 3
 go_upto_region 19 with fail
 have x4s : (w3.setCell ⟨w.heap.size + 1, 3, none⟩ (.string ⟨p.value.toArray⟩)).heap[w.heap.size + 1]? = some (.cells (Fl.row ⟨6, 0, p.typ, p.value, [], [], []⟩ (.slice none 0 0)) 60 (0, 0)) := setCell_at (i := 3) (u := .string ⟨p.value.toArray⟩) x3'
 have m4 := (Below.heap_setCell w3 ⟨w.heap.size + 1, 3, none⟩ (.string ⟨p.value.toArray⟩) w.heap.size (by show w.heap.size ≠ w.heap.size + 1; omega)).trans m3
 have b4 := b3.setCell (p := ⟨w.heap.size + 1, 3, none⟩) (by show w.heap.size ≤ w.heap.size + 1; omega) (.string ⟨p.value.toArray⟩)
 obtain ⟨X4, hX4⟩ : ∃ X, Fl.row ⟨6, 0, p.typ, p.value, [], [], []⟩ (.slice none 0 0) = X := ⟨_, rfl⟩
 have x4 : (w3.setCell ⟨w.heap.size + 1, 3, none⟩ (.string ⟨p.value.toArray⟩)).heap[w.heap.size + 1]? = some (.cells X4 60 (0, 0)) := by rw [← hX4]; exact x4s
 have hX5 : X4.size = 7 := by rw [← hX4]; rfl
 have HX4 := hid hX4
 have HX5 := hid hX5
 clear hX4 hX5 x4s x3' x3 m3 b3 s3 z3 q3 q0 HX0 HX2
 generalize w3.setCell ⟨w.heap.size + 1, 3, none⟩ (.string ⟨p.value.toArray⟩) = w4 at x4 m4 b4 ⊢
 have ks := same_any p ⟨6, 0, p.typ, p.value, [], [], []⟩ u (.slice none 0 0) w4 (HU.out.below b4) (⟨none, 0, rfl, Nat.le_refl _, fun h => absurd rfl h⟩) (by omega) (by simp; try omega)
 rw [HP.out, HX4.out] at ks
 have hAll : OK = (sameB p ⟨6, 0, p.typ, p.value, [], [], []⟩ && isTyB p.typ) := by rw [← HOK.out]; simp [shapeB, sameB, hop, Bool.and_assoc]
 obtain ⟨B, hB⟩ : ∃ B, sameB p ⟨6, 0, p.typ, p.value, [], [], []⟩ = B := ⟨_, rfl⟩
 rw [hB] at ks hAll
 have HALL := hid hAll
 clear hAll hB
 go_wp2_with (first | (refine wpList_loadRow rfl 60 (.tmp 1) rfl w.heap.size 60 _ (0, 0) (by rfl) m4 _ Tryz.underlying60 rfl (by rw [HP2.out]; rfl) ?_) | (refine wpList_loadRow rfl 60 (.tmp 3) rfl (w.heap.size + 1) 60 _ (0, 0) (by rfl) x4 _ Tryz.underlying60 rfl (by rw [HX5.out]; rfl) ?_))
 refine Calls.mono ks ?_
 rintro e w20 ⟨rfl, hb⟩
 have m20 := (hb.block _ (gl m4)).trans m4
 have b20 := b4.trans (hb.mono b4.size)
 clear ks hb m4 x4 b4
 cases B
 ·go_wp2_with fail
  go_ret
  exact ⟨by rw [HALL.out]; rfl, b20⟩
 ·have q2 : w20.cell? ⟨w.heap.size, 2, none⟩ = some (.string ⟨p.typ.toArray⟩) := (cell_of_heap m20 2).trans (by rw [← HP.out]; rfl)
  have ki := IsType_any p.typ w20 (by omega) (HE.out.below b20)
  go_wp2_with fail
  refine Calls.mono ki ?_
  rintro e w21 ⟨rfl, hb⟩
  have b21 := b20.trans (hb.mono b20.size)
  clear ki hb b20 q2 m20
  go_wp2_with fail
  go_ret
  exact ⟨by rw [HALL.out]; simp, b21⟩
set_option maxRecDepth 100000 in
set_option maxHeartbeats 4000000 in
theorem shape_8 (p : Fl) (u : Value) (w : World) (hu : StrsM w u p.any) (hok : p.ok) (hE : Env w) (hop : p.op = 8) :
  Calls Tryz.prog 164 #[.agg (p.row u)] w fun e w' => e = .returned (.bool (shapeB p)) ∧ Below w.heap.size w w' := by
 obtain ⟨OK, hOK⟩ : ∃ b, shapeB p = b := ⟨_, rfl⟩
 rw [hOK]
 have HOK := hid hOK
 clear hOK
 obtain ⟨P, hP⟩ : ∃ P, p.row u = P := ⟨_, rfl⟩
 rw [hP]
 have hP2 : P.size = 7 := by rw [← hP]; rfl
 have HP := hid hP
 have HP2 := hid hP2
 clear hP hP2
 obtain ⟨k1, k2, k3, k4, k5, k6⟩ := hok
 have HK6 := hid k6
 have HE := hid hE
 have HU := hid hu
 clear hu hE k6
 obtain ⟨X0, hX0⟩ : ∃ X, Fl.row ⟨8, 0, p.typ, [], [], [], []⟩ (.slice none 0 0) = X := ⟨_, rfl⟩
 have hX1 : (#[.int .i64 8, .int .i64 0, .string ⟨p.typ.toArray⟩, .string ⟨#[]⟩, .string ⟨#[]⟩, .string ⟨#[]⟩, .slice none 0 0] : Array Value) = X0 := hX0
 have hX2 : X0.size = 7 := by rw [← hX0]; rfl
 have hX3 : X0.all (·.oneCell') = true := by rw [← hX0]; simp [Fl.row, Value.oneCell']
 have HX0 := hid hX0
 have HX1 := hid hX1
 have HX2 := hid hX2
 have HX3 := hid hX3
 clear hX0 hX1 hX2 hX3
 have b1 : Below w.heap.size w (w.alloc (.cells P 60)) := (Below.refl _ _).alloc (Nat.le_refl _) _
 have m1 : (w.alloc (.cells P 60)).heap[w.heap.size]? = some (.cells P 60 (0, 0)) := alloc_at _ _ _ rfl
 have hs1 : (w.alloc (.cells P 60)).heap.size = w.heap.size + 1 := by simp
 have HS1 := hid hs1
 clear hs1
 go_enter Tryz.func164, Tryz.ntmps164
 go_upto_region 1 with fail
 generalize w.alloc (.cells P 60) = w1 at b1 m1 HS1 ⊢
 have q0 : w1.cell? ⟨w.heap.size, 0, none⟩ = some (.int .i64 8) := (cell_of_heap m1 0).trans (by rw [← HP.out]; simp [Fl.row, hop])
 have q2 : w1.cell? ⟨w.heap.size, 2, none⟩ = some (.string ⟨p.typ.toArray⟩) := (cell_of_heap m1 2).trans (by rw [← HP.out]; rfl)
 refine wp_region_list ?_
 iterate 4 (refine wpList_plain rfl fun K hK => ?_; go_simp; refine hK _ _ ?_; clear hK K)
 refine wpList_plain rfl fun K hK => ?_
 go_simp
 rw [HX1.out]
 refine hK _ _ ?_; clear hK K
 refine wpList_plain rfl fun K hK => ?_; go_simp; refine hK _ _ ?_; clear hK K
 clear q0 q2
 have b2 := b1.trans ((Below.refl w1.heap.size w1).alloc (Nat.le_refl _) (.cells Zf 60) |>.mono b1.size)
 have m2 := (alloc_old w1 (.cells Zf 60) w.heap.size (gl m1)).trans m1
 have x2 : (w1.alloc (.cells Zf 60)).heap[w.heap.size + 1]? = some (.cells Zf 60 (0, 0)) := alloc_at _ _ _ (by rw [HS1.out])
 rw [HS1.out]
 clear b1 m1
 generalize w1.alloc (.cells Zf 60) = w2 at b2 m2 x2 ⊢
 refine wpList_storeRow rfl 60 (.tmp 3) (.tmp 8) rfl (w.heap.size + 1) 60 _ X0 (by rfl) (by rfl) x2 (by rw [HX2.out]; rfl) (by rw [HX2.out]; rfl) HX3.out ?_
 have b3 := below_row b2 (g := w.heap.size + 1) (by omega) X0
 have m3 := (setRow_other w2 (w.heap.size + 1) w.heap.size X0 (by omega)).trans m2
 have x3 := setRow_heap w2 (w.heap.size + 1) _ X0 _ _ x2
 clear b2 m2 x2 HX1 HX3 HS1
 generalize w2.setRow (w.heap.size + 1) X0 = w3 at b3 m3 x3 ⊢
 have q0 : w3.cell? ⟨w.heap.size, 0, none⟩ = some (.int .i64 8) := (cell_of_heap m3 0).trans (by rw [← HP.out]; simp [Fl.row, hop])
 go_simp
 have q3 : w3.cell? ⟨w.heap.size, 3, none⟩ = some (.string ⟨p.value.toArray⟩) := (cell_of_heap m3 3).trans (by rw [← HP.out]; rfl)
 have x3' : w3.heap[w.heap.size + 1]? = some (.cells (Fl.row ⟨8, 0, p.typ, [], [], [], []⟩ (.slice none 0 0)) 60 (0, 0)) := by rw [HX0.out]; exact x3
 have s3 : w3.cell? ⟨w.heap.size + 1, 3, none⟩ = some (.string ⟨#[]⟩) := (cell_of_heap x3' 3).trans rfl
 have z3 := Lib.frozen_of_heap x3' 3
 go_upto_region 19 with fail
 have x4s : (w3.setCell ⟨w.heap.size + 1, 3, none⟩ (.string ⟨p.value.toArray⟩)).heap[w.heap.size + 1]? = some (.cells (Fl.row ⟨8, 0, p.typ, p.value, [], [], []⟩ (.slice none 0 0)) 60 (0, 0)) := setCell_at (i := 3) (u := .string ⟨p.value.toArray⟩) x3'
 have m4 := (Below.heap_setCell w3 ⟨w.heap.size + 1, 3, none⟩ (.string ⟨p.value.toArray⟩) w.heap.size (by show w.heap.size ≠ w.heap.size + 1; omega)).trans m3
 have b4 := b3.setCell (p := ⟨w.heap.size + 1, 3, none⟩) (by show w.heap.size ≤ w.heap.size + 1; omega) (.string ⟨p.value.toArray⟩)
 obtain ⟨X4, hX4⟩ : ∃ X, Fl.row ⟨8, 0, p.typ, p.value, [], [], []⟩ (.slice none 0 0) = X := ⟨_, rfl⟩
 have x4 : (w3.setCell ⟨w.heap.size + 1, 3, none⟩ (.string ⟨p.value.toArray⟩)).heap[w.heap.size + 1]? = some (.cells X4 60 (0, 0)) := by rw [← hX4]; exact x4s
 have hX5 : X4.size = 7 := by rw [← hX4]; rfl
 have HX4 := hid hX4
 have HX5 := hid hX5
 clear hX4 hX5 x4s x3' x3 m3 b3 s3 z3 q3 q0 HX0 HX2
 generalize w3.setCell ⟨w.heap.size + 1, 3, none⟩ (.string ⟨p.value.toArray⟩) = w4 at x4 m4 b4 ⊢
 have ks := same_any p ⟨8, 0, p.typ, p.value, [], [], []⟩ u (.slice none 0 0) w4 (HU.out.below b4) (⟨none, 0, rfl, Nat.le_refl _, fun h => absurd rfl h⟩) (by omega) (by simp; try omega)
 rw [HP.out, HX4.out] at ks
 have hAll : OK = (sameB p ⟨8, 0, p.typ, p.value, [], [], []⟩ && isTyB p.typ) := by rw [← HOK.out]; simp [shapeB, sameB, hop, Bool.and_assoc]
 obtain ⟨B, hB⟩ : ∃ B, sameB p ⟨8, 0, p.typ, p.value, [], [], []⟩ = B := ⟨_, rfl⟩
 rw [hB] at ks hAll
 have HALL := hid hAll
 clear hAll hB
 go_wp2_with (first | (refine wpList_loadRow rfl 60 (.tmp 1) rfl w.heap.size 60 _ (0, 0) (by rfl) m4 _ Tryz.underlying60 rfl (by rw [HP2.out]; rfl) ?_) | (refine wpList_loadRow rfl 60 (.tmp 3) rfl (w.heap.size + 1) 60 _ (0, 0) (by rfl) x4 _ Tryz.underlying60 rfl (by rw [HX5.out]; rfl) ?_))
 refine Calls.mono ks ?_
 rintro e w20 ⟨rfl, hb⟩
 have m20 := (hb.block _ (gl m4)).trans m4
 have b20 := b4.trans (hb.mono b4.size)
 clear ks hb m4 x4 b4
 cases B
 ·go_wp2_with fail
  go_ret
  exact ⟨by rw [HALL.out]; rfl, b20⟩
 ·have q2 : w20.cell? ⟨w.heap.size, 2, none⟩ = some (.string ⟨p.typ.toArray⟩) := (cell_of_heap m20 2).trans (by rw [← HP.out]; rfl)
  have ki := IsType_any p.typ w20 (by omega) (HE.out.below b20)
  go_wp2_with fail
  refine Calls.mono ki ?_
  rintro e w21 ⟨rfl, hb⟩
  have b21 := b20.trans (hb.mono b20.size)
  clear ki hb b20 q2 m20
  go_wp2_with fail
  go_ret
  exact ⟨by rw [HALL.out]; simp, b21⟩
set_option maxRecDepth 100000 in
set_option maxHeartbeats 4000000 in
theorem shape_7 (p : Fl) (u : Value) (w : World) (hu : StrsM w u p.any) (hok : p.ok) (hE : Env w) (hop : p.op = 7) :
  Calls Tryz.prog 164 #[.agg (p.row u)] w fun e w' => e = .returned (.bool (shapeB p)) ∧ Below w.heap.size w w' := by
 obtain ⟨OK, hOK⟩ : ∃ b, shapeB p = b := ⟨_, rfl⟩
 rw [hOK]
 have HOK := hid hOK
 clear hOK
 obtain ⟨P, hP⟩ : ∃ P, p.row u = P := ⟨_, rfl⟩
 rw [hP]
 have hP2 : P.size = 7 := by rw [← hP]; rfl
 have HP := hid hP
 have HP2 := hid hP2
 clear hP hP2
 obtain ⟨k1, k2, k3, k4, k5, k6⟩ := hok
 have HK6 := hid k6
 have HE := hid hE
 have HU := hid hu
 clear hu hE k6
 obtain ⟨X0, hX0⟩ : ∃ X, Fl.row ⟨7, 0, p.typ, [], [], [], []⟩ (.slice none 0 0) = X := ⟨_, rfl⟩
 have hX1 : (#[.int .i64 7, .int .i64 0, .string ⟨p.typ.toArray⟩, .string ⟨#[]⟩, .string ⟨#[]⟩, .string ⟨#[]⟩, .slice none 0 0] : Array Value) = X0 := hX0
 have hX2 : X0.size = 7 := by rw [← hX0]; rfl
 have hX3 : X0.all (·.oneCell') = true := by rw [← hX0]; simp [Fl.row, Value.oneCell']
 have HX0 := hid hX0
 have HX1 := hid hX1
 have HX2 := hid hX2
 have HX3 := hid hX3
 clear hX0 hX1 hX2 hX3
 have b1 : Below w.heap.size w (w.alloc (.cells P 60)) := (Below.refl _ _).alloc (Nat.le_refl _) _
 have m1 : (w.alloc (.cells P 60)).heap[w.heap.size]? = some (.cells P 60 (0, 0)) := alloc_at _ _ _ rfl
 have hs1 : (w.alloc (.cells P 60)).heap.size = w.heap.size + 1 := by simp
 have HS1 := hid hs1
 clear hs1
 go_enter Tryz.func164, Tryz.ntmps164
 go_upto_region 1 with fail
 generalize w.alloc (.cells P 60) = w1 at b1 m1 HS1 ⊢
 have q0 : w1.cell? ⟨w.heap.size, 0, none⟩ = some (.int .i64 7) := (cell_of_heap m1 0).trans (by rw [← HP.out]; simp [Fl.row, hop])
 have q2 : w1.cell? ⟨w.heap.size, 2, none⟩ = some (.string ⟨p.typ.toArray⟩) := (cell_of_heap m1 2).trans (by rw [← HP.out]; rfl)
 refine wp_region_list ?_
 iterate 4 (refine wpList_plain rfl fun K hK => ?_; go_simp; refine hK _ _ ?_; clear hK K)
 refine wpList_plain rfl fun K hK => ?_
 go_simp
 rw [HX1.out]
 refine hK _ _ ?_; clear hK K
 refine wpList_plain rfl fun K hK => ?_; go_simp; refine hK _ _ ?_; clear hK K
 clear q0 q2
 have b2 := b1.trans ((Below.refl w1.heap.size w1).alloc (Nat.le_refl _) (.cells Zf 60) |>.mono b1.size)
 have m2 := (alloc_old w1 (.cells Zf 60) w.heap.size (gl m1)).trans m1
 have x2 : (w1.alloc (.cells Zf 60)).heap[w.heap.size + 1]? = some (.cells Zf 60 (0, 0)) := alloc_at _ _ _ (by rw [HS1.out])
 rw [HS1.out]
 clear b1 m1
 generalize w1.alloc (.cells Zf 60) = w2 at b2 m2 x2 ⊢
 refine wpList_storeRow rfl 60 (.tmp 3) (.tmp 8) rfl (w.heap.size + 1) 60 _ X0 (by rfl) (by rfl) x2 (by rw [HX2.out]; rfl) (by rw [HX2.out]; rfl) HX3.out ?_
 have b3 := below_row b2 (g := w.heap.size + 1) (by omega) X0
 have m3 := (setRow_other w2 (w.heap.size + 1) w.heap.size X0 (by omega)).trans m2
 have x3 := setRow_heap w2 (w.heap.size + 1) _ X0 _ _ x2
 clear b2 m2 x2 HX1 HX3 HS1
 generalize w2.setRow (w.heap.size + 1) X0 = w3 at b3 m3 x3 ⊢
 have q0 : w3.cell? ⟨w.heap.size, 0, none⟩ = some (.int .i64 7) := (cell_of_heap m3 0).trans (by rw [← HP.out]; simp [Fl.row, hop])
 go_simp
 go_upto_region 19 with fail
 clear q0
 have ks := same_any p ⟨7, 0, p.typ, [], [], [], []⟩ u (.slice none 0 0) w3 (HU.out.below b3) (⟨none, 0, rfl, Nat.le_refl _, fun h => absurd rfl h⟩) (by omega) (by simp; try omega)
 rw [HP.out, HX0.out] at ks
 have hAll : OK = (sameB p ⟨7, 0, p.typ, [], [], [], []⟩ && isTyB p.typ) := by rw [← HOK.out]; simp [shapeB, sameB, hop, Bool.and_assoc]
 obtain ⟨B, hB⟩ : ∃ B, sameB p ⟨7, 0, p.typ, [], [], [], []⟩ = B := ⟨_, rfl⟩
 rw [hB] at ks hAll
 have HALL := hid hAll
 clear hAll hB
 go_wp2_with (first | (refine wpList_loadRow rfl 60 (.tmp 1) rfl w.heap.size 60 _ (0, 0) (by rfl) m3 _ Tryz.underlying60 rfl (by rw [HP2.out]; rfl) ?_) | (refine wpList_loadRow rfl 60 (.tmp 3) rfl (w.heap.size + 1) 60 _ (0, 0) (by rfl) x3 _ Tryz.underlying60 rfl (by rw [HX2.out]; rfl) ?_))
 refine Calls.mono ks ?_
 rintro e w20 ⟨rfl, hb⟩
 have m20 := (hb.block _ (gl m3)).trans m3
 have b20 := b3.trans (hb.mono b3.size)
 clear ks hb m3 x3 b3
 cases B
 ·go_wp2_with fail
  go_ret
  exact ⟨by rw [HALL.out]; rfl, b20⟩
 ·have q2 : w20.cell? ⟨w.heap.size, 2, none⟩ = some (.string ⟨p.typ.toArray⟩) := (cell_of_heap m20 2).trans (by rw [← HP.out]; rfl)
  have ki := IsType_any p.typ w20 (by omega) (HE.out.below b20)
  go_wp2_with fail
  refine Calls.mono ki ?_
  rintro e w21 ⟨rfl, hb⟩
  have b21 := b20.trans (hb.mono b20.size)
  clear ki hb b20 q2 m20
  go_wp2_with fail
  go_ret
  exact ⟨by rw [HALL.out]; simp, b21⟩
set_option maxRecDepth 100000 in
set_option maxHeartbeats 4000000 in
theorem shape_other (p : Fl) (u : Value) (w : World) (hu : StrsM w u p.any) (hok : p.ok) (hE : Env w) (hn : p.op ∉ ([0, 1, 2, 3, 4, 5, 6, 7, 8] : List Int)) :
  Calls Tryz.prog 164 #[.agg (p.row u)] w fun e w' => e = .returned (.bool (shapeB p)) ∧ Below w.heap.size w w' := by
 obtain ⟨OK, hOK⟩ : ∃ b, shapeB p = b := ⟨_, rfl⟩
 rw [hOK]
 have HOK := hid hOK
 clear hOK
 obtain ⟨P, hP⟩ : ∃ P, p.row u = P := ⟨_, rfl⟩
 rw [hP]
 have hP2 : P.size = 7 := by rw [← hP]; rfl
 have HP := hid hP
 have HP2 := hid hP2
 clear hP hP2
 obtain ⟨k1, k2, k3, k4, k5, k6⟩ := hok
 have HK6 := hid k6
 have HE := hid hE
 have HU := hid hu
 clear hu hE k6
 obtain ⟨X0, hX0⟩ : ∃ X, Fl.row ⟨p.op, 0, p.typ, [], [], [], []⟩ (.slice none 0 0) = X := ⟨_, rfl⟩
 have hX1 : (#[.int .i64 p.op, .int .i64 0, .string ⟨p.typ.toArray⟩, .string ⟨#[]⟩, .string ⟨#[]⟩, .string ⟨#[]⟩, .slice none 0 0] : Array Value) = X0 := hX0
 have hX2 : X0.size = 7 := by rw [← hX0]; rfl
 have hX3 : X0.all (·.oneCell') = true := by rw [← hX0]; simp [Fl.row, Value.oneCell']
 have HX0 := hid hX0
 have HX1 := hid hX1
 have HX2 := hid hX2
 have HX3 := hid hX3
 clear hX0 hX1 hX2 hX3
 have b1 : Below w.heap.size w (w.alloc (.cells P 60)) := (Below.refl _ _).alloc (Nat.le_refl _) _
 have m1 : (w.alloc (.cells P 60)).heap[w.heap.size]? = some (.cells P 60 (0, 0)) := alloc_at _ _ _ rfl
 have hs1 : (w.alloc (.cells P 60)).heap.size = w.heap.size + 1 := by simp
 have HS1 := hid hs1
 clear hs1
 go_enter Tryz.func164, Tryz.ntmps164
 go_upto_region 1 with fail
 generalize w.alloc (.cells P 60) = w1 at b1 m1 HS1 ⊢
 have q0 : w1.cell? ⟨w.heap.size, 0, none⟩ = some (.int .i64 p.op) := (cell_of_heap m1 0).trans (by rw [← HP.out]; rfl)
 have q2 : w1.cell? ⟨w.heap.size, 2, none⟩ = some (.string ⟨p.typ.toArray⟩) := (cell_of_heap m1 2).trans (by rw [← HP.out]; rfl)
 refine wp_region_list ?_
 iterate 4 (refine wpList_plain rfl fun K hK => ?_; go_simp; refine hK _ _ ?_; clear hK K)
 refine wpList_plain rfl fun K hK => ?_
 go_simp
 rw [HX1.out]
 refine hK _ _ ?_; clear hK K
 refine wpList_plain rfl fun K hK => ?_; go_simp; refine hK _ _ ?_; clear hK K
 clear q0 q2
 have b2 := b1.trans ((Below.refl w1.heap.size w1).alloc (Nat.le_refl _) (.cells Zf 60) |>.mono b1.size)
 have m2 := (alloc_old w1 (.cells Zf 60) w.heap.size (gl m1)).trans m1
 have x2 : (w1.alloc (.cells Zf 60)).heap[w.heap.size + 1]? = some (.cells Zf 60 (0, 0)) := alloc_at _ _ _ (by rw [HS1.out])
 rw [HS1.out]
 clear b1 m1
 generalize w1.alloc (.cells Zf 60) = w2 at b2 m2 x2 ⊢
 refine wpList_storeRow rfl 60 (.tmp 3) (.tmp 8) rfl (w.heap.size + 1) 60 _ X0 (by rfl) (by rfl) x2 (by rw [HX2.out]; rfl) (by rw [HX2.out]; rfl) HX3.out ?_
 have b3 := below_row b2 (g := w.heap.size + 1) (by omega) X0
 have m3 := (setRow_other w2 (w.heap.size + 1) w.heap.size X0 (by omega)).trans m2
 have x3 := setRow_heap w2 (w.heap.size + 1) _ X0 _ _ x2
 clear b2 m2 x2 HX1 HX3 HS1
 generalize w2.setRow (w.heap.size + 1) X0 = w3 at b3 m3 x3 ⊢
 have q0 : w3.cell? ⟨w.heap.size, 0, none⟩ = some (.int .i64 p.op) := (cell_of_heap m3 0).trans (by rw [← HP.out]; rfl)
 go_simp
 have f0 : (p.op == 0) = false := beq_false_of_ne (fun h => by rw [h] at hn; exact hn (by decide))
 have f1 : (p.op == 1) = false := beq_false_of_ne (fun h => by rw [h] at hn; exact hn (by decide))
 have f2 : (p.op == 2) = false := beq_false_of_ne (fun h => by rw [h] at hn; exact hn (by decide))
 have f3 : (p.op == 3) = false := beq_false_of_ne (fun h => by rw [h] at hn; exact hn (by decide))
 have f4 : (p.op == 4) = false := beq_false_of_ne (fun h => by rw [h] at hn; exact hn (by decide))
 have f5 : (p.op == 5) = false := beq_false_of_ne (fun h => by rw [h] at hn; exact hn (by decide))
 have f6 : (p.op == 6) = false := beq_false_of_ne (fun h => by rw [h] at hn; exact hn (by decide))
 have f7 : (p.op == 7) = false := beq_false_of_ne (fun h => by rw [h] at hn; exact hn (by decide))
 have f8 : (p.op == 8) = false := beq_false_of_ne (fun h => by rw [h] at hn; exact hn (by decide))
 have hO : OK = false := by
  rw [← HOK.out]
  simp only [List.mem_cons, List.not_mem_nil, or_false, not_or] at hn
  simp [shapeB, hn]
 have HO := hid hO
 clear hO hn
 go_wp2_with fail
 go_ret
 exact ⟨by rw [HO.out]; rfl, b3⟩
end Go.Proofs.YthjaiigijbjloaaGreatDoor
