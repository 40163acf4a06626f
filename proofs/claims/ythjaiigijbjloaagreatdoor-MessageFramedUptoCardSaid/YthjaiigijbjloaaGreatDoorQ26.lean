/- FsD, FsE. -/
import Derived.Test.YthjaiigijbjloaaGreatDoorQ25
namespace Go.Proofs.YthjaiigijbjloaaGreatDoor
open Go.RowKit Go.Lib
set_option maxRecDepth 100000 in
set_option maxHeartbeats 4000000 in
theorem shape_4 (p : Fl) (u : Value) (w : World) (hu : StrsM w u p.any) (hok : p.ok) (hE : Env w) (hop : p.op = 4) :
  Calls Tryz.prog 164 #[.agg (p.row u)] w fun e w' => e = .returned (.bool (shapeB p)) ∧ Below w.heap.size w w' := by
 obtain ⟨OK, hOK⟩ : ∃ b, shapeB p = b := ⟨_, rfl⟩
 rw [hOK]
 have HOK := hid hOK
 clear hOK
 obtain ⟨P, hP⟩ : ∃ P, p.row u = P := ⟨_, rfl⟩
 rw [hP]
 have hP2 : P.size = 7 := by rw [← hP]; rfl
 have HP := hid hP
 have HP2 := hid hP2
 clear hP hP2
 obtain ⟨k1, k2, k3, k4, k5, k6⟩ := hok
 have HK6 := hid k6
 have HE := hid hE
 have HU := hid hu
 clear hu hE k6
 obtain ⟨X0, hX0⟩ : ∃ X, Fl.row ⟨4, 0, p.typ, [], [], [], []⟩ (.slice none 0 0) = X := ⟨_, rfl⟩
 have hX1 : (#[.int .i64 4, .int .i64 0, .string ⟨p.typ.toArray⟩, .string ⟨#[]⟩, .string ⟨#[]⟩, .string ⟨#[]⟩, .slice none 0 0] : Array Value) = X0 := hX0
 have hX2 : X0.size = 7 := by rw [← hX0]; rfl
 have hX3 : X0.all (·.oneCell') = true := by rw [← hX0]; simp [Fl.row, Value.oneCell']
 have HX0 := hid hX0
 have HX1 := hid hX1
 have HX2 := hid hX2
 have HX3 := hid hX3
 clear hX0 hX1 hX2 hX3
 have b1 : Below w.heap.size w (w.alloc (.cells P 60)) := (Below.refl _ _).alloc (Nat.le_refl _) _
 have m1 : (w.alloc (.cells P 60)).heap[w.heap.size]? = some (.cells P 60 (0, 0)) := alloc_at _ _ _ rfl
 have hs1 : (w.alloc (.cells P 60)).heap.size = w.heap.size + 1 := by simp
 have HS1 := hid hs1
 clear hs1
 go_enter Tryz.func164, Tryz.ntmps164
 go_upto_region 1 with fail
 generalize w.alloc (.cells P 60) = w1 at b1 m1 HS1 ⊢
 have q0 : w1.cell? ⟨w.heap.size, 0, none⟩ = some (.int .i64 4) := (cell_of_heap m1 0).trans (by rw [← HP.out]; simp [Fl.row, hop])
 have q2 : w1.cell? ⟨w.heap.size, 2, none⟩ = some (.string ⟨p.typ.toArray⟩) := (cell_of_heap m1 2).trans (by rw [← HP.out]; rfl)
 refine wp_region_list ?_
 iterate 4 (refine wpList_plain rfl fun K hK => ?_; go_simp; refine hK _ _ ?_; clear hK K)
 refine wpList_plain rfl fun K hK => ?_
 go_simp
 rw [HX1.out]
 refine hK _ _ ?_; clear hK K
 refine wpList_plain rfl fun K hK => ?_; go_simp; refine hK _ _ ?_; clear hK K
 clear q0 q2
 have b2 := b1.trans ((Below.refl w1.heap.size w1).alloc (Nat.le_refl _) (.cells Zf 60) |>.mono b1.size)
 have m2 := (alloc_old w1 (.cells Zf 60) w.heap.size (gl m1)).trans m1
 have x2 : (w1.alloc (.cells Zf 60)).heap[w.heap.size + 1]? = some (.cells Zf 60 (0, 0)) := alloc_at _ _ _ (by rw [HS1.out])
 rw [HS1.out]
 clear b1 m1
 generalize w1.alloc (.cells Zf 60) = w2 at b2 m2 x2 ⊢
 refine wpList_storeRow rfl 60 (.tmp 3) (.tmp 8) rfl (w.heap.size + 1) 60 _ X0 (by rfl) (by rfl) x2 (by rw [HX2.out]; rfl) (by rw [HX2.out]; rfl) HX3.out ?_
 have b3 := below_row b2 (g := w.heap.size + 1) (by omega) X0
 have m3 := (setRow_other w2 (w.heap.size + 1) w.heap.size X0 (by omega)).trans m2
 have x3 := setRow_heap w2 (w.heap.size + 1) _ X0 _ _ x2
 clear b2 m2 x2 HX1 HX3 HS1
 generalize w2.setRow (w.heap.size + 1) X0 = w3 at b3 m3 x3 ⊢
 have q0 : w3.cell? ⟨w.heap.size, 0, none⟩ = some (.int .i64 4) := (cell_of_heap m3 0).trans (by rw [← HP.out]; simp [Fl.row, hop])
 go_simp
 go_upto_region 15 with fail
 clear q0
 have T : w3.drew.heap[w.heap.size]? = some (.cells P 60 (0, 0)) := m3
 have D : Below w.heap.size w w3.drew := b3.drew
 have Y0 : w3.drew.heap[w.heap.size + 1]? = some (.cells (Fl.row ⟨4, 0, p.typ, [], [], [], []⟩ (.slice none 0 0)) 60 (0, 0)) := by rw [HX0.out]; exact x3
 obtain ⟨au, cu, hus⟩ : ∃ a c, u = .slice a p.any.length c := by obtain ⟨a, c, h, _, _⟩ := HU.out; exact ⟨a, c, h⟩
 refine wp_region_held (S := fun w' => w'.heap[w.heap.size]? = some (.cells P 60 (0, 0))) (by kernel_rfl) ?_
 change wpAnyH _ _ _ _ _ _ _ _ w3.drew
 clear m3 b3 x3 HX0 HX2
 generalize w3.drew = wr0 at T D Y0 ⊢
 refine tk 0 (.pointer (some ⟨w.heap.size, 4, none⟩)) rfl (fun w' hS => by go_simp) T (fun K hK => ?_); go_simp; refine hK _ _ ?_; clear hK K
 refine tk 1 (.string ⟨p.init.toArray⟩) rfl (fun w' hS => by have q := (cell_of_heap hS 4).trans (show _ = some (.string ⟨p.init.toArray⟩) from by rw [← HP.out]; rfl); go_simp) T (fun K hK => ?_); go_simp; refine hK _ _ ?_; clear hK K
 refine tk 2 (.pointer (some ⟨w.heap.size, 6, none⟩)) rfl (fun w' hS => by go_simp) T (fun K hK => ?_); go_simp; refine hK _ _ ?_; clear hK K
 refine tk 3 (.slice au p.any.length cu) rfl (fun w' hS => by have q := (cell_of_heap hS 6).trans (show _ = some (.slice au p.any.length cu) from by rw [← HP.out, ← hus]; rfl); go_simp) T (fun K hK => ?_); go_simp; refine hK _ _ ?_; clear hK K
 refine tk 4 (.pointer (some ⟨w.heap.size, 5, none⟩)) rfl (fun w' hS => by go_simp) T (fun K hK => ?_); go_simp; refine hK _ _ ?_; clear hK K
 refine tk 5 (.string ⟨p.final.toArray⟩) rfl (fun w' hS => by have q := (cell_of_heap hS 5).trans (show _ = some (.string ⟨p.final.toArray⟩) from by rw [← HP.out]; rfl); go_simp) T (fun K hK => ?_); go_simp; refine hK _ _ ?_; clear hK K
 refine tk 6 (.pointer (some ⟨w.heap.size + 1, 4, none⟩)) rfl (fun w' hS => by go_simp) T (fun K hK => ?_); go_simp; refine hK _ _ ?_; clear hK K
 have s : wr0.cell? ⟨w.heap.size + 1, 4, none⟩ = some (.string ⟨#[]⟩) := (cell_of_heap Y0 4).trans rfl
 have z := Lib.frozen_of_heap Y0 4
 have Y1 : (wr0.setCell ⟨w.heap.size + 1, 4, none⟩ (.string ⟨p.init.toArray⟩)).heap[w.heap.size + 1]? = some (.cells (Fl.row ⟨4, 0, p.typ, [], p.init, [], []⟩ (.slice none 0 0)) 60 (0, 0)) := setCell_at (i := 4) (u := .string ⟨p.init.toArray⟩) Y0
 have T' : (wr0.setCell ⟨w.heap.size + 1, 4, none⟩ (.string ⟨p.init.toArray⟩)).heap[w.heap.size]? = some (.cells P 60 (0, 0)) := (Below.heap_setCell wr0 ⟨w.heap.size + 1, 4, none⟩ _ w.heap.size (by show w.heap.size ≠ w.heap.size + 1; omega)).trans T
 have D' := D.setCell (p := ⟨w.heap.size + 1, 4, none⟩) (by show w.heap.size ≤ w.heap.size + 1; omega) (.string ⟨p.init.toArray⟩)
 refine anyH_one 7 (by kernel_rfl) rfl (by rfl) (fun K hK => ?_); go_simp; refine hK _ _ T' ?_; clear hK K
 clear s z Y0 T D
 have T := T'
 have D := D'
 clear T' D'
 generalize wr0.setCell ⟨w.heap.size + 1, 4, none⟩ (.string ⟨p.init.toArray⟩) = wr1 at T D Y1 ⊢
 refine tk 8 (.pointer (some ⟨w.heap.size + 1, 6, none⟩)) rfl (fun w' hS => by go_simp) T (fun K hK => ?_); go_simp; refine hK _ _ ?_; clear hK K
 have s : wr1.cell? ⟨w.heap.size + 1, 6, none⟩ = some (.slice none 0 0) := (cell_of_heap Y1 6).trans rfl
 have z := Lib.frozen_of_heap Y1 6
 have Y2 : (wr1.setCell ⟨w.heap.size + 1, 6, none⟩ (.slice au p.any.length cu)).heap[w.heap.size + 1]? = some (.cells (Fl.row ⟨4, 0, p.typ, [], p.init, [], p.any⟩ (.slice au p.any.length cu)) 60 (0, 0)) := setCell_at (i := 6) (u := .slice au p.any.length cu) Y1
 have T' : (wr1.setCell ⟨w.heap.size + 1, 6, none⟩ (.slice au p.any.length cu)).heap[w.heap.size]? = some (.cells P 60 (0, 0)) := (Below.heap_setCell wr1 ⟨w.heap.size + 1, 6, none⟩ _ w.heap.size (by show w.heap.size ≠ w.heap.size + 1; omega)).trans T
 have D' := D.setCell (p := ⟨w.heap.size + 1, 6, none⟩) (by show w.heap.size ≤ w.heap.size + 1; omega) (.slice au p.any.length cu)
 refine anyH_one 9 (by kernel_rfl) rfl (by rfl) (fun K hK => ?_); go_simp; refine hK _ _ T' ?_; clear hK K
 clear s z Y1 T D
 have T := T'
 have D := D'
 clear T' D'
 generalize wr1.setCell ⟨w.heap.size + 1, 6, none⟩ (.slice au p.any.length cu) = wr2 at T D Y2 ⊢
 refine tk 10 (.pointer (some ⟨w.heap.size + 1, 5, none⟩)) rfl (fun w' hS => by go_simp) T (fun K hK => ?_); go_simp; refine hK _ _ ?_; clear hK K
 have s : wr2.cell? ⟨w.heap.size + 1, 5, none⟩ = some (.string ⟨#[]⟩) := (cell_of_heap Y2 5).trans rfl
 have z := Lib.frozen_of_heap Y2 5
 have Y3 : (wr2.setCell ⟨w.heap.size + 1, 5, none⟩ (.string ⟨p.final.toArray⟩)).heap[w.heap.size + 1]? = some (.cells (Fl.row ⟨4, 0, p.typ, [], p.init, p.final, p.any⟩ (.slice au p.any.length cu)) 60 (0, 0)) := setCell_at (i := 5) (u := .string ⟨p.final.toArray⟩) Y2
 have T' : (wr2.setCell ⟨w.heap.size + 1, 5, none⟩ (.string ⟨p.final.toArray⟩)).heap[w.heap.size]? = some (.cells P 60 (0, 0)) := (Below.heap_setCell wr2 ⟨w.heap.size + 1, 5, none⟩ _ w.heap.size (by show w.heap.size ≠ w.heap.size + 1; omega)).trans T
 have D' := D.setCell (p := ⟨w.heap.size + 1, 5, none⟩) (by show w.heap.size ≤ w.heap.size + 1; omega) (.string ⟨p.final.toArray⟩)
 refine anyH_one 11 (by kernel_rfl) rfl (by rfl) (fun K hK => ?_); go_simp; refine hK _ _ T' ?_; clear hK K
 clear s z Y2 T D
 have T := T'
 have D := D'
 clear T' D'
 generalize wr2.setCell ⟨w.heap.size + 1, 5, none⟩ (.string ⟨p.final.toArray⟩) = wr3 at T D Y3 ⊢
 refine wpAnyH_done (by kernel_rfl) ?_ _
 try simp only [Exit.then]
 refine ‹∀ (a : Act) (w : World), Code.wp _ _ _ a w → _› _ _ ?_
 obtain ⟨X6, hX6⟩ : ∃ X, Fl.row ⟨4, 0, p.typ, [], p.init, p.final, p.any⟩ (.slice au p.any.length cu) = X := ⟨_, rfl⟩
 rw [hX6] at Y3
 have hX7 : X6.size = 7 := by rw [← hX6]; rfl
 have HX6 := hid hX6
 have HX7 := hid hX7
 have HUS := hid hus
 clear hX6 hX7 hus
 have q4 : wr3.cell? ⟨w.heap.size, 4, none⟩ = some (.string ⟨p.init.toArray⟩) := (cell_of_heap T 4).trans (by rw [← HP.out]; rfl)
 have q5 : wr3.cell? ⟨w.heap.size, 5, none⟩ = some (.string ⟨p.final.toArray⟩) := (cell_of_heap T 5).trans (by rw [← HP.out]; rfl)
 have q6 : wr3.cell? ⟨w.heap.size, 6, none⟩ = some (.slice au p.any.length cu) := (cell_of_heap T 6).trans (by rw [← HP.out, ← HUS.out]; rfl)
 have kc := Contains_nil u p.any wr3 (HU.out.below D) (by omega)
 rw [HUS.out] at kc
 obtain ⟨CB, hCB⟩ : ∃ B, p.any.contains [] = B := ⟨_, rfl⟩
 rw [hCB] at kc
 have HCB := hid hCB
 clear hCB
 obtain ⟨BAD, hBAD⟩ : ∃ b, ((p.init.isEmpty && p.final.isEmpty && ((p.any.length : Int) == 0)) || CB) = b := ⟨_, rfl⟩
 have HBAD := hid hBAD
 clear hBAD
 go_upto_region 16 with fail
 go_cut [74] from 56 to 74 (fun s74 wx => s74 = .bool BAD ∧ ShRel w P X6 wx)
 case first =>
  rcases h1 : p.init.isEmpty with _ | _
  ·go_wp2_with fail
   refine Calls.mono kc ?_
   rintro e w9 ⟨rfl, hb⟩
   have hBB : BAD = CB := by rw [← HBAD.out]; simp [h1]
   have HBB := hid hBB
   clear hBB
   go_wp2_with fail
   go_meet
   exact ⟨by rw [HBB.out]; try rfl, (hb.block _ (gl T)).trans T, (hb.block _ (gl Y3)).trans Y3, D.trans (hb.mono D.size)⟩
  rcases h2 : p.final.isEmpty with _ | _
  ·go_wp2_with fail
   refine Calls.mono kc ?_
   rintro e w9 ⟨rfl, hb⟩
   have hBB : BAD = CB := by rw [← HBAD.out]; simp [h1, h2]
   have HBB := hid hBB
   clear hBB
   go_wp2_with fail
   go_meet
   exact ⟨by rw [HBB.out]; try rfl, (hb.block _ (gl T)).trans T, (hb.block _ (gl Y3)).trans Y3, D.trans (hb.mono D.size)⟩
  rcases h3 : ((p.any.length : Int) == 0) with _ | _
  ·go_wp2_with fail
   refine Calls.mono kc ?_
   rintro e w9 ⟨rfl, hb⟩
   have hBB : BAD = CB := by rw [← HBAD.out]; rw [h1, h2, h3]; simp
   have HBB := hid hBB
   clear hBB
   go_wp2_with fail
   go_meet
   exact ⟨by rw [HBB.out]; try rfl, (hb.block _ (gl T)).trans T, (hb.block _ (gl Y3)).trans Y3, D.trans (hb.mono D.size)⟩
  have hBB : BAD = true := by rw [← HBAD.out, h1, h2, h3]; simp
  have HBB := hid hBB
  clear hBB kc
  go_wp2_with fail
  go_meet
  exact ⟨by rw [HBB.out], T, Y3, D⟩
 case rest =>
  obtain ⟨rfl, m9, x9, b9⟩ := hcut
  clear q4 q5 q6 kc T Y3 D
  obtain ⟨w9, hw9⟩ : ∃ w9, wc = w9 := ⟨_, rfl⟩
  rw [hw9] at m9 x9 b9 ⊢
  clear hw9
  cases BAD
  rotate_left
  ·have hO : OK = false := by
    have h := HBAD.out
    rw [← HOK.out]
    rw [← HCB.out] at h
    simp only [Bool.or_eq_true, Bool.and_eq_true, List.isEmpty_iff, beq_iff_eq] at h
    rcases h with ⟨⟨h1, h2⟩, h3⟩ | h
    ·have h4 : p.any = [] := List.length_eq_zero_iff.1 (by omega)
     simp [shapeB, hop, h1, h2, h4]
    ·have h5 : [] ∈ p.any := by simpa using h
     simp [shapeB, hop, h5]
   have HO := hid hO
   clear hO
   go_wp2_with fail
   go_ret
   exact ⟨by rw [HO.out]; rfl, b9⟩
  ·go_upto_region 19 with fail
   have hWhy : shapeB p = (sameB p ⟨4, 0, p.typ, [], p.init, p.final, p.any⟩ && isTyB p.typ) := by
    have h := HBAD.out
    rw [← HCB.out] at h
    simp only [Bool.or_eq_false_iff] at h
    obtain ⟨h1, h2⟩ := h
    have h3 : (decide (p.init = []) && decide (p.final = []) && decide (p.any = [])) = false := by
     rw [← h1]
     cases p.init <;> cases p.final <;> cases p.any <;> simp
     try omega
    simp only [shapeB, hop, h2, h3]
    simp [sameB, hop, Bool.and_assoc]
   have ks := same_any p ⟨4, 0, p.typ, [], p.init, p.final, p.any⟩ u (.slice au p.any.length cu) w9 (HU.out.below b9) (by rw [← HUS.out]; exact HU.out.below b9) (by omega) (by show p.any.length ≤ 1000000000; omega)
   rw [HP.out, HX6.out] at ks
   have hAll : OK = (sameB p ⟨4, 0, p.typ, [], p.init, p.final, p.any⟩ && isTyB p.typ) := by rw [← HOK.out]; exact hWhy
   obtain ⟨B, hB⟩ : ∃ B, sameB p ⟨4, 0, p.typ, [], p.init, p.final, p.any⟩ = B := ⟨_, rfl⟩
   rw [hB] at ks hAll
   have HALL := hid hAll
   clear hAll hB
   go_wp2_with (first | (refine wpList_loadRow rfl 60 (.tmp 1) rfl w.heap.size 60 _ (0, 0) (by rfl) m9 _ Tryz.underlying60 rfl (by rw [HP2.out]; rfl) ?_) | (refine wpList_loadRow rfl 60 (.tmp 3) rfl (w.heap.size + 1) 60 _ (0, 0) (by rfl) x9 _ Tryz.underlying60 rfl (by rw [HX7.out]; rfl) ?_))
   refine Calls.mono ks ?_
   rintro e w20 ⟨rfl, hb⟩
   have m20 := (hb.block _ (gl m9)).trans m9
   have b20 := b9.trans (hb.mono b9.size)
   clear ks hb m9 x9 b9
   cases B
   ·go_wp2_with fail
    go_ret
    exact ⟨by rw [HALL.out]; rfl, b20⟩
   ·have q2 : w20.cell? ⟨w.heap.size, 2, none⟩ = some (.string ⟨p.typ.toArray⟩) := (cell_of_heap m20 2).trans (by rw [← HP.out]; rfl)
    have ki := IsType_any p.typ w20 (by omega) (HE.out.below b20)
    go_wp2_with fail
    refine Calls.mono ki ?_
    rintro e w21 ⟨rfl, hb⟩
    have b21 := b20.trans (hb.mono b20.size)
    clear ki hb b20 q2 m20
    go_wp2_with fail
    go_ret
    exact ⟨by rw [HALL.out]; simp, b21⟩
theorem shape_any (p : Fl) (u : Value) (w : World) (hu : StrsM w u p.any) (hok : p.ok) (hE : Env w) :
  Calls Tryz.prog 164 #[.agg (p.row u)] w fun e w' => e = .returned (.bool (shapeB p)) ∧ Below w.heap.size w w' := by
 by_cases h0 : p.op = 0
 ·exact shape_0 p u w hu hok hE h0
 by_cases h1 : p.op = 1
 ·exact shape_1 p u w hu hok hE h1
 by_cases h2 : p.op = 2
 ·exact shape_2 p u w hu hok hE h2
 by_cases h3 : p.op = 3
 ·exact shape_3 p u w hu hok hE h3
 by_cases h4 : p.op = 4
 ·exact shape_4 p u w hu hok hE h4
 by_cases h5 : p.op = 5
 ·exact shape_5 p u w hu hok hE h5
 by_cases h6 : p.op = 6
 ·exact shape_6 p u w hu hok hE h6
 by_cases h7 : p.op = 7
 ·exact shape_7 p u w hu hok hE h7
 by_cases h8 : p.op = 8
 ·exact shape_8 p u w hu hok hE h8
 exact shape_other p u w hu hok hE (by simp only [List.mem_cons, List.not_mem_nil, or_false, not_or]; exact ⟨h0, h1, h2, h3, h4, h5, h6, h7, h8⟩)
def FlOk (f : List Fl) : Prop := f.length ≤ 100000000 ∧ ∀ p ∈ f, p.ok ∧ p.n ≤ 9223372036854775807
theorem FlOk.tail {p : Fl} {f : List Fl} (h : FlOk (p :: f)) : FlOk f := ⟨by have := h.1; simp at this; omega, fun q hq => h.2 q (by simp [hq])⟩
theorem FlOk.suf {f r : List Fl} (h : FlOk f) (hs : r <:+ f) : FlOk r := ⟨by have := h.1; have := hs.length_le; omega, fun q hq => h.2 q (hs.subset hq)⟩
def WhPost (w : World) (k : Nat) (f : List Fl) (e : Ending) (w' : World) : Prop :=
 (match wholeB k f with
  | some r => ∃ v', e = .returned (.tuple #[v', .bool true]) ∧ FlsM w' v' r
  | none => e = .returned (.tuple #[.slice none 0 0, .bool false])) ∧ Below w.heap.size w w'
theorem WhPost.of_none {w w' : World} {k : Nat} {f : List Fl} (h : wholeB k f = none) (hb : Below w.heap.size w w') : WhPost w k f (.returned (.tuple #[.slice none 0 0, .bool false])) w' := by
 unfold WhPost; rw [h]; exact ⟨rfl, hb⟩
theorem WhPost.of_some {w w' : World} {k : Nat} {f r : List Fl} {v' : Value} (h : wholeB k f = some r) (hv : FlsM w' v' r) (hb : Below w.heap.size w w') : WhPost w k f (.returned (.tuple #[v', .bool true])) w' := by
 unfold WhPost; rw [h]; exact ⟨⟨_, rfl, hv⟩, hb⟩
def WhRel (w : World) (k : Nat) (f : List Fl) (n0 : Nat) (v n ok : Value) (wr : World) : Prop :=
 ∃ (m : Int) (fi : List Fl), n = .int .i64 m ∧ ok = .bool true ∧ 0 ≤ m ∧ m ≤ 9223372036854775807 ∧ FlsM wr v fi ∧ fi <:+ f ∧ iterO (wholeB k) m.toNat fi = iterO (wholeB k) n0 f ∧ Below w.heap.size w wr
set_option maxRecDepth 100000 in
set_option maxHeartbeats 4000000 in
theorem whole_step (k d : Nat) (hkd : k + d = 19)
  (ih : ∀ (f : List Fl) (v : Value) (w : World), FlsM w v f → FlOk f → Env w → Calls Tryz.prog 132 #[v, .int .i64 ((d + 1 : Nat) : Int)] w (WhPost w k f))
  (p : Fl) (f : List Fl) (v : Value) (w : World) (hv : FlsM w v (p :: f)) (hok : FlOk (p :: f)) (hE : Env w) :
  Calls Tryz.prog 132 #[v, .int .i64 (d : Int)] w (WhPost w (k + 1) (p :: f)) := by
 have IH := hid ih
 have HE := hid hE
 obtain ⟨hpo, hpn⟩ := hok.2 p (by simp)
 have HOK := hid hok.tail
 have hdr := hv.drop
 obtain ⟨g, o, cap, rfl, hcap, c0, c1, c2, c3, c4, c5, u, c6, hu⟩ := hv.first
 have HDR := hid hdr
 obtain ⟨au, cu, hus, hcu, -⟩ := id hu
 subst hus
 have ks := shape_any p _ w hu hpo hE
 unfold Fl.row at ks
 obtain ⟨B, hB⟩ : ∃ B, shapeB p = B := ⟨_, rfl⟩
 rw [hB] at ks
 have HB := hid hB
 have hl : f.length ≤ 100000000 := HOK.out.1
 obtain ⟨NF, hNF⟩ : ∃ n, f.length = n := ⟨_, rfl⟩
 rw [hNF] at hl hcap ⊢
 have hnf : ((NF : Int) + 1 == 0) = false := by rw [beq_eq_false_iff_ne]; omega
 have f1 : decide ((d : Int) ≥ 20) = false := decide_eq_false (by omega)
 have f2 : decide ((20 : Int) ≤ (d : Int)) = false := decide_eq_false (by omega)
 obtain ⟨V, hV⟩ : ∃ V, dropV (.slice (some ⟨g, o, none⟩) (NF + 1) cap) = V := ⟨_, rfl⟩
 rw [hNF, hV] at HDR
 have HV := hid hV
 have HNF := hid hNF
 clear ih hE hok hdr hv hu hpo hB hV hNF hcu
 go_enter Tryz.func132, Tryz.ntmps132
 go_wp2_with fail
 refine Calls.mono ks ?_
 rintro e w1 ⟨rfl, b1⟩
 clear ks
 cases B
 ·go_wp2_with fail
  go_ret2
  exact WhPost.of_none (by simp [wholeB, HB.out]) b1
 ·have HD1 := hid (HDR.out.below b1)
  have q1 := (b1.cell (lt_of_cell c1)).trans c1
  clear c0 c1 c2 c3 c4 c5 c6 HDR
  have hn0 : 0 ≤ p.n := by
   by_cases hc : p.op = 0 ∨ p.op = 1 ∨ p.op = 2
   ·have h := HB.out
    unfold shapeB at h
    rw [if_pos hc] at h
    simp only [Bool.and_eq_true, decide_eq_true_eq] at h
    exact h.1.2
   ·have := shapeB_n HB.out hc
    omega
  have hw : wholeB (k + 1) (p :: f) = iterO (wholeB k) p.n.toNat f := by simp [wholeB, HB.out]
  have HW := hid hw
  clear hw HB
  go_upto_region 4 with fail
  clear q1
  go_cut [0] from 26 to 27 (fun s0 wx => s0 = V ∧ wx = w1)
  case first =>
   by_cases hc1 : cap = 1
   ·have hVV : V = .slice (some ⟨g, o, none⟩) 0 0 := by rw [← HV.out]; simp [dropV, hc1]
    have HVV := hid hVV
    have hnf0 : NF = 0 := by omega
    subst hc1 hnf0
    clear hVV
    go_wp2_with fail
    go_meet
    exact ⟨by rw [HVV.out], rfl⟩
   ·have hVV : V = .slice (some ⟨g, o + 7, none⟩) NF (cap - 1) := by rw [← HV.out]; simp [dropV, hc1]
    have HVV := hid hVV
    have hc2 : ¬ (cap ≤ 1) := by omega
    have hc3 : 1 ≤ cap := by omega
    clear hVV
    go_wp2_with fail
    go_meet
    exact ⟨by rw [HVV.out], rfl⟩
  case rest =>
   obtain ⟨rfl, rfl⟩ := hcut
   obtain ⟨av, cv, hvs⟩ := HD1.out.shape
   clear HV
   obtain ⟨W1, hW1⟩ : ∃ W1, wc = W1 := ⟨_, rfl⟩
   rw [hW1] at HD1 b1 ⊢
   clear hW1
   go_upto_region 5 with fail
   go_wp2_with fail
   go_loopw [0, 6, 7] (fun v n ok wr => WhRel w k f p.n.toNat v n ok wr) (fun _ n _ _ => (RowKit.intOf n).toNat)
   case atStart => exact ⟨p.n, f, rfl, rfl, hn0, hpn, HD1.out, List.suffix_refl _, rfl, b1⟩
   case round =>
    clear HD1 b1
    obtain ⟨m, fi, rfl, rfl, hm0, hm1, hfv, hsuf, hit, hbe⟩ := hrel
    obtain ⟨af, cf, hfs⟩ := hfv.shape
    subst hfs
    have HS := hid hsuf
    have HIT := hid hit
    have HF := hid hfv
    by_cases hmz : 0 < m
    ·have i1 : decide (m > 0) = true := decide_eq_true hmz
     have i2 : decide (0 < m) = true := decide_eq_true hmz
     have i3 : IntKind.i64.wrap (m - 1) = m - 1 := by rw [IntKind.wrap_i64]; omega
     have i4 : IntKind.i64.wrap ((d : Int) + 1) = (d : Int) + 1 := by rw [IntKind.wrap_i64]; omega
     have kc := IH.out fi _ wr hfv (HOK.out.suf hsuf) (HE.out.below hbe)
     rw [show ((d + 1 : Nat) : Int) = (d : Int) + 1 by omega] at kc
     unfold WhPost at kc
     have hst : iterO (wholeB k) m.toNat fi = (match wholeB k fi with | none => none | some r => iterO (wholeB k) (m - 1).toNat r) := by
      rw [show m.toNat = (m - 1).toNat + 1 by omega]; rfl
     cases hr : wholeB k fi with
     | none =>
      rw [hr] at kc hst
      have hnone : wholeB (k + 1) (p :: f) = none := by rw [HW.out, ← hit, hst]
      have HN := hid hnone
      clear hnone hst hr hit hfv hsuf
      go_wp2_with fail
      refine Calls.mono kc ?_
      rintro e w2 ⟨he, hb2⟩
      try simp only at he
      subst he
      have b2 := hbe.trans (hb2.mono hbe.size)
      clear kc hb2 hbe
      go_wp2_with fail
      go_ret2
      exact WhPost.of_none HN.out b2
     | some r =>
      rw [hr] at kc hst
      simp only at hst
      have hsr := wholeB_suf k fi r hr
      have HSR := hid (hsr.trans hsuf)
      have HST := hid hst
      clear hst hr hit hfv hsuf hsr
      go_wp2_with fail
      refine Calls.mono kc ?_
      rintro e w2 ⟨he, hb2⟩
      try simp only at he
      obtain ⟨v', he1, hv'⟩ := he
      subst he1
      have b2 := hbe.trans (hb2.mono hbe.size)
      have HV2 := hid hv'
      clear kc hb2 hbe hv'
      go_wp2_with fail
      refine ⟨⟨m - 1, r, rfl, rfl, by omega, by omega, HV2.out, HSR.out, by rw [← HST.out, HIT.out], b2⟩, ?_⟩
      simp only [RowKit.intOf]; omega
    ·have hmz0 : m = 0 := by omega
     subst hmz0
     have hnone : wholeB (k + 1) (p :: f) = some fi := by rw [HW.out, ← hit]; rfl
     have HN := hid hnone
     clear hnone hit hfv hsuf
     go_wp2_with fail
     go_ret2
     exact WhPost.of_some HN.out HF.out hbe
set_option maxRecDepth 100000 in
set_option maxHeartbeats 2000000 in
theorem whole_nil (k d : Nat) (hkd : k + d = 20) (v : Value) (w : World) (hv : FlsM w v []) : Calls Tryz.prog 132 #[v, .int .i64 (d : Int)] w (WhPost w k []) := by
 obtain ⟨a, c, rfl⟩ := hv.shape
 have hw : wholeB k [] = none := by cases k <;> rfl
 clear hv
 simp only [List.length_nil]
 go_enter Tryz.func132, Tryz.ntmps132
 go_wp2_with fail
 go_ret2
 exact WhPost.of_none hw (Below.refl _ _)
set_option maxRecDepth 100000 in
set_option maxHeartbeats 2000000 in
theorem whole_deep (p : Fl) (f : List Fl) (v : Value) (w : World) (hv : FlsM w v (p :: f)) (hl : f.length ≤ 100000000) : Calls Tryz.prog 132 #[v, .int .i64 20] w (WhPost w 0 (p :: f)) := by
 obtain ⟨a, c, rfl⟩ := hv.shape
 clear hv
 simp only [List.length_cons]
 obtain ⟨NF, hNF⟩ : ∃ n, f.length = n := ⟨_, rfl⟩
 rw [hNF] at hl ⊢
 have hnf : ((NF : Int) + 1 == 0) = false := by rw [beq_eq_false_iff_ne]; omega
 have HN := hid hNF
 clear hNF
 go_enter Tryz.func132, Tryz.ntmps132
 go_wp2_with fail
 go_ret2
 exact WhPost.of_none rfl (Below.refl _ _)
theorem whole_any : ∀ (k d : Nat), k + d = 20 → ∀ (f : List Fl) (v : Value) (w : World), FlsM w v f → FlOk f → Env w → Calls Tryz.prog 132 #[v, .int .i64 (d : Int)] w (WhPost w k f)
 | k, d, hkd, [], v, w, hv, _, _ => whole_nil k d hkd v w hv
 | 0, d, hkd, p :: f, v, w, hv, hok, _ => by
  obtain rfl : d = 20 := by omega
  exact whole_deep p f v w hv hok.tail.1
 | k + 1, d, hkd, p :: f, v, w, hv, hok, hE => whole_step k d (by omega) (fun f v w h1 h2 h3 => whole_any k (d + 1) (by omega) f v w h1 h2 h3) p f v w hv hok hE
set_option maxRecDepth 100000 in
set_option maxHeartbeats 2000000 in
theorem FValid_any (f : List Fl) (v : Value) (w : World) (hv : FlsM w v f) (hok : FlOk f) (hE : Env w) :
  Calls Tryz.prog 90 #[v] w fun e w' => e = .returned (.bool (filtB f)) ∧ Below w.heap.size w w' := by
 have kc := whole_any 20 0 rfl f v w hv hok hE
 unfold WhPost at kc
 obtain ⟨a, c, rfl⟩ := hv.shape
 have hl := hok.1
 clear hv hok hE
 by_cases h1 : f.length ≤ 100
 ·have f1 : decide ((f.length : Int) > 100) = false := decide_eq_false (by omega)
  have f2 : decide ((100 : Int) < (f.length : Int)) = false := decide_eq_false (by omega)
  cases hr : wholeB 20 f with
  | none =>
   rw [hr] at kc
   have hO : filtB f = false := by simp [filtB, hr]
   have HO := hid hO
   clear hO hr
   go_enter Tryz.func90, Tryz.ntmps90
   go_wp2_with fail
   refine Calls.mono kc ?_
   rintro e w2 ⟨he, hb2⟩
   try simp only at he
   subst he
   clear kc
   go_wp2_with fail
   go_ret
   exact ⟨by rw [HO.out]; rfl, hb2⟩
  | some r =>
   rw [hr] at kc
   have hO : filtB f = r.isEmpty := by cases r <;> simp [filtB, hr, h1]
   have HO := hid hO
   clear hO hr
   go_enter Tryz.func90, Tryz.ntmps90
   go_wp2_with fail
   refine Calls.mono kc ?_
   rintro e w2 ⟨he, hb2⟩
   try simp only at he
   obtain ⟨v', he1, hv'⟩ := he
   subst he1
   obtain ⟨a2, c2, rfl⟩ := hv'.shape
   clear kc hv'
   cases r with
   | nil =>
    simp only [List.length_nil]
    go_wp2_with fail
    go_ret
    exact ⟨by rw [HO.out]; rfl, hb2⟩
   | cons q r =>
    simp only [List.length_cons]
    obtain ⟨NF, hNF⟩ : ∃ n, r.length = n := ⟨_, rfl⟩
    rw [hNF]
    have hnf : ((NF : Int) + 1 == 0) = false := by rw [beq_eq_false_iff_ne]; omega
    clear hNF
    go_wp2_with fail
    go_ret
    exact ⟨by rw [HO.out]; rfl, hb2⟩
 ·have f1 : decide ((f.length : Int) > 100) = true := decide_eq_true (by omega)
  have f2 : decide ((100 : Int) < (f.length : Int)) = true := decide_eq_true (by omega)
  have hO : filtB f = false := by simp [filtB, h1]
  have HO := hid hO
  clear hO kc
  go_enter Tryz.func90, Tryz.ntmps90
  go_wp2_with fail
  go_ret
  exact ⟨by rw [HO.out]; rfl, Below.refl _ _⟩
end Go.Proofs.YthjaiigijbjloaaGreatDoor
