/- BaE. -/
import Derived.Test.YthjaiigijbjloaaGreatDoorQ34
namespace Go.Proofs.YthjaiigijbjloaaGreatDoor
open Go.RowKit Go.Lib
set_option maxRecDepth 100000 in
set_option maxHeartbeats 4000000 in
theorem bare_result_g (m : Mg) (l : Ls) (w : World) (hm : MgM w m l) (hr0 : m.op ∈ isResL) (hn : m.op ≠ 24) :
  Calls Tryz.prog 39 #[.agg (Mg.row m)] w fun e w' => e = .returned (.tuple #[.agg (Mg.row (bareM m)), .bool (kindB m l)]) ∧ Below w.heap.size w w' := by
 obtain ⟨OK, hOK⟩ : ∃ b, kindB m l = b := ⟨_, rfl⟩
 rw [hOK]
 obtain ⟨af, cf, hf⟩ := hm.filt.shape
 obtain ⟨az, cz, hs, -, -⟩ := hm.sel
 obtain ⟨am, cm, hmo, -, -⟩ := hm.mods
 obtain ⟨aa, ca, hat, -, -⟩ := hm.attrs
 obtain ⟨ak, ck, hct, -, -⟩ := hm.ctl
 clear hm
 obtain ⟨nf, hnf⟩ : ∃ n, l.filt.length = n := ⟨_, rfl⟩
 obtain ⟨nz, hns⟩ : ∃ n, l.sel.length = n := ⟨_, rfl⟩
 obtain ⟨nm, hnm⟩ : ∃ n, l.mods.length = n := ⟨_, rfl⟩
 obtain ⟨na, hna⟩ : ∃ n, l.attrs.length = n := ⟨_, rfl⟩
 obtain ⟨nk, hnk⟩ : ∃ n, l.ctl.length = n := ⟨_, rfl⟩
 rw [hnf] at hf
 rw [hns] at hs
 rw [hnm] at hmo
 rw [hna] at hat
 rw [hnk] at hct
 obtain ⟨id, op, dn, ver, sasl, secret, scope, deref, size, time, types, filt, sel, mods, attrs, newRdn, newSup, delOld, hasSup, typ, value, oid, has, target, code, matched, text, ctl⟩ := m
 simp only at hf hs hmo hat hct hr0 hn
 subst hf hs hmo hat hct
 clear hnf hns hnm hna hnk
 have HOK := hid hOK
 clear hOK
 obtain ⟨R, hR⟩ : ∃ R, Mg.row (bareM { id := id, op := op, dn := dn, ver := ver, sasl := sasl, secret := secret, scope := scope, deref := deref, size := size, time := time, types := types, filt := .slice af nf cf, sel := .slice az nz cz, mods := .slice am nm cm, attrs := .slice aa na ca, newRdn := newRdn, newSup := newSup, delOld := delOld, hasSup := hasSup, typ := typ, value := value, oid := oid, has := has, target := target, code := code, matched := matched, text := text, ctl := .slice ak nk ck }) = R := ⟨_, rfl⟩
 obtain ⟨A, hA⟩ : ∃ A, Mg.row { id := id, op := op, dn := dn, ver := ver, sasl := sasl, secret := secret, scope := scope, deref := deref, size := size, time := time, types := types, filt := .slice af nf cf, sel := .slice az nz cz, mods := .slice am nm cm, attrs := .slice aa na ca, newRdn := newRdn, newSup := newSup, delOld := delOld, hasSup := hasSup, typ := typ, value := value, oid := oid, has := has, target := target, code := code, matched := matched, text := text, ctl := .slice ak nk ck } = A := ⟨_, rfl⟩
 rw [hA, hR]
 have HA := hid hA
 have HR := hid hR
 clear hA hR
 have b1 : Below w.heap.size w ((w.alloc (.cells A 28)).alloc (.cells Zm 28)) := ((Below.refl _ _).alloc (Nat.le_refl _) _).alloc (by simp) _
 have m1 : ((w.alloc (.cells A 28)).alloc (.cells Zm 28)).heap[w.heap.size]? = some (.cells A 28 (0, 0)) := (alloc_old _ _ _ (by simp)).trans (alloc_at _ _ _ rfl)
 have t1 : ((w.alloc (.cells A 28)).alloc (.cells Zm 28)).heap[w.heap.size + 1]? = some (.cells (Mg.row {}) 28 (0, 0)) := alloc_at _ _ _ (by simp)
 have hsz : ((w.alloc (.cells A 28)).alloc (.cells Zm 28)).heap.size = w.heap.size + 2 := by simp
 have HS := hid hsz
 clear hsz
 go_enter Tryz.func39, Tryz.ntmps39
 refine wp_seq ?_
 refine wp_region_list ?_
 iterate 2 (refine wpList_plain rfl fun K hK => ?_; go_simp; refine hK _ _ ?_; clear hK K)
 generalize ((w.alloc (.cells A 28)).alloc (.cells Zm 28)) = w1 at b1 m1 t1 HS ⊢
 have q0 : w1.cell? ⟨w.heap.size, 0, none⟩ = some (.int .i64 id) := (cell_of_heap m1 0).trans (by rw [← HA.out]; rfl)
 have q1 : w1.cell? ⟨w.heap.size, 1, none⟩ = some (.int .i64 op) := (cell_of_heap m1 1).trans (by rw [← HA.out]; rfl)
 have q27 : w1.cell? ⟨w.heap.size, 27, none⟩ = some (.slice ak nk ck) := (cell_of_heap m1 27).trans (by rw [← HA.out]; rfl)
 obtain ⟨X0, hX⟩ : ∃ X, Mg.row { id := id, op := op, ctl := .slice ak nk ck } = X := ⟨_, rfl⟩
 have hX1 : (#[.int .i64 id, .int .i64 op, .string ⟨#[]⟩, .int .i64 0, .bool false, .string ⟨#[]⟩, .int .i64 0, .int .i64 0, .int .i64 0, .int .i64 0, .bool false, .slice none 0 0, .slice none 0 0, .slice none 0 0, .slice none 0 0, .string ⟨#[]⟩, .string ⟨#[]⟩, .bool false, .bool false, .string ⟨#[]⟩, .string ⟨#[]⟩, .string ⟨#[]⟩, .bool false, .int .i64 0, .int .i64 0, .string ⟨#[]⟩, .string ⟨#[]⟩, .slice ak nk ck] : Array Value) = X0 := hX
 have hX2 : X0.all (·.oneCell') = true := by rw [← hX]; simp [Mg.row, Value.oneCell']
 have hX3 : X0.size = 28 := by rw [← hX]; rfl
 have HX0 := hid hX
 have HX1 := hid hX1
 have HX2 := hid hX2
 have HX3 := hid hX3
 clear hX hX1 hX2 hX3
 go_upto_region 1 with fail
 refine wp_region_list ?_
 iterate 6 (refine wpList_plain rfl fun K hK => ?_; go_simp; refine hK _ _ ?_; clear hK K)
 refine wpList_plain rfl fun K hK => ?_
 go_simp
 rw [HX1.out]
 refine hK _ _ ?_; clear hK K
 clear q0 q27 HX1
 refine wpList_plain rfl fun K hK => ?_; go_simp; refine hK _ _ ?_; clear hK K
 have b2 := b1.trans ((Below.refl w1.heap.size w1).alloc (Nat.le_refl _) (.cells Zm 28) |>.mono b1.size)
 have m2 := (alloc_old w1 (.cells Zm 28) w.heap.size (gl m1)).trans m1
 have t2 := (alloc_old w1 (.cells Zm 28) (w.heap.size + 1) (gl t1)).trans t1
 have x2 : (w1.alloc (.cells Zm 28)).heap[w1.heap.size]? = some (.cells (Mg.row {}) 28 (0, 0)) := alloc_at _ _ _ rfl
 have hg : w.heap.size + 1 < w1.heap.size := (gl t1)
 clear b1 m1 t1 q1
 generalize (w1.alloc (.cells Zm 28)) = w2 at b2 m2 t2 x2 ⊢
 generalize w1.heap.size = g at x2 hg ⊢
 clear HS
 refine wpList_storeRow rfl 28 (.tmp 4) (.tmp 12) rfl g 28 _ X0 (by rfl) (by rfl) x2 (by rw [HX3.out]; rfl) (by rw [HX3.out]; rfl) HX2.out ?_
 have b3 := below_row b2 (g := g) (by omega) X0
 have m3 := (setRow_other w2 g w.heap.size X0 (by omega)).trans m2
 have t3 := (setRow_other w2 g (w.heap.size + 1) X0 (by omega)).trans t2
 have x3 := setRow_heap w2 g _ X0 _ _ x2
 clear b2 m2 t2 x2 HX2 HX3
 generalize w2.setRow g X0 = w3 at b3 m3 t3 x3 ⊢
 have q1 : w3.cell? ⟨w.heap.size, 1, none⟩ = some (.int .i64 op) := (cell_of_heap m3 1).trans (by rw [← HA.out]; rfl)
 go_simp
 have f0 : (op == 0) = false := beq_false_of_ne (fun h => by subst h; revert hr0; decide)
 have f2 : (op == 2) = false := beq_false_of_ne (fun h => by subst h; revert hr0; decide)
 have f3 : (op == 3) = false := beq_false_of_ne (fun h => by subst h; revert hr0; decide)
 have f6 : (op == 6) = false := beq_false_of_ne (fun h => by subst h; revert hr0; decide)
 have f10 : (op == 10) = false := beq_false_of_ne (fun h => by subst h; revert hr0; decide)
 have f12 : (op == 12) = false := beq_false_of_ne (fun h => by subst h; revert hr0; decide)
 have f14 : (op == 14) = false := beq_false_of_ne (fun h => by subst h; revert hr0; decide)
 have f16 : (op == 16) = false := beq_false_of_ne (fun h => by subst h; revert hr0; decide)
 have f23 : (op == 23) = false := beq_false_of_ne (fun h => by subst h; revert hr0; decide)
 have f24 : (op == 24) = false := beq_false_of_ne (fun h => by subst h; exact hn rfl)
 go_upto_region 15 with fail
 have a3 : (w3.alloc (.cells #[.int .i64 8, .int .i64 4] 3)).heap[w3.heap.size]? = some (.cells #[.int .i64 8, .int .i64 4] 3 (0, 0)) := alloc_at _ _ _ rfl
 have kc := isOp_any op w3.heap.size [8, 4] (w3.alloc (.cells #[.int .i64 8, .int .i64 4] 3)) (by simp) (fun j hj => by
  have h2 : j < 2 := hj
  have hcases : j = 0 ∨ j = 1 := by omega
  rcases hcases with rfl | rfl
  ·exact (cell_of_heap a3 0).trans rfl
  ·exact (cell_of_heap a3 1).trans rfl)
 rw [show ([8, 4] : List Int).contains op = false from by
  simp only [List.contains_cons, List.contains_nil, Bool.or_false, Bool.or_eq_false_iff]
  exact ⟨beq_false_of_ne (fun h => by subst h; revert hr0; decide), beq_false_of_ne (fun h => by subst h; revert hr0; decide)⟩] at kc
 have b4 := b3.trans ((Below.refl w3.heap.size w3).alloc (Nat.le_refl _) (.cells #[.int .i64 8, .int .i64 4] 3) |>.mono b3.size)
 have m4 := (alloc_old w3 (.cells #[.int .i64 8, .int .i64 4] 3) w.heap.size (gl m3)).trans m3
 have t4 := (alloc_old w3 (.cells #[.int .i64 8, .int .i64 4] 3) (w.heap.size + 1) (gl t3)).trans t3
 have x4 := (alloc_old w3 (.cells #[.int .i64 8, .int .i64 4] 3) g (gl x3)).trans x3
 clear b3 m3 t3 x3 a3
 go_wp2_with fail
 clear q1
 generalize w3.alloc (.cells #[.int .i64 8, .int .i64 4] 3) = w4 at b4 m4 t4 x4 kc ⊢
 refine Calls.mono kc ?_
 rintro e w' ⟨rfl, hw'⟩
 rw [hw']
 clear hw' kc
 have q1 : w4.cell? ⟨w.heap.size, 1, none⟩ = some (.int .i64 op) := (cell_of_heap m4 1).trans (by rw [← HA.out]; rfl)
 have kr := isRes_any op w4
 rw [show isResL.contains op = true from by simpa using hr0] at kr
 go_wp2_with fail
 refine Calls.mono kr ?_
 rintro e w5 ⟨rfl, hb5⟩
 have m5 := (hb5.block _ (gl m4)).trans m4
 have t5 := (hb5.block _ (gl t4)).trans t4
 have x5 := (hb5.block _ (gl x4)).trans x4
 have b5 := b4.trans (hb5.mono b4.size)
 clear kr hb5 m4 t4 x4 b4 q1
 have q1 : w5.cell? ⟨w.heap.size, 1, none⟩ = some (.int .i64 op) := (cell_of_heap m5 1).trans (by rw [← HA.out]; rfl)
 go_upto_region 31 with fail
 have T : w5.drew.heap[w.heap.size]? = some (.cells A 28 (0, 0)) ∧ w5.drew.heap[w.heap.size + 1]? = some (.cells (Mg.row {}) 28 (0, 0)) := ⟨m5, t5⟩
 have D : Below w.heap.size w w5.drew := b5.drew
 have Y : w5.drew.heap[g]? = some (.cells X0 28 (0, 0)) := x5
 refine wp_region_held (S := fun w' => w'.heap[w.heap.size]? = some (.cells A 28 (0, 0)) ∧ w'.heap[w.heap.size + 1]? = some (.cells (Mg.row {}) 28 (0, 0))) (by kernel_rfl) ?_
 change wpAnyH _ _ _ _ _ _ _ _ w5.drew
 clear m5 t5 b5 x5 q1
 generalize w5.drew = wr0 at T D Y ⊢
 refine tk 0 (.pointer (some ⟨w.heap.size, 24, none⟩)) rfl (fun w' hS => by go_simp) T (fun K hK => ?_); go_simp; refine hK _ _ ?_; clear hK K
 refine tk 1 (.int .i64 code) rfl (fun w' hS => by have q := (cell_of_heap hS.1 24).trans (show _ = some (.int .i64 code) from by rw [← HA.out]; rfl); go_simp) T (fun K hK => ?_); go_simp; refine hK _ _ ?_; clear hK K
 refine tk 2 (.pointer (some ⟨w.heap.size, 25, none⟩)) rfl (fun w' hS => by go_simp) T (fun K hK => ?_); go_simp; refine hK _ _ ?_; clear hK K
 refine tk 3 (.string ⟨matched.toArray⟩) rfl (fun w' hS => by have q := (cell_of_heap hS.1 25).trans (show _ = some (.string ⟨matched.toArray⟩) from by rw [← HA.out]; rfl); go_simp) T (fun K hK => ?_); go_simp; refine hK _ _ ?_; clear hK K
 refine tk 4 (.pointer (some ⟨w.heap.size, 26, none⟩)) rfl (fun w' hS => by go_simp) T (fun K hK => ?_); go_simp; refine hK _ _ ?_; clear hK K
 refine tk 5 (.string ⟨text.toArray⟩) rfl (fun w' hS => by have q := (cell_of_heap hS.1 26).trans (show _ = some (.string ⟨text.toArray⟩) from by rw [← HA.out]; rfl); go_simp) T (fun K hK => ?_); go_simp; refine hK _ _ ?_; clear hK K
 have HY := HX0.out
 have Y0 : wr0.heap[g]? = some (.cells (Mg.row { id := id, op := op, ctl := .slice ak nk ck }) 28 (0, 0)) := by rw [HY]; exact Y
 clear HY Y
 refine tk 6 (.pointer (some ⟨g, 24, none⟩)) rfl (fun w' hS => by go_simp) T (fun K hK => ?_); go_simp; refine hK _ _ ?_; clear hK K
 have s : wr0.cell? ⟨g, 24, none⟩ = some (.int .i64 0) := (cell_of_heap Y0 24).trans rfl
 have z := Lib.frozen_of_heap Y0 24
 have Y1 : (wr0.setCell ⟨g, 24, none⟩ (.int .i64 code)).heap[g]? = some (.cells (Mg.row { id := id, op := op, ctl := .slice ak nk ck, code := code }) 28 (0, 0)) := setCell_at (i := 24) (u := .int .i64 code) Y0
 have T0 : (wr0.setCell ⟨g, 24, none⟩ (.int .i64 code)).heap[w.heap.size]? = some (.cells A 28 (0, 0)) ∧ (wr0.setCell ⟨g, 24, none⟩ (.int .i64 code)).heap[w.heap.size + 1]? = some (.cells (Mg.row {}) 28 (0, 0)) := ⟨(Below.heap_setCell wr0 ⟨g, 24, none⟩ _ w.heap.size (by show w.heap.size ≠ g; omega)).trans T.1, (Below.heap_setCell wr0 ⟨g, 24, none⟩ _ (w.heap.size + 1) (by show w.heap.size + 1 ≠ g; omega)).trans T.2⟩
 have D0 := D.setCell (p := ⟨g, 24, none⟩) (by show w.heap.size ≤ g; omega) (.int .i64 code)
 refine anyH_one 7 (by kernel_rfl) rfl (by rfl) (fun K hK => ?_); go_simp; refine hK _ _ T0 ?_; clear hK K
 clear s z Y0 T D
 have T := T0
 have D := D0
 clear T0 D0
 generalize wr0.setCell ⟨g, 24, none⟩ (.int .i64 code) = wr1 at T D Y1 ⊢
 refine tk 8 (.pointer (some ⟨g, 25, none⟩)) rfl (fun w' hS => by go_simp) T (fun K hK => ?_); go_simp; refine hK _ _ ?_; clear hK K
 have s : wr1.cell? ⟨g, 25, none⟩ = some (.string ⟨#[]⟩) := (cell_of_heap Y1 25).trans rfl
 have z := Lib.frozen_of_heap Y1 25
 have Y2 : (wr1.setCell ⟨g, 25, none⟩ (.string ⟨matched.toArray⟩)).heap[g]? = some (.cells (Mg.row { id := id, op := op, ctl := .slice ak nk ck, code := code, matched := matched }) 28 (0, 0)) := setCell_at (i := 25) (u := .string ⟨matched.toArray⟩) Y1
 have T1 : (wr1.setCell ⟨g, 25, none⟩ (.string ⟨matched.toArray⟩)).heap[w.heap.size]? = some (.cells A 28 (0, 0)) ∧ (wr1.setCell ⟨g, 25, none⟩ (.string ⟨matched.toArray⟩)).heap[w.heap.size + 1]? = some (.cells (Mg.row {}) 28 (0, 0)) := ⟨(Below.heap_setCell wr1 ⟨g, 25, none⟩ _ w.heap.size (by show w.heap.size ≠ g; omega)).trans T.1, (Below.heap_setCell wr1 ⟨g, 25, none⟩ _ (w.heap.size + 1) (by show w.heap.size + 1 ≠ g; omega)).trans T.2⟩
 have D1 := D.setCell (p := ⟨g, 25, none⟩) (by show w.heap.size ≤ g; omega) (.string ⟨matched.toArray⟩)
 refine anyH_one 9 (by kernel_rfl) rfl (by rfl) (fun K hK => ?_); go_simp; refine hK _ _ T1 ?_; clear hK K
 clear s z Y1 T D
 have T := T1
 have D := D1
 clear T1 D1
 generalize wr1.setCell ⟨g, 25, none⟩ (.string ⟨matched.toArray⟩) = wr2 at T D Y2 ⊢
 refine tk 10 (.pointer (some ⟨g, 26, none⟩)) rfl (fun w' hS => by go_simp) T (fun K hK => ?_); go_simp; refine hK _ _ ?_; clear hK K
 have s : wr2.cell? ⟨g, 26, none⟩ = some (.string ⟨#[]⟩) := (cell_of_heap Y2 26).trans rfl
 have z := Lib.frozen_of_heap Y2 26
 have Y3 : (wr2.setCell ⟨g, 26, none⟩ (.string ⟨text.toArray⟩)).heap[g]? = some (.cells (Mg.row { id := id, op := op, ctl := .slice ak nk ck, code := code, matched := matched, text := text }) 28 (0, 0)) := setCell_at (i := 26) (u := .string ⟨text.toArray⟩) Y2
 have T2 : (wr2.setCell ⟨g, 26, none⟩ (.string ⟨text.toArray⟩)).heap[w.heap.size]? = some (.cells A 28 (0, 0)) ∧ (wr2.setCell ⟨g, 26, none⟩ (.string ⟨text.toArray⟩)).heap[w.heap.size + 1]? = some (.cells (Mg.row {}) 28 (0, 0)) := ⟨(Below.heap_setCell wr2 ⟨g, 26, none⟩ _ w.heap.size (by show w.heap.size ≠ g; omega)).trans T.1, (Below.heap_setCell wr2 ⟨g, 26, none⟩ _ (w.heap.size + 1) (by show w.heap.size + 1 ≠ g; omega)).trans T.2⟩
 have D2 := D.setCell (p := ⟨g, 26, none⟩) (by show w.heap.size ≤ g; omega) (.string ⟨text.toArray⟩)
 refine anyH_one 11 (by kernel_rfl) rfl (by rfl) (fun K hK => ?_); go_simp; refine hK _ _ T2 ?_; clear hK K
 clear s z Y2 T D
 have T := T2
 have D := D2
 clear T2 D2
 generalize wr2.setCell ⟨g, 26, none⟩ (.string ⟨text.toArray⟩) = wr3 at T D Y3 ⊢
 refine wpAnyH_done (by kernel_rfl) ?_ _
 try simp only [Exit.then]
 refine ‹∀ (a : Act) (w : World), Code.wp _ _ _ a w → _› _ _ ?_
 have m6 := T.1
 have t6 := T.2
 have b6 := D
 obtain ⟨X1, hX⟩ : ∃ X, Mg.row { id := id, op := op, ctl := .slice ak nk ck, code := code, matched := matched, text := text } = X := ⟨_, rfl⟩
 have x6 : wr3.heap[g]? = some (.cells X1 28 (0, 0)) := by rw [← hX]; exact Y3
 have HX1 := hid hX
 clear T D Y3 hX HX0
 obtain ⟨w6, hw6⟩ : ∃ w6, wr3 = w6 := ⟨_, rfl⟩
 rw [hw6] at m6 t6 b6 x6 ⊢
 clear hw6
 have q1 : w6.cell? ⟨w.heap.size, 1, none⟩ = some (.int .i64 op) := (cell_of_heap m6 1).trans (by rw [← HA.out]; rfl)
 have q24 : w6.cell? ⟨w.heap.size, 24, none⟩ = some (.int .i64 code) := (cell_of_heap m6 24).trans (by rw [← HA.out]; rfl)
 rcases hr : rngB code 2147483647 with _ | _
 ·have kr := inRange_any code 2147483647 w6
  rw [hr] at kr
  go_wp2_with fail
  refine Calls.mono kr ?_
  rintro e w' ⟨rfl, hw'⟩
  rw [hw']
  clear hw' kr q24
  go_upto_region 36 with fail
  clear q1
  have hOK : OK = false := by rw [← HOK.out]; simp [kindB, hr, show op ≠ 0 from by simpa using f0, show op ≠ 3 from by simpa using f3, show op ≠ 6 from by simpa using f6, show ¬ (op = 8 ∨ op = 4) from by intro h; rcases h with rfl | rfl <;> revert hr0 <;> decide, show op ≠ 10 from by simpa using f10, show op ≠ 12 from by simpa using f12, show op ≠ 14 from by simpa using f14, show op ≠ 16 from by simpa using f16, show op ≠ 23 from by simpa using f23, show op ≠ 24 from hn, show op ≠ 2 from by simpa using f2, hr0]
  have HOK2 := hid hOK
  clear hOK
  have hRX : R = X1 := by
   rw [← HR.out, ← HX1.out]
   simp [bareM, show op ≠ 0 from by simpa using f0, show op ≠ 3 from by simpa using f3, show op ≠ 6 from by simpa using f6, show ¬ (op = 8 ∨ op = 4) from by intro h; rcases h with rfl | rfl <;> revert hr0 <;> decide, show op ≠ 10 from by simpa using f10, show op ≠ 12 from by simpa using f12, show op ≠ 14 from by simpa using f14, show op ≠ 16 from by simpa using f16, show op ≠ 23 from by simpa using f23, show op ≠ 24 from hn, show op ≠ 2 from by simpa using f2, hr0]
  have HRX := hid hRX
  clear hRX
  refine wp_region_list ?_
  have hX1 : X1.all (·.oneCell') = true := by rw [← HX1.out]; simp [Mg.row, Value.oneCell']
  have hX2 : X1.size = 28 := by rw [← HX1.out]; rfl
  have HX1 := hid hX1
  have HX2 := hid hX2
  clear hX1 hX2
  refine wpList_loadRow rfl 28 (.tmp 4) rfl g 28 _ (0, 0) (by rfl) x6 _ Tryz.underlying28 rfl (by rw [HX2.out]; rfl) ?_
  refine wpList_plain rfl fun K hK => ?_; go_simp; refine hK _ _ ?_; clear hK K
  have b60 := below_row b6 (g := w.heap.size + 1) (by omega) X1
  have t60 := setRow_heap w6 (w.heap.size + 1) _ X1 _ _ t6
  refine wpList_storeRow rfl 28 (.tmp 2) (.tmp 231) rfl (w.heap.size + 1) 28 _ X1 (by rfl) (by rfl) t6 (by rw [HX2.out]; rfl) (by rw [HX2.out]; rfl) HX1.out ?_
  generalize w6.setRow (w.heap.size + 1) X1 = w60 at b60 t60 ⊢
  clear b6 m6 t6 x6
  go_simp
  go_wp2_with fail
  refine bodyPost_ret (v := .tuple #[.agg X1, .bool false]) ?_ rfl ⟨by rw [HRX.out, HOK2.out], b60⟩
  have hr := run_loadVar_row (P := Tryz.prog) w60 (w.heap.size + 1) 28 28 X1 (0, 0) _ t60 (show Tryz.prog.underlying 28 = _ from Tryz.underlying28) (by rfl) (by rw [HX2.out]; rfl)
  simp [results, Tryz.f39]
  show ((Sem.run Tryz.prog (loadVar 28 ⟨w.heap.size + 1, 0, none⟩) w60).andThen fun a w' => Result.ok (Value.tuple #[a, Value.bool false]) w') = _
  rw [hr]
  simp
 ·have kr := inRange_any code 2147483647 w6
  rw [hr] at kr
  go_wp2_with fail
  refine Calls.mono kr ?_
  rintro e w' ⟨rfl, hw'⟩
  rw [hw']
  clear hw' kr q24
  go_upto_region 36 with fail
  clear q1
  have hOK : OK = true := by rw [← HOK.out]; simp [kindB, hr, show op ≠ 0 from by simpa using f0, show op ≠ 3 from by simpa using f3, show op ≠ 6 from by simpa using f6, show ¬ (op = 8 ∨ op = 4) from by intro h; rcases h with rfl | rfl <;> revert hr0 <;> decide, show op ≠ 10 from by simpa using f10, show op ≠ 12 from by simpa using f12, show op ≠ 14 from by simpa using f14, show op ≠ 16 from by simpa using f16, show op ≠ 23 from by simpa using f23, show op ≠ 24 from hn, show op ≠ 2 from by simpa using f2, hr0]
  have HOK2 := hid hOK
  clear hOK
  have hRX : R = X1 := by
   rw [← HR.out, ← HX1.out]
   simp [bareM, show op ≠ 0 from by simpa using f0, show op ≠ 3 from by simpa using f3, show op ≠ 6 from by simpa using f6, show ¬ (op = 8 ∨ op = 4) from by intro h; rcases h with rfl | rfl <;> revert hr0 <;> decide, show op ≠ 10 from by simpa using f10, show op ≠ 12 from by simpa using f12, show op ≠ 14 from by simpa using f14, show op ≠ 16 from by simpa using f16, show op ≠ 23 from by simpa using f23, show op ≠ 24 from hn, show op ≠ 2 from by simpa using f2, hr0]
  have HRX := hid hRX
  clear hRX
  refine wp_region_list ?_
  have hX1 : X1.all (·.oneCell') = true := by rw [← HX1.out]; simp [Mg.row, Value.oneCell']
  have hX2 : X1.size = 28 := by rw [← HX1.out]; rfl
  have HX1 := hid hX1
  have HX2 := hid hX2
  clear hX1 hX2
  refine wpList_loadRow rfl 28 (.tmp 4) rfl g 28 _ (0, 0) (by rfl) x6 _ Tryz.underlying28 rfl (by rw [HX2.out]; rfl) ?_
  refine wpList_plain rfl fun K hK => ?_; go_simp; refine hK _ _ ?_; clear hK K
  have b60 := below_row b6 (g := w.heap.size + 1) (by omega) X1
  have t60 := setRow_heap w6 (w.heap.size + 1) _ X1 _ _ t6
  refine wpList_storeRow rfl 28 (.tmp 2) (.tmp 231) rfl (w.heap.size + 1) 28 _ X1 (by rfl) (by rfl) t6 (by rw [HX2.out]; rfl) (by rw [HX2.out]; rfl) HX1.out ?_
  generalize w6.setRow (w.heap.size + 1) X1 = w60 at b60 t60 ⊢
  clear b6 m6 t6 x6
  go_simp
  go_wp2_with fail
  refine bodyPost_ret (v := .tuple #[.agg X1, .bool true]) ?_ rfl ⟨by rw [HRX.out, HOK2.out], b60⟩
  have hr := run_loadVar_row (P := Tryz.prog) w60 (w.heap.size + 1) 28 28 X1 (0, 0) _ t60 (show Tryz.prog.underlying 28 = _ from Tryz.underlying28) (by rfl) (by rw [HX2.out]; rfl)
  simp [results, Tryz.f39]
  show ((Sem.run Tryz.prog (loadVar 28 ⟨w.heap.size + 1, 0, none⟩) w60).andThen fun a w' => Result.ok (Value.tuple #[a, Value.bool true]) w') = _
  rw [hr]
  simp
set_option maxRecDepth 100000 in
set_option maxHeartbeats 4000000 in
theorem bare_other_g (m : Mg) (l : Ls) (w : World) (hm : MgM w m l) (hr0 : m.op ∉ isResL) (hn : m.op ∉ ([0, 2, 3, 6, 8, 4, 10, 12, 14, 16, 23] : List Int)) :
  Calls Tryz.prog 39 #[.agg (Mg.row m)] w fun e w' => e = .returned (.tuple #[.agg (Mg.row (bareM m)), .bool (kindB m l)]) ∧ Below w.heap.size w w' := by
 obtain ⟨OK, hOK⟩ : ∃ b, kindB m l = b := ⟨_, rfl⟩
 rw [hOK]
 obtain ⟨af, cf, hf⟩ := hm.filt.shape
 obtain ⟨az, cz, hs, -, -⟩ := hm.sel
 obtain ⟨am, cm, hmo, -, -⟩ := hm.mods
 obtain ⟨aa, ca, hat, -, -⟩ := hm.attrs
 obtain ⟨ak, ck, hct, -, -⟩ := hm.ctl
 clear hm
 obtain ⟨nf, hnf⟩ : ∃ n, l.filt.length = n := ⟨_, rfl⟩
 obtain ⟨nz, hns⟩ : ∃ n, l.sel.length = n := ⟨_, rfl⟩
 obtain ⟨nm, hnm⟩ : ∃ n, l.mods.length = n := ⟨_, rfl⟩
 obtain ⟨na, hna⟩ : ∃ n, l.attrs.length = n := ⟨_, rfl⟩
 obtain ⟨nk, hnk⟩ : ∃ n, l.ctl.length = n := ⟨_, rfl⟩
 rw [hnf] at hf
 rw [hns] at hs
 rw [hnm] at hmo
 rw [hna] at hat
 rw [hnk] at hct
 obtain ⟨id, op, dn, ver, sasl, secret, scope, deref, size, time, types, filt, sel, mods, attrs, newRdn, newSup, delOld, hasSup, typ, value, oid, has, target, code, matched, text, ctl⟩ := m
 simp only at hf hs hmo hat hct hr0 hn
 subst hf hs hmo hat hct
 clear hnf hns hnm hna hnk
 have HOK := hid hOK
 clear hOK
 obtain ⟨R, hR⟩ : ∃ R, Mg.row (bareM { id := id, op := op, dn := dn, ver := ver, sasl := sasl, secret := secret, scope := scope, deref := deref, size := size, time := time, types := types, filt := .slice af nf cf, sel := .slice az nz cz, mods := .slice am nm cm, attrs := .slice aa na ca, newRdn := newRdn, newSup := newSup, delOld := delOld, hasSup := hasSup, typ := typ, value := value, oid := oid, has := has, target := target, code := code, matched := matched, text := text, ctl := .slice ak nk ck }) = R := ⟨_, rfl⟩
 obtain ⟨A, hA⟩ : ∃ A, Mg.row { id := id, op := op, dn := dn, ver := ver, sasl := sasl, secret := secret, scope := scope, deref := deref, size := size, time := time, types := types, filt := .slice af nf cf, sel := .slice az nz cz, mods := .slice am nm cm, attrs := .slice aa na ca, newRdn := newRdn, newSup := newSup, delOld := delOld, hasSup := hasSup, typ := typ, value := value, oid := oid, has := has, target := target, code := code, matched := matched, text := text, ctl := .slice ak nk ck } = A := ⟨_, rfl⟩
 rw [hA, hR]
 have HA := hid hA
 have HR := hid hR
 clear hA hR
 have b1 : Below w.heap.size w ((w.alloc (.cells A 28)).alloc (.cells Zm 28)) := ((Below.refl _ _).alloc (Nat.le_refl _) _).alloc (by simp) _
 have m1 : ((w.alloc (.cells A 28)).alloc (.cells Zm 28)).heap[w.heap.size]? = some (.cells A 28 (0, 0)) := (alloc_old _ _ _ (by simp)).trans (alloc_at _ _ _ rfl)
 have t1 : ((w.alloc (.cells A 28)).alloc (.cells Zm 28)).heap[w.heap.size + 1]? = some (.cells (Mg.row {}) 28 (0, 0)) := alloc_at _ _ _ (by simp)
 have hsz : ((w.alloc (.cells A 28)).alloc (.cells Zm 28)).heap.size = w.heap.size + 2 := by simp
 have HS := hid hsz
 clear hsz
 go_enter Tryz.func39, Tryz.ntmps39
 refine wp_seq ?_
 refine wp_region_list ?_
 iterate 2 (refine wpList_plain rfl fun K hK => ?_; go_simp; refine hK _ _ ?_; clear hK K)
 generalize ((w.alloc (.cells A 28)).alloc (.cells Zm 28)) = w1 at b1 m1 t1 HS ⊢
 have q0 : w1.cell? ⟨w.heap.size, 0, none⟩ = some (.int .i64 id) := (cell_of_heap m1 0).trans (by rw [← HA.out]; rfl)
 have q1 : w1.cell? ⟨w.heap.size, 1, none⟩ = some (.int .i64 op) := (cell_of_heap m1 1).trans (by rw [← HA.out]; rfl)
 have q27 : w1.cell? ⟨w.heap.size, 27, none⟩ = some (.slice ak nk ck) := (cell_of_heap m1 27).trans (by rw [← HA.out]; rfl)
 obtain ⟨X0, hX⟩ : ∃ X, Mg.row { id := id, op := op, ctl := .slice ak nk ck } = X := ⟨_, rfl⟩
 have hX1 : (#[.int .i64 id, .int .i64 op, .string ⟨#[]⟩, .int .i64 0, .bool false, .string ⟨#[]⟩, .int .i64 0, .int .i64 0, .int .i64 0, .int .i64 0, .bool false, .slice none 0 0, .slice none 0 0, .slice none 0 0, .slice none 0 0, .string ⟨#[]⟩, .string ⟨#[]⟩, .bool false, .bool false, .string ⟨#[]⟩, .string ⟨#[]⟩, .string ⟨#[]⟩, .bool false, .int .i64 0, .int .i64 0, .string ⟨#[]⟩, .string ⟨#[]⟩, .slice ak nk ck] : Array Value) = X0 := hX
 have hX2 : X0.all (·.oneCell') = true := by rw [← hX]; simp [Mg.row, Value.oneCell']
 have hX3 : X0.size = 28 := by rw [← hX]; rfl
 have HX0 := hid hX
 have HX1 := hid hX1
 have HX2 := hid hX2
 have HX3 := hid hX3
 clear hX hX1 hX2 hX3
 go_upto_region 1 with fail
 refine wp_region_list ?_
 iterate 6 (refine wpList_plain rfl fun K hK => ?_; go_simp; refine hK _ _ ?_; clear hK K)
 refine wpList_plain rfl fun K hK => ?_
 go_simp
 rw [HX1.out]
 refine hK _ _ ?_; clear hK K
 clear q0 q27 HX1
 refine wpList_plain rfl fun K hK => ?_; go_simp; refine hK _ _ ?_; clear hK K
 have b2 := b1.trans ((Below.refl w1.heap.size w1).alloc (Nat.le_refl _) (.cells Zm 28) |>.mono b1.size)
 have m2 := (alloc_old w1 (.cells Zm 28) w.heap.size (gl m1)).trans m1
 have t2 := (alloc_old w1 (.cells Zm 28) (w.heap.size + 1) (gl t1)).trans t1
 have x2 : (w1.alloc (.cells Zm 28)).heap[w1.heap.size]? = some (.cells (Mg.row {}) 28 (0, 0)) := alloc_at _ _ _ rfl
 have hg : w.heap.size + 1 < w1.heap.size := (gl t1)
 clear b1 m1 t1 q1
 generalize (w1.alloc (.cells Zm 28)) = w2 at b2 m2 t2 x2 ⊢
 generalize w1.heap.size = g at x2 hg ⊢
 clear HS
 refine wpList_storeRow rfl 28 (.tmp 4) (.tmp 12) rfl g 28 _ X0 (by rfl) (by rfl) x2 (by rw [HX3.out]; rfl) (by rw [HX3.out]; rfl) HX2.out ?_
 have b3 := below_row b2 (g := g) (by omega) X0
 have m3 := (setRow_other w2 g w.heap.size X0 (by omega)).trans m2
 have t3 := (setRow_other w2 g (w.heap.size + 1) X0 (by omega)).trans t2
 have x3 := setRow_heap w2 g _ X0 _ _ x2
 clear b2 m2 t2 x2 HX2 HX3
 generalize w2.setRow g X0 = w3 at b3 m3 t3 x3 ⊢
 have q1 : w3.cell? ⟨w.heap.size, 1, none⟩ = some (.int .i64 op) := (cell_of_heap m3 1).trans (by rw [← HA.out]; rfl)
 go_simp
 have f0 : (op == 0) = false := beq_false_of_ne (fun h => by subst h; exact hn (by decide))
 have f2 : (op == 2) = false := beq_false_of_ne (fun h => by subst h; exact hn (by decide))
 have f3 : (op == 3) = false := beq_false_of_ne (fun h => by subst h; exact hn (by decide))
 have f6 : (op == 6) = false := beq_false_of_ne (fun h => by subst h; exact hn (by decide))
 have f10 : (op == 10) = false := beq_false_of_ne (fun h => by subst h; exact hn (by decide))
 have f12 : (op == 12) = false := beq_false_of_ne (fun h => by subst h; exact hn (by decide))
 have f14 : (op == 14) = false := beq_false_of_ne (fun h => by subst h; exact hn (by decide))
 have f16 : (op == 16) = false := beq_false_of_ne (fun h => by subst h; exact hn (by decide))
 have f23 : (op == 23) = false := beq_false_of_ne (fun h => by subst h; exact hn (by decide))
 go_upto_region 15 with fail
 have a3 : (w3.alloc (.cells #[.int .i64 8, .int .i64 4] 3)).heap[w3.heap.size]? = some (.cells #[.int .i64 8, .int .i64 4] 3 (0, 0)) := alloc_at _ _ _ rfl
 have kc := isOp_any op w3.heap.size [8, 4] (w3.alloc (.cells #[.int .i64 8, .int .i64 4] 3)) (by simp) (fun j hj => by
  have h2 : j < 2 := hj
  have hcases : j = 0 ∨ j = 1 := by omega
  rcases hcases with rfl | rfl
  ·exact (cell_of_heap a3 0).trans rfl
  ·exact (cell_of_heap a3 1).trans rfl)
 rw [show ([8, 4] : List Int).contains op = false from by
  simp only [List.contains_cons, List.contains_nil, Bool.or_false, Bool.or_eq_false_iff]
  exact ⟨beq_false_of_ne (fun h => by subst h; exact hn (by decide)), beq_false_of_ne (fun h => by subst h; exact hn (by decide))⟩] at kc
 have b4 := b3.trans ((Below.refl w3.heap.size w3).alloc (Nat.le_refl _) (.cells #[.int .i64 8, .int .i64 4] 3) |>.mono b3.size)
 have m4 := (alloc_old w3 (.cells #[.int .i64 8, .int .i64 4] 3) w.heap.size (gl m3)).trans m3
 have t4 := (alloc_old w3 (.cells #[.int .i64 8, .int .i64 4] 3) (w.heap.size + 1) (gl t3)).trans t3
 have x4 := (alloc_old w3 (.cells #[.int .i64 8, .int .i64 4] 3) g (gl x3)).trans x3
 clear b3 m3 t3 x3 a3
 go_wp2_with fail
 clear q1
 generalize w3.alloc (.cells #[.int .i64 8, .int .i64 4] 3) = w4 at b4 m4 t4 x4 kc ⊢
 refine Calls.mono kc ?_
 rintro e w' ⟨rfl, hw'⟩
 rw [hw']
 clear hw' kc
 have q1 : w4.cell? ⟨w.heap.size, 1, none⟩ = some (.int .i64 op) := (cell_of_heap m4 1).trans (by rw [← HA.out]; rfl)
 have kr := isRes_any op w4
 rw [show isResL.contains op = false from by simpa using hr0] at kr
 go_wp2_with fail
 refine Calls.mono kr ?_
 rintro e w5 ⟨rfl, hb5⟩
 have m5 := (hb5.block _ (gl m4)).trans m4
 have t5 := (hb5.block _ (gl t4)).trans t4
 have x5 := (hb5.block _ (gl x4)).trans x4
 have b5 := b4.trans (hb5.mono b4.size)
 clear kr hb5 m4 t4 x4 b4 q1
 have q1 : w5.cell? ⟨w.heap.size, 1, none⟩ = some (.int .i64 op) := (cell_of_heap m5 1).trans (by rw [← HA.out]; rfl)
 go_upto_region 36 with fail
 clear q1
 have hOK : OK = false := by rw [← HOK.out]; simp [kindB, show op ≠ 0 from by simpa using f0, show op ≠ 3 from by simpa using f3, show op ≠ 6 from by simpa using f6, show ¬ (op = 8 ∨ op = 4) from by intro h; rcases h with rfl | rfl <;> exact hn (by decide), show op ≠ 10 from by simpa using f10, show op ≠ 12 from by simpa using f12, show op ≠ 14 from by simpa using f14, show op ≠ 16 from by simpa using f16, show op ≠ 23 from by simpa using f23, show op ≠ 24 from by rintro rfl; exact hr0 (by decide), show op ≠ 2 from by simpa using f2, hr0]
 have HOK2 := hid hOK
 clear hOK
 have hRX : R = X0 := by
  rw [← HR.out, ← HX0.out]
  simp [bareM, show op ≠ 0 from by simpa using f0, show op ≠ 3 from by simpa using f3, show op ≠ 6 from by simpa using f6, show ¬ (op = 8 ∨ op = 4) from by intro h; rcases h with rfl | rfl <;> exact hn (by decide), show op ≠ 10 from by simpa using f10, show op ≠ 12 from by simpa using f12, show op ≠ 14 from by simpa using f14, show op ≠ 16 from by simpa using f16, show op ≠ 23 from by simpa using f23, show op ≠ 24 from by rintro rfl; exact hr0 (by decide), show op ≠ 2 from by simpa using f2, hr0]
 have HRX := hid hRX
 clear hRX
 refine wp_region_list ?_
 have hX1 : X0.all (·.oneCell') = true := by rw [← HX0.out]; simp [Mg.row, Value.oneCell']
 have hX2 : X0.size = 28 := by rw [← HX0.out]; rfl
 have HX1 := hid hX1
 have HX2 := hid hX2
 clear hX1 hX2
 refine wpList_loadRow rfl 28 (.tmp 4) rfl g 28 _ (0, 0) (by rfl) x5 _ Tryz.underlying28 rfl (by rw [HX2.out]; rfl) ?_
 refine wpList_plain rfl fun K hK => ?_; go_simp; refine hK _ _ ?_; clear hK K
 have b60 := below_row b5 (g := w.heap.size + 1) (by omega) X0
 have t60 := setRow_heap w5 (w.heap.size + 1) _ X0 _ _ t5
 refine wpList_storeRow rfl 28 (.tmp 2) (.tmp 231) rfl (w.heap.size + 1) 28 _ X0 (by rfl) (by rfl) t5 (by rw [HX2.out]; rfl) (by rw [HX2.out]; rfl) HX1.out ?_
 generalize w5.setRow (w.heap.size + 1) X0 = w60 at b60 t60 ⊢
 clear b5 m5 t5 x5
 go_simp
 go_wp2_with fail
 refine bodyPost_ret (v := .tuple #[.agg X0, .bool false]) ?_ rfl ⟨by rw [HRX.out, HOK2.out], b60⟩
 have hr := run_loadVar_row (P := Tryz.prog) w60 (w.heap.size + 1) 28 28 X0 (0, 0) _ t60 (show Tryz.prog.underlying 28 = _ from Tryz.underlying28) (by rfl) (by rw [HX2.out]; rfl)
 simp [results, Tryz.f39]
 show ((Sem.run Tryz.prog (loadVar 28 ⟨w.heap.size + 1, 0, none⟩) w60).andThen fun a w' => Result.ok (Value.tuple #[a, Value.bool false]) w') = _
 rw [hr]
 simp
end Go.Proofs.YthjaiigijbjloaaGreatDoor
