/- BaB. -/
import Derived.Test.YthjaiigijbjloaaGreatDoorQ34
namespace Go.Proofs.YthjaiigijbjloaaGreatDoor
open Go.RowKit Go.Lib
set_option maxRecDepth 100000 in
set_option maxHeartbeats 4000000 in
theorem bare_search_g (m : Mg) (l : Ls) (w : World) (hm : MgM w m l) (hop : m.op = 3) (kf : ∀ w' : World, Below w.heap.size w w' → Calls Tryz.prog 90 #[m.filt] w' fun e w2 => e = .returned (.bool (filtB l.filt)) ∧ Below w'.heap.size w' w2) :
  Calls Tryz.prog 39 #[.agg (Mg.row m)] w fun e w' => e = .returned (.tuple #[.agg (Mg.row (bareM m)), .bool (kindB m l)]) ∧ Below w.heap.size w w' := by
 obtain ⟨OK, hOK⟩ : ∃ b, kindB m l = b := ⟨_, rfl⟩
 rw [hOK]
 obtain ⟨af, cf, hf⟩ := hm.filt.shape
 obtain ⟨az, cz, hs, -, -⟩ := hm.sel
 obtain ⟨am, cm, hmo, -, -⟩ := hm.mods
 obtain ⟨aa, ca, hat, -, -⟩ := hm.attrs
 obtain ⟨ak, ck, hct, -, -⟩ := hm.ctl
 clear hm
 obtain ⟨nf, hnf⟩ : ∃ n, l.filt.length = n := ⟨_, rfl⟩
 obtain ⟨nz, hns⟩ : ∃ n, l.sel.length = n := ⟨_, rfl⟩
 obtain ⟨nm, hnm⟩ : ∃ n, l.mods.length = n := ⟨_, rfl⟩
 obtain ⟨na, hna⟩ : ∃ n, l.attrs.length = n := ⟨_, rfl⟩
 obtain ⟨nk, hnk⟩ : ∃ n, l.ctl.length = n := ⟨_, rfl⟩
 rw [hnf] at hf
 rw [hns] at hs
 rw [hnm] at hmo
 rw [hna] at hat
 rw [hnk] at hct
 obtain ⟨id, op, dn, ver, sasl, secret, scope, deref, size, time, types, filt, sel, mods, attrs, newRdn, newSup, delOld, hasSup, typ, value, oid, has, target, code, matched, text, ctl⟩ := m
 simp only at hop hf hs hmo hat hct kf
 subst hop hf hs hmo hat hct
 clear hnf hns hnm hna hnk
 have HOK := hid hOK
 clear hOK
 obtain ⟨R, hR⟩ : ∃ R, Mg.row (bareM { id := id, op := 3, dn := dn, ver := ver, sasl := sasl, secret := secret, scope := scope, deref := deref, size := size, time := time, types := types, filt := .slice af nf cf, sel := .slice az nz cz, mods := .slice am nm cm, attrs := .slice aa na ca, newRdn := newRdn, newSup := newSup, delOld := delOld, hasSup := hasSup, typ := typ, value := value, oid := oid, has := has, target := target, code := code, matched := matched, text := text, ctl := .slice ak nk ck }) = R := ⟨_, rfl⟩
 obtain ⟨A, hA⟩ : ∃ A, Mg.row { id := id, op := 3, dn := dn, ver := ver, sasl := sasl, secret := secret, scope := scope, deref := deref, size := size, time := time, types := types, filt := .slice af nf cf, sel := .slice az nz cz, mods := .slice am nm cm, attrs := .slice aa na ca, newRdn := newRdn, newSup := newSup, delOld := delOld, hasSup := hasSup, typ := typ, value := value, oid := oid, has := has, target := target, code := code, matched := matched, text := text, ctl := .slice ak nk ck } = A := ⟨_, rfl⟩
 rw [hA, hR]
 have HA := hid hA
 have HR := hid hR
 clear hA hR
 have b1 : Below w.heap.size w ((w.alloc (.cells A 28)).alloc (.cells Zm 28)) := ((Below.refl _ _).alloc (Nat.le_refl _) _).alloc (by simp) _
 have m1 : ((w.alloc (.cells A 28)).alloc (.cells Zm 28)).heap[w.heap.size]? = some (.cells A 28 (0, 0)) := (alloc_old _ _ _ (by simp)).trans (alloc_at _ _ _ rfl)
 have t1 : ((w.alloc (.cells A 28)).alloc (.cells Zm 28)).heap[w.heap.size + 1]? = some (.cells (Mg.row {}) 28 (0, 0)) := alloc_at _ _ _ (by simp)
 have hsz : ((w.alloc (.cells A 28)).alloc (.cells Zm 28)).heap.size = w.heap.size + 2 := by simp
 have HS := hid hsz
 clear hsz
 go_enter Tryz.func39, Tryz.ntmps39
 refine wp_seq ?_
 refine wp_region_list ?_
 iterate 2 (refine wpList_plain rfl fun K hK => ?_; go_simp; refine hK _ _ ?_; clear hK K)
 generalize ((w.alloc (.cells A 28)).alloc (.cells Zm 28)) = w1 at b1 m1 t1 HS ⊢
 have q0 : w1.cell? ⟨w.heap.size, 0, none⟩ = some (.int .i64 id) := (cell_of_heap m1 0).trans (by rw [← HA.out]; rfl)
 have q1 : w1.cell? ⟨w.heap.size, 1, none⟩ = some (.int .i64 3) := (cell_of_heap m1 1).trans (by rw [← HA.out]; rfl)
 have q27 : w1.cell? ⟨w.heap.size, 27, none⟩ = some (.slice ak nk ck) := (cell_of_heap m1 27).trans (by rw [← HA.out]; rfl)
 obtain ⟨X0, hX⟩ : ∃ X, Mg.row { id := id, op := 3, ctl := .slice ak nk ck } = X := ⟨_, rfl⟩
 have hX1 : (#[.int .i64 id, .int .i64 3, .string ⟨#[]⟩, .int .i64 0, .bool false, .string ⟨#[]⟩, .int .i64 0, .int .i64 0, .int .i64 0, .int .i64 0, .bool false, .slice none 0 0, .slice none 0 0, .slice none 0 0, .slice none 0 0, .string ⟨#[]⟩, .string ⟨#[]⟩, .bool false, .bool false, .string ⟨#[]⟩, .string ⟨#[]⟩, .string ⟨#[]⟩, .bool false, .int .i64 0, .int .i64 0, .string ⟨#[]⟩, .string ⟨#[]⟩, .slice ak nk ck] : Array Value) = X0 := hX
 have hX2 : X0.all (·.oneCell') = true := by rw [← hX]; simp [Mg.row, Value.oneCell']
 have hX3 : X0.size = 28 := by rw [← hX]; rfl
 have HX0 := hid hX
 have HX1 := hid hX1
 have HX2 := hid hX2
 have HX3 := hid hX3
 clear hX hX1 hX2 hX3
 go_upto_region 1 with fail
 refine wp_region_list ?_
 iterate 6 (refine wpList_plain rfl fun K hK => ?_; go_simp; refine hK _ _ ?_; clear hK K)
 refine wpList_plain rfl fun K hK => ?_
 go_simp
 rw [HX1.out]
 refine hK _ _ ?_; clear hK K
 clear q0 q27 HX1
 refine wpList_plain rfl fun K hK => ?_; go_simp; refine hK _ _ ?_; clear hK K
 have b2 := b1.trans ((Below.refl w1.heap.size w1).alloc (Nat.le_refl _) (.cells Zm 28) |>.mono b1.size)
 have m2 := (alloc_old w1 (.cells Zm 28) w.heap.size (gl m1)).trans m1
 have t2 := (alloc_old w1 (.cells Zm 28) (w.heap.size + 1) (gl t1)).trans t1
 have x2 : (w1.alloc (.cells Zm 28)).heap[w1.heap.size]? = some (.cells (Mg.row {}) 28 (0, 0)) := alloc_at _ _ _ rfl
 have hg : w.heap.size + 1 < w1.heap.size := (gl t1)
 clear b1 m1 t1 q1
 generalize (w1.alloc (.cells Zm 28)) = w2 at b2 m2 t2 x2 ⊢
 generalize w1.heap.size = g at x2 hg ⊢
 clear HS
 refine wpList_storeRow rfl 28 (.tmp 4) (.tmp 12) rfl g 28 _ X0 (by rfl) (by rfl) x2 (by rw [HX3.out]; rfl) (by rw [HX3.out]; rfl) HX2.out ?_
 have b3 := below_row b2 (g := g) (by omega) X0
 have m3 := (setRow_other w2 g w.heap.size X0 (by omega)).trans m2
 have t3 := (setRow_other w2 g (w.heap.size + 1) X0 (by omega)).trans t2
 have x3 := setRow_heap w2 g _ X0 _ _ x2
 clear b2 m2 t2 x2 HX2 HX3
 generalize w2.setRow g X0 = w3 at b3 m3 t3 x3 ⊢
 have q1 : w3.cell? ⟨w.heap.size, 1, none⟩ = some (.int .i64 3) := (cell_of_heap m3 1).trans (by rw [← HA.out]; rfl)
 go_simp
 go_upto_region 9 with fail
 have T : w3.drew.heap[w.heap.size]? = some (.cells A 28 (0, 0)) ∧ w3.drew.heap[w.heap.size + 1]? = some (.cells (Mg.row {}) 28 (0, 0)) := ⟨m3, t3⟩
 have D : Below w.heap.size w w3.drew := b3.drew
 have Y : w3.drew.heap[g]? = some (.cells X0 28 (0, 0)) := x3
 refine wp_region_held (S := fun w' => w'.heap[w.heap.size]? = some (.cells A 28 (0, 0)) ∧ w'.heap[w.heap.size + 1]? = some (.cells (Mg.row {}) 28 (0, 0))) (by kernel_rfl) ?_
 change wpAnyH _ _ _ _ _ _ _ _ w3.drew
 clear m3 t3 b3 x3 q1
 generalize w3.drew = wr0 at T D Y ⊢
 refine tk 0 (.pointer (some ⟨w.heap.size, 2, none⟩)) rfl (fun w' hS => by go_simp) T (fun K hK => ?_); go_simp; refine hK _ _ ?_; clear hK K
 refine tk 1 (.string ⟨dn.toArray⟩) rfl (fun w' hS => by have q := (cell_of_heap hS.1 2).trans (show _ = some (.string ⟨dn.toArray⟩) from by rw [← HA.out]; rfl); go_simp) T (fun K hK => ?_); go_simp; refine hK _ _ ?_; clear hK K
 refine tk 2 (.pointer (some ⟨w.heap.size, 6, none⟩)) rfl (fun w' hS => by go_simp) T (fun K hK => ?_); go_simp; refine hK _ _ ?_; clear hK K
 refine tk 3 (.int .i64 scope) rfl (fun w' hS => by have q := (cell_of_heap hS.1 6).trans (show _ = some (.int .i64 scope) from by rw [← HA.out]; rfl); go_simp) T (fun K hK => ?_); go_simp; refine hK _ _ ?_; clear hK K
 refine tk 4 (.pointer (some ⟨w.heap.size, 7, none⟩)) rfl (fun w' hS => by go_simp) T (fun K hK => ?_); go_simp; refine hK _ _ ?_; clear hK K
 refine tk 5 (.int .i64 deref) rfl (fun w' hS => by have q := (cell_of_heap hS.1 7).trans (show _ = some (.int .i64 deref) from by rw [← HA.out]; rfl); go_simp) T (fun K hK => ?_); go_simp; refine hK _ _ ?_; clear hK K
 refine tk 6 (.pointer (some ⟨w.heap.size, 8, none⟩)) rfl (fun w' hS => by go_simp) T (fun K hK => ?_); go_simp; refine hK _ _ ?_; clear hK K
 refine tk 7 (.int .i64 size) rfl (fun w' hS => by have q := (cell_of_heap hS.1 8).trans (show _ = some (.int .i64 size) from by rw [← HA.out]; rfl); go_simp) T (fun K hK => ?_); go_simp; refine hK _ _ ?_; clear hK K
 refine tk 8 (.pointer (some ⟨w.heap.size, 9, none⟩)) rfl (fun w' hS => by go_simp) T (fun K hK => ?_); go_simp; refine hK _ _ ?_; clear hK K
 refine tk 9 (.int .i64 time) rfl (fun w' hS => by have q := (cell_of_heap hS.1 9).trans (show _ = some (.int .i64 time) from by rw [← HA.out]; rfl); go_simp) T (fun K hK => ?_); go_simp; refine hK _ _ ?_; clear hK K
 have HY := HX0.out
 have Y0 : wr0.heap[g]? = some (.cells (Mg.row { id := id, op := 3, ctl := .slice ak nk ck }) 28 (0, 0)) := by rw [HY]; exact Y
 clear HY Y
 refine tk 10 (.pointer (some ⟨g, 2, none⟩)) rfl (fun w' hS => by go_simp) T (fun K hK => ?_); go_simp; refine hK _ _ ?_; clear hK K
 have s : wr0.cell? ⟨g, 2, none⟩ = some (.string ⟨#[]⟩) := (cell_of_heap Y0 2).trans rfl
 have z := Lib.frozen_of_heap Y0 2
 have Y1 : (wr0.setCell ⟨g, 2, none⟩ (.string ⟨dn.toArray⟩)).heap[g]? = some (.cells (Mg.row { id := id, op := 3, ctl := .slice ak nk ck, dn := dn }) 28 (0, 0)) := setCell_at (i := 2) (u := .string ⟨dn.toArray⟩) Y0
 have T0 : (wr0.setCell ⟨g, 2, none⟩ (.string ⟨dn.toArray⟩)).heap[w.heap.size]? = some (.cells A 28 (0, 0)) ∧ (wr0.setCell ⟨g, 2, none⟩ (.string ⟨dn.toArray⟩)).heap[w.heap.size + 1]? = some (.cells (Mg.row {}) 28 (0, 0)) := ⟨(Below.heap_setCell wr0 ⟨g, 2, none⟩ _ w.heap.size (by show w.heap.size ≠ g; omega)).trans T.1, (Below.heap_setCell wr0 ⟨g, 2, none⟩ _ (w.heap.size + 1) (by show w.heap.size + 1 ≠ g; omega)).trans T.2⟩
 have D0 := D.setCell (p := ⟨g, 2, none⟩) (by show w.heap.size ≤ g; omega) (.string ⟨dn.toArray⟩)
 refine anyH_one 11 (by kernel_rfl) rfl (by rfl) (fun K hK => ?_); go_simp; refine hK _ _ T0 ?_; clear hK K
 clear s z Y0 T D
 have T := T0
 have D := D0
 clear T0 D0
 generalize wr0.setCell ⟨g, 2, none⟩ (.string ⟨dn.toArray⟩) = wr1 at T D Y1 ⊢
 refine tk 12 (.pointer (some ⟨g, 6, none⟩)) rfl (fun w' hS => by go_simp) T (fun K hK => ?_); go_simp; refine hK _ _ ?_; clear hK K
 have s : wr1.cell? ⟨g, 6, none⟩ = some (.int .i64 0) := (cell_of_heap Y1 6).trans rfl
 have z := Lib.frozen_of_heap Y1 6
 have Y2 : (wr1.setCell ⟨g, 6, none⟩ (.int .i64 scope)).heap[g]? = some (.cells (Mg.row { id := id, op := 3, ctl := .slice ak nk ck, dn := dn, scope := scope }) 28 (0, 0)) := setCell_at (i := 6) (u := .int .i64 scope) Y1
 have T1 : (wr1.setCell ⟨g, 6, none⟩ (.int .i64 scope)).heap[w.heap.size]? = some (.cells A 28 (0, 0)) ∧ (wr1.setCell ⟨g, 6, none⟩ (.int .i64 scope)).heap[w.heap.size + 1]? = some (.cells (Mg.row {}) 28 (0, 0)) := ⟨(Below.heap_setCell wr1 ⟨g, 6, none⟩ _ w.heap.size (by show w.heap.size ≠ g; omega)).trans T.1, (Below.heap_setCell wr1 ⟨g, 6, none⟩ _ (w.heap.size + 1) (by show w.heap.size + 1 ≠ g; omega)).trans T.2⟩
 have D1 := D.setCell (p := ⟨g, 6, none⟩) (by show w.heap.size ≤ g; omega) (.int .i64 scope)
 refine anyH_one 13 (by kernel_rfl) rfl (by rfl) (fun K hK => ?_); go_simp; refine hK _ _ T1 ?_; clear hK K
 clear s z Y1 T D
 have T := T1
 have D := D1
 clear T1 D1
 generalize wr1.setCell ⟨g, 6, none⟩ (.int .i64 scope) = wr2 at T D Y2 ⊢
 refine tk 14 (.pointer (some ⟨g, 7, none⟩)) rfl (fun w' hS => by go_simp) T (fun K hK => ?_); go_simp; refine hK _ _ ?_; clear hK K
 have s : wr2.cell? ⟨g, 7, none⟩ = some (.int .i64 0) := (cell_of_heap Y2 7).trans rfl
 have z := Lib.frozen_of_heap Y2 7
 have Y3 : (wr2.setCell ⟨g, 7, none⟩ (.int .i64 deref)).heap[g]? = some (.cells (Mg.row { id := id, op := 3, ctl := .slice ak nk ck, dn := dn, scope := scope, deref := deref }) 28 (0, 0)) := setCell_at (i := 7) (u := .int .i64 deref) Y2
 have T2 : (wr2.setCell ⟨g, 7, none⟩ (.int .i64 deref)).heap[w.heap.size]? = some (.cells A 28 (0, 0)) ∧ (wr2.setCell ⟨g, 7, none⟩ (.int .i64 deref)).heap[w.heap.size + 1]? = some (.cells (Mg.row {}) 28 (0, 0)) := ⟨(Below.heap_setCell wr2 ⟨g, 7, none⟩ _ w.heap.size (by show w.heap.size ≠ g; omega)).trans T.1, (Below.heap_setCell wr2 ⟨g, 7, none⟩ _ (w.heap.size + 1) (by show w.heap.size + 1 ≠ g; omega)).trans T.2⟩
 have D2 := D.setCell (p := ⟨g, 7, none⟩) (by show w.heap.size ≤ g; omega) (.int .i64 deref)
 refine anyH_one 15 (by kernel_rfl) rfl (by rfl) (fun K hK => ?_); go_simp; refine hK _ _ T2 ?_; clear hK K
 clear s z Y2 T D
 have T := T2
 have D := D2
 clear T2 D2
 generalize wr2.setCell ⟨g, 7, none⟩ (.int .i64 deref) = wr3 at T D Y3 ⊢
 refine tk 16 (.pointer (some ⟨g, 8, none⟩)) rfl (fun w' hS => by go_simp) T (fun K hK => ?_); go_simp; refine hK _ _ ?_; clear hK K
 have s : wr3.cell? ⟨g, 8, none⟩ = some (.int .i64 0) := (cell_of_heap Y3 8).trans rfl
 have z := Lib.frozen_of_heap Y3 8
 have Y4 : (wr3.setCell ⟨g, 8, none⟩ (.int .i64 size)).heap[g]? = some (.cells (Mg.row { id := id, op := 3, ctl := .slice ak nk ck, dn := dn, scope := scope, deref := deref, size := size }) 28 (0, 0)) := setCell_at (i := 8) (u := .int .i64 size) Y3
 have T3 : (wr3.setCell ⟨g, 8, none⟩ (.int .i64 size)).heap[w.heap.size]? = some (.cells A 28 (0, 0)) ∧ (wr3.setCell ⟨g, 8, none⟩ (.int .i64 size)).heap[w.heap.size + 1]? = some (.cells (Mg.row {}) 28 (0, 0)) := ⟨(Below.heap_setCell wr3 ⟨g, 8, none⟩ _ w.heap.size (by show w.heap.size ≠ g; omega)).trans T.1, (Below.heap_setCell wr3 ⟨g, 8, none⟩ _ (w.heap.size + 1) (by show w.heap.size + 1 ≠ g; omega)).trans T.2⟩
 have D3 := D.setCell (p := ⟨g, 8, none⟩) (by show w.heap.size ≤ g; omega) (.int .i64 size)
 refine anyH_one 17 (by kernel_rfl) rfl (by rfl) (fun K hK => ?_); go_simp; refine hK _ _ T3 ?_; clear hK K
 clear s z Y3 T D
 have T := T3
 have D := D3
 clear T3 D3
 generalize wr3.setCell ⟨g, 8, none⟩ (.int .i64 size) = wr4 at T D Y4 ⊢
 refine tk 18 (.pointer (some ⟨g, 9, none⟩)) rfl (fun w' hS => by go_simp) T (fun K hK => ?_); go_simp; refine hK _ _ ?_; clear hK K
 have s : wr4.cell? ⟨g, 9, none⟩ = some (.int .i64 0) := (cell_of_heap Y4 9).trans rfl
 have z := Lib.frozen_of_heap Y4 9
 have Y5 : (wr4.setCell ⟨g, 9, none⟩ (.int .i64 time)).heap[g]? = some (.cells (Mg.row { id := id, op := 3, ctl := .slice ak nk ck, dn := dn, scope := scope, deref := deref, size := size, time := time }) 28 (0, 0)) := setCell_at (i := 9) (u := .int .i64 time) Y4
 have T4 : (wr4.setCell ⟨g, 9, none⟩ (.int .i64 time)).heap[w.heap.size]? = some (.cells A 28 (0, 0)) ∧ (wr4.setCell ⟨g, 9, none⟩ (.int .i64 time)).heap[w.heap.size + 1]? = some (.cells (Mg.row {}) 28 (0, 0)) := ⟨(Below.heap_setCell wr4 ⟨g, 9, none⟩ _ w.heap.size (by show w.heap.size ≠ g; omega)).trans T.1, (Below.heap_setCell wr4 ⟨g, 9, none⟩ _ (w.heap.size + 1) (by show w.heap.size + 1 ≠ g; omega)).trans T.2⟩
 have D4 := D.setCell (p := ⟨g, 9, none⟩) (by show w.heap.size ≤ g; omega) (.int .i64 time)
 refine anyH_one 19 (by kernel_rfl) rfl (by rfl) (fun K hK => ?_); go_simp; refine hK _ _ T4 ?_; clear hK K
 clear s z Y4 T D
 have T := T4
 have D := D4
 clear T4 D4
 generalize wr4.setCell ⟨g, 9, none⟩ (.int .i64 time) = wr5 at T D Y5 ⊢
 refine wpAnyH_done (by kernel_rfl) ?_ _
 try simp only [Exit.then]
 refine ‹∀ (a : Act) (w : World), Code.wp _ _ _ a w → _› _ _ ?_
 have m4 := T.1
 have t4 := T.2
 have b4 := D
 obtain ⟨X1, hX⟩ : ∃ X, Mg.row { id := id, op := 3, ctl := .slice ak nk ck, dn := dn, scope := scope, deref := deref, size := size, time := time } = X := ⟨_, rfl⟩
 have x4 : wr5.heap[g]? = some (.cells X1 28 (0, 0)) := by rw [← hX]; exact Y5
 have HX1 := hid hX
 clear T D Y5 hX HX0
 obtain ⟨w4, hw4⟩ : ∃ w4, wr5 = w4 := ⟨_, rfl⟩
 rw [hw4] at m4 t4 b4 x4 ⊢
 clear hw4
 have q1 : w4.cell? ⟨w.heap.size, 1, none⟩ = some (.int .i64 3) := (cell_of_heap m4 1).trans (by rw [← HA.out]; rfl)
 go_upto_region 10 with fail
 have T : w4.drew.heap[w.heap.size]? = some (.cells A 28 (0, 0)) ∧ w4.drew.heap[w.heap.size + 1]? = some (.cells (Mg.row {}) 28 (0, 0)) := ⟨m4, t4⟩
 have D : Below w.heap.size w w4.drew := b4.drew
 have Y : w4.drew.heap[g]? = some (.cells X1 28 (0, 0)) := x4
 refine wp_region_held (S := fun w' => w'.heap[w.heap.size]? = some (.cells A 28 (0, 0)) ∧ w'.heap[w.heap.size + 1]? = some (.cells (Mg.row {}) 28 (0, 0))) (by kernel_rfl) ?_
 change wpAnyH _ _ _ _ _ _ _ _ w4.drew
 clear m4 t4 b4 x4 q1
 generalize w4.drew = wr0 at T D Y ⊢
 refine tk 0 (.pointer (some ⟨w.heap.size, 10, none⟩)) rfl (fun w' hS => by go_simp) T (fun K hK => ?_); go_simp; refine hK _ _ ?_; clear hK K
 refine tk 1 (.bool types) rfl (fun w' hS => by have q := (cell_of_heap hS.1 10).trans (show _ = some (.bool types) from by rw [← HA.out]; rfl); go_simp) T (fun K hK => ?_); go_simp; refine hK _ _ ?_; clear hK K
 refine tk 2 (.pointer (some ⟨w.heap.size, 11, none⟩)) rfl (fun w' hS => by go_simp) T (fun K hK => ?_); go_simp; refine hK _ _ ?_; clear hK K
 refine tk 3 (.slice af nf cf) rfl (fun w' hS => by have q := (cell_of_heap hS.1 11).trans (show _ = some (.slice af nf cf) from by rw [← HA.out]; rfl); go_simp) T (fun K hK => ?_); go_simp; refine hK _ _ ?_; clear hK K
 refine tk 4 (.pointer (some ⟨w.heap.size, 12, none⟩)) rfl (fun w' hS => by go_simp) T (fun K hK => ?_); go_simp; refine hK _ _ ?_; clear hK K
 refine tk 5 (.slice az nz cz) rfl (fun w' hS => by have q := (cell_of_heap hS.1 12).trans (show _ = some (.slice az nz cz) from by rw [← HA.out]; rfl); go_simp) T (fun K hK => ?_); go_simp; refine hK _ _ ?_; clear hK K
 have HY := HX1.out
 have Y0 : wr0.heap[g]? = some (.cells (Mg.row { id := id, op := 3, ctl := .slice ak nk ck, dn := dn, scope := scope, deref := deref, size := size, time := time }) 28 (0, 0)) := by rw [HY]; exact Y
 clear HY Y
 refine tk 6 (.pointer (some ⟨g, 10, none⟩)) rfl (fun w' hS => by go_simp) T (fun K hK => ?_); go_simp; refine hK _ _ ?_; clear hK K
 have s : wr0.cell? ⟨g, 10, none⟩ = some (.bool false) := (cell_of_heap Y0 10).trans rfl
 have z := Lib.frozen_of_heap Y0 10
 have Y1 : (wr0.setCell ⟨g, 10, none⟩ (.bool types)).heap[g]? = some (.cells (Mg.row { id := id, op := 3, ctl := .slice ak nk ck, dn := dn, scope := scope, deref := deref, size := size, time := time, types := types }) 28 (0, 0)) := setCell_at (i := 10) (u := .bool types) Y0
 have T0 : (wr0.setCell ⟨g, 10, none⟩ (.bool types)).heap[w.heap.size]? = some (.cells A 28 (0, 0)) ∧ (wr0.setCell ⟨g, 10, none⟩ (.bool types)).heap[w.heap.size + 1]? = some (.cells (Mg.row {}) 28 (0, 0)) := ⟨(Below.heap_setCell wr0 ⟨g, 10, none⟩ _ w.heap.size (by show w.heap.size ≠ g; omega)).trans T.1, (Below.heap_setCell wr0 ⟨g, 10, none⟩ _ (w.heap.size + 1) (by show w.heap.size + 1 ≠ g; omega)).trans T.2⟩
 have D0 := D.setCell (p := ⟨g, 10, none⟩) (by show w.heap.size ≤ g; omega) (.bool types)
 refine anyH_one 7 (by kernel_rfl) rfl (by rfl) (fun K hK => ?_); go_simp; refine hK _ _ T0 ?_; clear hK K
 clear s z Y0 T D
 have T := T0
 have D := D0
 clear T0 D0
 generalize wr0.setCell ⟨g, 10, none⟩ (.bool types) = wr1 at T D Y1 ⊢
 refine tk 8 (.pointer (some ⟨g, 11, none⟩)) rfl (fun w' hS => by go_simp) T (fun K hK => ?_); go_simp; refine hK _ _ ?_; clear hK K
 have s : wr1.cell? ⟨g, 11, none⟩ = some (.slice none 0 0) := (cell_of_heap Y1 11).trans rfl
 have z := Lib.frozen_of_heap Y1 11
 have Y2 : (wr1.setCell ⟨g, 11, none⟩ (.slice af nf cf)).heap[g]? = some (.cells (Mg.row { id := id, op := 3, ctl := .slice ak nk ck, dn := dn, scope := scope, deref := deref, size := size, time := time, types := types, filt := .slice af nf cf }) 28 (0, 0)) := setCell_at (i := 11) (u := .slice af nf cf) Y1
 have T1 : (wr1.setCell ⟨g, 11, none⟩ (.slice af nf cf)).heap[w.heap.size]? = some (.cells A 28 (0, 0)) ∧ (wr1.setCell ⟨g, 11, none⟩ (.slice af nf cf)).heap[w.heap.size + 1]? = some (.cells (Mg.row {}) 28 (0, 0)) := ⟨(Below.heap_setCell wr1 ⟨g, 11, none⟩ _ w.heap.size (by show w.heap.size ≠ g; omega)).trans T.1, (Below.heap_setCell wr1 ⟨g, 11, none⟩ _ (w.heap.size + 1) (by show w.heap.size + 1 ≠ g; omega)).trans T.2⟩
 have D1 := D.setCell (p := ⟨g, 11, none⟩) (by show w.heap.size ≤ g; omega) (.slice af nf cf)
 refine anyH_one 9 (by kernel_rfl) rfl (by rfl) (fun K hK => ?_); go_simp; refine hK _ _ T1 ?_; clear hK K
 clear s z Y1 T D
 have T := T1
 have D := D1
 clear T1 D1
 generalize wr1.setCell ⟨g, 11, none⟩ (.slice af nf cf) = wr2 at T D Y2 ⊢
 refine tk 10 (.pointer (some ⟨g, 12, none⟩)) rfl (fun w' hS => by go_simp) T (fun K hK => ?_); go_simp; refine hK _ _ ?_; clear hK K
 have s : wr2.cell? ⟨g, 12, none⟩ = some (.slice none 0 0) := (cell_of_heap Y2 12).trans rfl
 have z := Lib.frozen_of_heap Y2 12
 have Y3 : (wr2.setCell ⟨g, 12, none⟩ (.slice az nz cz)).heap[g]? = some (.cells (Mg.row { id := id, op := 3, ctl := .slice ak nk ck, dn := dn, scope := scope, deref := deref, size := size, time := time, types := types, filt := .slice af nf cf, sel := .slice az nz cz }) 28 (0, 0)) := setCell_at (i := 12) (u := .slice az nz cz) Y2
 have T2 : (wr2.setCell ⟨g, 12, none⟩ (.slice az nz cz)).heap[w.heap.size]? = some (.cells A 28 (0, 0)) ∧ (wr2.setCell ⟨g, 12, none⟩ (.slice az nz cz)).heap[w.heap.size + 1]? = some (.cells (Mg.row {}) 28 (0, 0)) := ⟨(Below.heap_setCell wr2 ⟨g, 12, none⟩ _ w.heap.size (by show w.heap.size ≠ g; omega)).trans T.1, (Below.heap_setCell wr2 ⟨g, 12, none⟩ _ (w.heap.size + 1) (by show w.heap.size + 1 ≠ g; omega)).trans T.2⟩
 have D2 := D.setCell (p := ⟨g, 12, none⟩) (by show w.heap.size ≤ g; omega) (.slice az nz cz)
 refine anyH_one 11 (by kernel_rfl) rfl (by rfl) (fun K hK => ?_); go_simp; refine hK _ _ T2 ?_; clear hK K
 clear s z Y2 T D
 have T := T2
 have D := D2
 clear T2 D2
 generalize wr2.setCell ⟨g, 12, none⟩ (.slice az nz cz) = wr3 at T D Y3 ⊢
 refine wpAnyH_done (by kernel_rfl) ?_ _
 try simp only [Exit.then]
 refine ‹∀ (a : Act) (w : World), Code.wp _ _ _ a w → _› _ _ ?_
 have m5 := T.1
 have t5 := T.2
 have b5 := D
 obtain ⟨X2, hX⟩ : ∃ X, Mg.row { id := id, op := 3, ctl := .slice ak nk ck, dn := dn, scope := scope, deref := deref, size := size, time := time, types := types, filt := .slice af nf cf, sel := .slice az nz cz } = X := ⟨_, rfl⟩
 have x5 : wr3.heap[g]? = some (.cells X2 28 (0, 0)) := by rw [← hX]; exact Y3
 have HX2 := hid hX
 clear T D Y3 hX HX1
 obtain ⟨w5, hw5⟩ : ∃ w5, wr3 = w5 := ⟨_, rfl⟩
 rw [hw5] at m5 t5 b5 x5 ⊢
 clear hw5
 have q1 : w5.cell? ⟨w.heap.size, 1, none⟩ = some (.int .i64 3) := (cell_of_heap m5 1).trans (by rw [← HA.out]; rfl)
 have q6 : w5.cell? ⟨w.heap.size, 6, none⟩ = some (.int .i64 scope) := (cell_of_heap m5 6).trans (by rw [← HA.out]; rfl)
 have q7 : w5.cell? ⟨w.heap.size, 7, none⟩ = some (.int .i64 deref) := (cell_of_heap m5 7).trans (by rw [← HA.out]; rfl)
 have q8 : w5.cell? ⟨w.heap.size, 8, none⟩ = some (.int .i64 size) := (cell_of_heap m5 8).trans (by rw [← HA.out]; rfl)
 have q9 : w5.cell? ⟨w.heap.size, 9, none⟩ = some (.int .i64 time) := (cell_of_heap m5 9).trans (by rw [← HA.out]; rfl)
 have q11 : w5.cell? ⟨w.heap.size, 11, none⟩ = some (.slice af nf cf) := (cell_of_heap m5 11).trans (by rw [← HA.out]; rfl)
 have KF := hid (kf w5 b5)
 clear kf
 clear q1
 rcases hr0 : rngB scope 2 with _ | _
 ·have kr := inRange_any scope 2 w5
  rw [hr0] at kr
  go_wp2_with fail
  refine Calls.mono kr ?_
  rintro e w' ⟨rfl, hw'⟩
  rw [hw']
  clear hw' kr
  go_upto_region 36 with fail
  clear q6 q7 q8 q9 q11
  have hOK : OK = false := by rw [← HOK.out]; simp [kindB, hr0]
  have HOK2 := hid hOK
  clear hOK
  have hRX : R = X2 := by
   rw [← HR.out, ← HX2.out]
   simp [bareM]
  have HRX := hid hRX
  clear hRX
  refine wp_region_list ?_
  have hX1 : X2.all (·.oneCell') = true := by rw [← HX2.out]; simp [Mg.row, Value.oneCell']
  have hX2 : X2.size = 28 := by rw [← HX2.out]; rfl
  have HX1 := hid hX1
  have HX2 := hid hX2
  clear hX1 hX2
  refine wpList_loadRow rfl 28 (.tmp 4) rfl g 28 _ (0, 0) (by rfl) x5 _ Tryz.underlying28 rfl (by rw [HX2.out]; rfl) ?_
  refine wpList_plain rfl fun K hK => ?_; go_simp; refine hK _ _ ?_; clear hK K
  have b60 := below_row b5 (g := w.heap.size + 1) (by omega) X2
  have t60 := setRow_heap w5 (w.heap.size + 1) _ X2 _ _ t5
  refine wpList_storeRow rfl 28 (.tmp 2) (.tmp 231) rfl (w.heap.size + 1) 28 _ X2 (by rfl) (by rfl) t5 (by rw [HX2.out]; rfl) (by rw [HX2.out]; rfl) HX1.out ?_
  generalize w5.setRow (w.heap.size + 1) X2 = w60 at b60 t60 ⊢
  clear b5 m5 t5 x5
  go_simp
  go_wp2_with fail
  refine bodyPost_ret (v := .tuple #[.agg X2, .bool false]) ?_ rfl ⟨by rw [HRX.out, HOK2.out], b60⟩
  have hr := run_loadVar_row (P := Tryz.prog) w60 (w.heap.size + 1) 28 28 X2 (0, 0) _ t60 (show Tryz.prog.underlying 28 = _ from Tryz.underlying28) (by rfl) (by rw [HX2.out]; rfl)
  simp [results, Tryz.f39]
  show ((Sem.run Tryz.prog (loadVar 28 ⟨w.heap.size + 1, 0, none⟩) w60).andThen fun a w' => Result.ok (Value.tuple #[a, Value.bool false]) w') = _
  rw [hr]
  simp
 rcases hr1 : rngB deref 3 with _ | _
 ·have kr := inRange_any scope 2 w5
  rw [hr0] at kr
  go_wp2_with fail
  refine Calls.mono kr ?_
  rintro e w' ⟨rfl, hw'⟩
  rw [hw']
  clear hw' kr
  have kr := inRange_any deref 3 w5
  rw [hr1] at kr
  go_wp2_with fail
  refine Calls.mono kr ?_
  rintro e w' ⟨rfl, hw'⟩
  rw [hw']
  clear hw' kr
  go_upto_region 36 with fail
  clear q6 q7 q8 q9 q11
  have hOK : OK = false := by rw [← HOK.out]; simp [kindB, hr0, hr1]
  have HOK2 := hid hOK
  clear hOK
  have hRX : R = X2 := by
   rw [← HR.out, ← HX2.out]
   simp [bareM]
  have HRX := hid hRX
  clear hRX
  refine wp_region_list ?_
  have hX1 : X2.all (·.oneCell') = true := by rw [← HX2.out]; simp [Mg.row, Value.oneCell']
  have hX2 : X2.size = 28 := by rw [← HX2.out]; rfl
  have HX1 := hid hX1
  have HX2 := hid hX2
  clear hX1 hX2
  refine wpList_loadRow rfl 28 (.tmp 4) rfl g 28 _ (0, 0) (by rfl) x5 _ Tryz.underlying28 rfl (by rw [HX2.out]; rfl) ?_
  refine wpList_plain rfl fun K hK => ?_; go_simp; refine hK _ _ ?_; clear hK K
  have b60 := below_row b5 (g := w.heap.size + 1) (by omega) X2
  have t60 := setRow_heap w5 (w.heap.size + 1) _ X2 _ _ t5
  refine wpList_storeRow rfl 28 (.tmp 2) (.tmp 231) rfl (w.heap.size + 1) 28 _ X2 (by rfl) (by rfl) t5 (by rw [HX2.out]; rfl) (by rw [HX2.out]; rfl) HX1.out ?_
  generalize w5.setRow (w.heap.size + 1) X2 = w60 at b60 t60 ⊢
  clear b5 m5 t5 x5
  go_simp
  go_wp2_with fail
  refine bodyPost_ret (v := .tuple #[.agg X2, .bool false]) ?_ rfl ⟨by rw [HRX.out, HOK2.out], b60⟩
  have hr := run_loadVar_row (P := Tryz.prog) w60 (w.heap.size + 1) 28 28 X2 (0, 0) _ t60 (show Tryz.prog.underlying 28 = _ from Tryz.underlying28) (by rfl) (by rw [HX2.out]; rfl)
  simp [results, Tryz.f39]
  show ((Sem.run Tryz.prog (loadVar 28 ⟨w.heap.size + 1, 0, none⟩) w60).andThen fun a w' => Result.ok (Value.tuple #[a, Value.bool false]) w') = _
  rw [hr]
  simp
 rcases hr2 : rngB size 2147483647 with _ | _
 ·have kr := inRange_any scope 2 w5
  rw [hr0] at kr
  go_wp2_with fail
  refine Calls.mono kr ?_
  rintro e w' ⟨rfl, hw'⟩
  rw [hw']
  clear hw' kr
  have kr := inRange_any deref 3 w5
  rw [hr1] at kr
  go_wp2_with fail
  refine Calls.mono kr ?_
  rintro e w' ⟨rfl, hw'⟩
  rw [hw']
  clear hw' kr
  have kr := inRange_any size 2147483647 w5
  rw [hr2] at kr
  go_wp2_with fail
  refine Calls.mono kr ?_
  rintro e w' ⟨rfl, hw'⟩
  rw [hw']
  clear hw' kr
  go_upto_region 36 with fail
  clear q6 q7 q8 q9 q11
  have hOK : OK = false := by rw [← HOK.out]; simp [kindB, hr0, hr1, hr2]
  have HOK2 := hid hOK
  clear hOK
  have hRX : R = X2 := by
   rw [← HR.out, ← HX2.out]
   simp [bareM]
  have HRX := hid hRX
  clear hRX
  refine wp_region_list ?_
  have hX1 : X2.all (·.oneCell') = true := by rw [← HX2.out]; simp [Mg.row, Value.oneCell']
  have hX2 : X2.size = 28 := by rw [← HX2.out]; rfl
  have HX1 := hid hX1
  have HX2 := hid hX2
  clear hX1 hX2
  refine wpList_loadRow rfl 28 (.tmp 4) rfl g 28 _ (0, 0) (by rfl) x5 _ Tryz.underlying28 rfl (by rw [HX2.out]; rfl) ?_
  refine wpList_plain rfl fun K hK => ?_; go_simp; refine hK _ _ ?_; clear hK K
  have b60 := below_row b5 (g := w.heap.size + 1) (by omega) X2
  have t60 := setRow_heap w5 (w.heap.size + 1) _ X2 _ _ t5
  refine wpList_storeRow rfl 28 (.tmp 2) (.tmp 231) rfl (w.heap.size + 1) 28 _ X2 (by rfl) (by rfl) t5 (by rw [HX2.out]; rfl) (by rw [HX2.out]; rfl) HX1.out ?_
  generalize w5.setRow (w.heap.size + 1) X2 = w60 at b60 t60 ⊢
  clear b5 m5 t5 x5
  go_simp
  go_wp2_with fail
  refine bodyPost_ret (v := .tuple #[.agg X2, .bool false]) ?_ rfl ⟨by rw [HRX.out, HOK2.out], b60⟩
  have hr := run_loadVar_row (P := Tryz.prog) w60 (w.heap.size + 1) 28 28 X2 (0, 0) _ t60 (show Tryz.prog.underlying 28 = _ from Tryz.underlying28) (by rfl) (by rw [HX2.out]; rfl)
  simp [results, Tryz.f39]
  show ((Sem.run Tryz.prog (loadVar 28 ⟨w.heap.size + 1, 0, none⟩) w60).andThen fun a w' => Result.ok (Value.tuple #[a, Value.bool false]) w') = _
  rw [hr]
  simp
 rcases hr3 : rngB time 2147483647 with _ | _
 ·have kr := inRange_any scope 2 w5
  rw [hr0] at kr
  go_wp2_with fail
  refine Calls.mono kr ?_
  rintro e w' ⟨rfl, hw'⟩
  rw [hw']
  clear hw' kr
  have kr := inRange_any deref 3 w5
  rw [hr1] at kr
  go_wp2_with fail
  refine Calls.mono kr ?_
  rintro e w' ⟨rfl, hw'⟩
  rw [hw']
  clear hw' kr
  have kr := inRange_any size 2147483647 w5
  rw [hr2] at kr
  go_wp2_with fail
  refine Calls.mono kr ?_
  rintro e w' ⟨rfl, hw'⟩
  rw [hw']
  clear hw' kr
  have kr := inRange_any time 2147483647 w5
  rw [hr3] at kr
  go_wp2_with fail
  refine Calls.mono kr ?_
  rintro e w' ⟨rfl, hw'⟩
  rw [hw']
  clear hw' kr
  go_upto_region 36 with fail
  clear q6 q7 q8 q9 q11
  have hOK : OK = false := by rw [← HOK.out]; simp [kindB, hr0, hr1, hr2, hr3]
  have HOK2 := hid hOK
  clear hOK
  have hRX : R = X2 := by
   rw [← HR.out, ← HX2.out]
   simp [bareM]
  have HRX := hid hRX
  clear hRX
  refine wp_region_list ?_
  have hX1 : X2.all (·.oneCell') = true := by rw [← HX2.out]; simp [Mg.row, Value.oneCell']
  have hX2 : X2.size = 28 := by rw [← HX2.out]; rfl
  have HX1 := hid hX1
  have HX2 := hid hX2
  clear hX1 hX2
  refine wpList_loadRow rfl 28 (.tmp 4) rfl g 28 _ (0, 0) (by rfl) x5 _ Tryz.underlying28 rfl (by rw [HX2.out]; rfl) ?_
  refine wpList_plain rfl fun K hK => ?_; go_simp; refine hK _ _ ?_; clear hK K
  have b60 := below_row b5 (g := w.heap.size + 1) (by omega) X2
  have t60 := setRow_heap w5 (w.heap.size + 1) _ X2 _ _ t5
  refine wpList_storeRow rfl 28 (.tmp 2) (.tmp 231) rfl (w.heap.size + 1) 28 _ X2 (by rfl) (by rfl) t5 (by rw [HX2.out]; rfl) (by rw [HX2.out]; rfl) HX1.out ?_
  generalize w5.setRow (w.heap.size + 1) X2 = w60 at b60 t60 ⊢
  clear b5 m5 t5 x5
  go_simp
  go_wp2_with fail
  refine bodyPost_ret (v := .tuple #[.agg X2, .bool false]) ?_ rfl ⟨by rw [HRX.out, HOK2.out], b60⟩
  have hr := run_loadVar_row (P := Tryz.prog) w60 (w.heap.size + 1) 28 28 X2 (0, 0) _ t60 (show Tryz.prog.underlying 28 = _ from Tryz.underlying28) (by rfl) (by rw [HX2.out]; rfl)
  simp [results, Tryz.f39]
  show ((Sem.run Tryz.prog (loadVar 28 ⟨w.heap.size + 1, 0, none⟩) w60).andThen fun a w' => Result.ok (Value.tuple #[a, Value.bool false]) w') = _
  rw [hr]
  simp
 have kr := inRange_any scope 2 w5
 rw [hr0] at kr
 go_wp2_with fail
 refine Calls.mono kr ?_
 rintro e w' ⟨rfl, hw'⟩
 rw [hw']
 clear hw' kr
 have kr := inRange_any deref 3 w5
 rw [hr1] at kr
 go_wp2_with fail
 refine Calls.mono kr ?_
 rintro e w' ⟨rfl, hw'⟩
 rw [hw']
 clear hw' kr
 have kr := inRange_any size 2147483647 w5
 rw [hr2] at kr
 go_wp2_with fail
 refine Calls.mono kr ?_
 rintro e w' ⟨rfl, hw'⟩
 rw [hw']
 clear hw' kr
 have kr := inRange_any time 2147483647 w5
 rw [hr3] at kr
 go_wp2_with fail
 refine Calls.mono kr ?_
 rintro e w' ⟨rfl, hw'⟩
 rw [hw']
 clear hw' kr
 have kf := KF.out
 go_wp2_with fail
 refine Calls.mono kf ?_
 rintro e w6 ⟨rfl, hb⟩
 have m6 := (hb.block _ (gl m5)).trans m5
 have t6 := (hb.block _ (gl t5)).trans t5
 have x6 := (hb.block _ (gl x5)).trans x5
 have b6 := b5.trans (hb.mono b5.size)
 clear kf KF hb m5 t5 x5 b5 q6 q7 q8 q9 q11
 obtain ⟨FB, hFB⟩ : ∃ b, filtB l.filt = b := ⟨_, rfl⟩
 rw [hFB]
 have hFOK : OK = FB := by rw [← HOK.out, ← hFB]; simp [kindB, hr0, hr1, hr2, hr3]
 clear hFB
 cases FB
 ·go_upto_region 36 with fail
  have hOK : OK = false := hFOK
  have HOK2 := hid hOK
  clear hOK
  have hRX : R = X2 := by
   rw [← HR.out, ← HX2.out]
   simp [bareM]
  have HRX := hid hRX
  clear hRX
  refine wp_region_list ?_
  have hX1 : X2.all (·.oneCell') = true := by rw [← HX2.out]; simp [Mg.row, Value.oneCell']
  have hX2 : X2.size = 28 := by rw [← HX2.out]; rfl
  have HX1 := hid hX1
  have HX2 := hid hX2
  clear hX1 hX2
  refine wpList_loadRow rfl 28 (.tmp 4) rfl g 28 _ (0, 0) (by rfl) x6 _ Tryz.underlying28 rfl (by rw [HX2.out]; rfl) ?_
  refine wpList_plain rfl fun K hK => ?_; go_simp; refine hK _ _ ?_; clear hK K
  have b60 := below_row b6 (g := w.heap.size + 1) (by omega) X2
  have t60 := setRow_heap w6 (w.heap.size + 1) _ X2 _ _ t6
  refine wpList_storeRow rfl 28 (.tmp 2) (.tmp 231) rfl (w.heap.size + 1) 28 _ X2 (by rfl) (by rfl) t6 (by rw [HX2.out]; rfl) (by rw [HX2.out]; rfl) HX1.out ?_
  generalize w6.setRow (w.heap.size + 1) X2 = w60 at b60 t60 ⊢
  clear b6 m6 t6 x6
  go_simp
  go_wp2_with fail
  refine bodyPost_ret (v := .tuple #[.agg X2, .bool false]) ?_ rfl ⟨by rw [HRX.out, HOK2.out], b60⟩
  have hr := run_loadVar_row (P := Tryz.prog) w60 (w.heap.size + 1) 28 28 X2 (0, 0) _ t60 (show Tryz.prog.underlying 28 = _ from Tryz.underlying28) (by rfl) (by rw [HX2.out]; rfl)
  simp [results, Tryz.f39]
  show ((Sem.run Tryz.prog (loadVar 28 ⟨w.heap.size + 1, 0, none⟩) w60).andThen fun a w' => Result.ok (Value.tuple #[a, Value.bool false]) w') = _
  rw [hr]
  simp
 ·go_upto_region 36 with fail
  have hOK : OK = true := hFOK
  have HOK2 := hid hOK
  clear hOK
  have hRX : R = X2 := by
   rw [← HR.out, ← HX2.out]
   simp [bareM]
  have HRX := hid hRX
  clear hRX
  refine wp_region_list ?_
  have hX1 : X2.all (·.oneCell') = true := by rw [← HX2.out]; simp [Mg.row, Value.oneCell']
  have hX2 : X2.size = 28 := by rw [← HX2.out]; rfl
  have HX1 := hid hX1
  have HX2 := hid hX2
  clear hX1 hX2
  refine wpList_loadRow rfl 28 (.tmp 4) rfl g 28 _ (0, 0) (by rfl) x6 _ Tryz.underlying28 rfl (by rw [HX2.out]; rfl) ?_
  refine wpList_plain rfl fun K hK => ?_; go_simp; refine hK _ _ ?_; clear hK K
  have b60 := below_row b6 (g := w.heap.size + 1) (by omega) X2
  have t60 := setRow_heap w6 (w.heap.size + 1) _ X2 _ _ t6
  refine wpList_storeRow rfl 28 (.tmp 2) (.tmp 231) rfl (w.heap.size + 1) 28 _ X2 (by rfl) (by rfl) t6 (by rw [HX2.out]; rfl) (by rw [HX2.out]; rfl) HX1.out ?_
  generalize w6.setRow (w.heap.size + 1) X2 = w60 at b60 t60 ⊢
  clear b6 m6 t6 x6
  go_simp
  go_wp2_with fail
  refine bodyPost_ret (v := .tuple #[.agg X2, .bool true]) ?_ rfl ⟨by rw [HRX.out, HOK2.out], b60⟩
  have hr := run_loadVar_row (P := Tryz.prog) w60 (w.heap.size + 1) 28 28 X2 (0, 0) _ t60 (show Tryz.prog.underlying 28 = _ from Tryz.underlying28) (by rfl) (by rw [HX2.out]; rfl)
  simp [results, Tryz.f39]
  show ((Sem.run Tryz.prog (loadVar 28 ⟨w.heap.size + 1, 0, none⟩) w60).andThen fun a w' => Result.ok (Value.tuple #[a, Value.bool true]) w') = _
  rw [hr]
  simp
end Go.Proofs.YthjaiigijbjloaaGreatDoor
