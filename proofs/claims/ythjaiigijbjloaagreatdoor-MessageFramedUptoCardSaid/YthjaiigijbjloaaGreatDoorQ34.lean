/- BaA. -/
import Derived.Test.YthjaiigijbjloaaGreatDoorQ33
namespace Go.Proofs.YthjaiigijbjloaaGreatDoor
open Go.RowKit Go.Lib
set_option maxRecDepth 100000 in
theorem inRange_any (n most : Int) (w : World) : Calls Tryz.prog 40 #[.int .i64 n, .int .i64 most] w fun e w' => e = .returned (.bool (rngB n most)) ∧ w' = w := by
 by_cases h0 : 0 ≤ n
 ·by_cases h1 : n ≤ most
  ·rw [show rngB n most = true by simp [rngB, h0, h1]]
   exact inRange_ok n most h0 h1 w
  ·rw [show rngB n most = false by simp [rngB, h1]]
   have f0 : decide (n ≥ 0) = true := decide_eq_true h0
   have f2 : decide (0 ≤ n) = true := decide_eq_true h0
   have f1 : decide (n ≤ most) = false := decide_eq_false h1
   go_enter Tryz.func40, Tryz.ntmps40
   go_wp2_with fail
   go_ret
   exact ⟨rfl, rfl⟩
 ·rw [show rngB n most = false by simp [rngB, h0]]
  have f0 : decide (n ≥ 0) = false := decide_eq_false h0
  have f2 : decide (0 ≤ n) = false := decide_eq_false h0
  go_enter Tryz.func40, Tryz.ntmps40
  go_wp2_with fail
  go_ret
  exact ⟨rfl, rfl⟩
set_option maxRecDepth 100000 in
set_option maxHeartbeats 4000000 in
theorem bare_bind_g (m : Mg) (l : Ls) (w : World) (hm : MgM w m l) (hop : m.op = 0) :
  Calls Tryz.prog 39 #[.agg (Mg.row m)] w fun e w' => e = .returned (.tuple #[.agg (Mg.row (bareM m)), .bool (kindB m l)]) ∧ Below w.heap.size w w' := by
 obtain ⟨OK, hOK⟩ : ∃ b, kindB m l = b := ⟨_, rfl⟩
 rw [hOK]
 obtain ⟨af, cf, hf⟩ := hm.filt.shape
 obtain ⟨az, cz, hs, -, -⟩ := hm.sel
 obtain ⟨am, cm, hmo, -, -⟩ := hm.mods
 obtain ⟨aa, ca, hat, -, -⟩ := hm.attrs
 obtain ⟨ak, ck, hct, -, -⟩ := hm.ctl
 clear hm
 obtain ⟨nf, hnf⟩ : ∃ n, l.filt.length = n := ⟨_, rfl⟩
 obtain ⟨nz, hns⟩ : ∃ n, l.sel.length = n := ⟨_, rfl⟩
 obtain ⟨nm, hnm⟩ : ∃ n, l.mods.length = n := ⟨_, rfl⟩
 obtain ⟨na, hna⟩ : ∃ n, l.attrs.length = n := ⟨_, rfl⟩
 obtain ⟨nk, hnk⟩ : ∃ n, l.ctl.length = n := ⟨_, rfl⟩
 rw [hnf] at hf
 rw [hns] at hs
 rw [hnm] at hmo
 rw [hna] at hat
 rw [hnk] at hct
 obtain ⟨id, op, dn, ver, sasl, secret, scope, deref, size, time, types, filt, sel, mods, attrs, newRdn, newSup, delOld, hasSup, typ, value, oid, has, target, code, matched, text, ctl⟩ := m
 simp only at hop hf hs hmo hat hct 
 subst hop hf hs hmo hat hct
 clear hnf hns hnm hna hnk
 have HOK := hid hOK
 clear hOK
 obtain ⟨R, hR⟩ : ∃ R, Mg.row (bareM { id := id, op := 0, dn := dn, ver := ver, sasl := sasl, secret := secret, scope := scope, deref := deref, size := size, time := time, types := types, filt := .slice af nf cf, sel := .slice az nz cz, mods := .slice am nm cm, attrs := .slice aa na ca, newRdn := newRdn, newSup := newSup, delOld := delOld, hasSup := hasSup, typ := typ, value := value, oid := oid, has := has, target := target, code := code, matched := matched, text := text, ctl := .slice ak nk ck }) = R := ⟨_, rfl⟩
 obtain ⟨A, hA⟩ : ∃ A, Mg.row { id := id, op := 0, dn := dn, ver := ver, sasl := sasl, secret := secret, scope := scope, deref := deref, size := size, time := time, types := types, filt := .slice af nf cf, sel := .slice az nz cz, mods := .slice am nm cm, attrs := .slice aa na ca, newRdn := newRdn, newSup := newSup, delOld := delOld, hasSup := hasSup, typ := typ, value := value, oid := oid, has := has, target := target, code := code, matched := matched, text := text, ctl := .slice ak nk ck } = A := ⟨_, rfl⟩
 rw [hA, hR]
 have HA := hid hA
 have HR := hid hR
 clear hA hR
 have b1 : Below w.heap.size w ((w.alloc (.cells A 28)).alloc (.cells Zm 28)) := ((Below.refl _ _).alloc (Nat.le_refl _) _).alloc (by simp) _
 have m1 : ((w.alloc (.cells A 28)).alloc (.cells Zm 28)).heap[w.heap.size]? = some (.cells A 28 (0, 0)) := (alloc_old _ _ _ (by simp)).trans (alloc_at _ _ _ rfl)
 have t1 : ((w.alloc (.cells A 28)).alloc (.cells Zm 28)).heap[w.heap.size + 1]? = some (.cells (Mg.row {}) 28 (0, 0)) := alloc_at _ _ _ (by simp)
 have hsz : ((w.alloc (.cells A 28)).alloc (.cells Zm 28)).heap.size = w.heap.size + 2 := by simp
 have HS := hid hsz
 clear hsz
 go_enter Tryz.func39, Tryz.ntmps39
 refine wp_seq ?_
 refine wp_region_list ?_
 iterate 2 (refine wpList_plain rfl fun K hK => ?_; go_simp; refine hK _ _ ?_; clear hK K)
 generalize ((w.alloc (.cells A 28)).alloc (.cells Zm 28)) = w1 at b1 m1 t1 HS ⊢
 have q0 : w1.cell? ⟨w.heap.size, 0, none⟩ = some (.int .i64 id) := (cell_of_heap m1 0).trans (by rw [← HA.out]; rfl)
 have q1 : w1.cell? ⟨w.heap.size, 1, none⟩ = some (.int .i64 0) := (cell_of_heap m1 1).trans (by rw [← HA.out]; rfl)
 have q27 : w1.cell? ⟨w.heap.size, 27, none⟩ = some (.slice ak nk ck) := (cell_of_heap m1 27).trans (by rw [← HA.out]; rfl)
 obtain ⟨X0, hX⟩ : ∃ X, Mg.row { id := id, op := 0, ctl := .slice ak nk ck } = X := ⟨_, rfl⟩
 have hX1 : (#[.int .i64 id, .int .i64 0, .string ⟨#[]⟩, .int .i64 0, .bool false, .string ⟨#[]⟩, .int .i64 0, .int .i64 0, .int .i64 0, .int .i64 0, .bool false, .slice none 0 0, .slice none 0 0, .slice none 0 0, .slice none 0 0, .string ⟨#[]⟩, .string ⟨#[]⟩, .bool false, .bool false, .string ⟨#[]⟩, .string ⟨#[]⟩, .string ⟨#[]⟩, .bool false, .int .i64 0, .int .i64 0, .string ⟨#[]⟩, .string ⟨#[]⟩, .slice ak nk ck] : Array Value) = X0 := hX
 have hX2 : X0.all (·.oneCell') = true := by rw [← hX]; simp [Mg.row, Value.oneCell']
 have hX3 : X0.size = 28 := by rw [← hX]; rfl
 have HX0 := hid hX
 have HX1 := hid hX1
 have HX2 := hid hX2
 have HX3 := hid hX3
 clear hX hX1 hX2 hX3
 go_upto_region 1 with fail
 refine wp_region_list ?_
 iterate 6 (refine wpList_plain rfl fun K hK => ?_; go_simp; refine hK _ _ ?_; clear hK K)
 refine wpList_plain rfl fun K hK => ?_
 go_simp
 rw [HX1.out]
 refine hK _ _ ?_; clear hK K
 clear q0 q27 HX1
 refine wpList_plain rfl fun K hK => ?_; go_simp; refine hK _ _ ?_; clear hK K
 have b2 := b1.trans ((Below.refl w1.heap.size w1).alloc (Nat.le_refl _) (.cells Zm 28) |>.mono b1.size)
 have m2 := (alloc_old w1 (.cells Zm 28) w.heap.size (gl m1)).trans m1
 have t2 := (alloc_old w1 (.cells Zm 28) (w.heap.size + 1) (gl t1)).trans t1
 have x2 : (w1.alloc (.cells Zm 28)).heap[w1.heap.size]? = some (.cells (Mg.row {}) 28 (0, 0)) := alloc_at _ _ _ rfl
 have hg : w.heap.size + 1 < w1.heap.size := (gl t1)
 clear b1 m1 t1 q1
 generalize (w1.alloc (.cells Zm 28)) = w2 at b2 m2 t2 x2 ⊢
 generalize w1.heap.size = g at x2 hg ⊢
 clear HS
 refine wpList_storeRow rfl 28 (.tmp 4) (.tmp 12) rfl g 28 _ X0 (by rfl) (by rfl) x2 (by rw [HX3.out]; rfl) (by rw [HX3.out]; rfl) HX2.out ?_
 have b3 := below_row b2 (g := g) (by omega) X0
 have m3 := (setRow_other w2 g w.heap.size X0 (by omega)).trans m2
 have t3 := (setRow_other w2 g (w.heap.size + 1) X0 (by omega)).trans t2
 have x3 := setRow_heap w2 g _ X0 _ _ x2
 clear b2 m2 t2 x2 HX2 HX3
 generalize w2.setRow g X0 = w3 at b3 m3 t3 x3 ⊢
 have q1 : w3.cell? ⟨w.heap.size, 1, none⟩ = some (.int .i64 0) := (cell_of_heap m3 1).trans (by rw [← HA.out]; rfl)
 go_simp
 go_upto_region 5 with fail
 have T : w3.drew.heap[w.heap.size]? = some (.cells A 28 (0, 0)) ∧ w3.drew.heap[w.heap.size + 1]? = some (.cells (Mg.row {}) 28 (0, 0)) := ⟨m3, t3⟩
 have D : Below w.heap.size w w3.drew := b3.drew
 have Y : w3.drew.heap[g]? = some (.cells X0 28 (0, 0)) := x3
 refine wp_region_held (S := fun w' => w'.heap[w.heap.size]? = some (.cells A 28 (0, 0)) ∧ w'.heap[w.heap.size + 1]? = some (.cells (Mg.row {}) 28 (0, 0))) (by kernel_rfl) ?_
 change wpAnyH _ _ _ _ _ _ _ _ w3.drew
 clear m3 t3 b3 x3 q1
 generalize w3.drew = wr0 at T D Y ⊢
 refine tk 0 (.pointer (some ⟨w.heap.size, 3, none⟩)) rfl (fun w' hS => by go_simp) T (fun K hK => ?_); go_simp; refine hK _ _ ?_; clear hK K
 refine tk 1 (.int .i64 ver) rfl (fun w' hS => by have q := (cell_of_heap hS.1 3).trans (show _ = some (.int .i64 ver) from by rw [← HA.out]; rfl); go_simp) T (fun K hK => ?_); go_simp; refine hK _ _ ?_; clear hK K
 refine tk 2 (.pointer (some ⟨w.heap.size, 2, none⟩)) rfl (fun w' hS => by go_simp) T (fun K hK => ?_); go_simp; refine hK _ _ ?_; clear hK K
 refine tk 3 (.string ⟨dn.toArray⟩) rfl (fun w' hS => by have q := (cell_of_heap hS.1 2).trans (show _ = some (.string ⟨dn.toArray⟩) from by rw [← HA.out]; rfl); go_simp) T (fun K hK => ?_); go_simp; refine hK _ _ ?_; clear hK K
 refine tk 4 (.pointer (some ⟨w.heap.size, 4, none⟩)) rfl (fun w' hS => by go_simp) T (fun K hK => ?_); go_simp; refine hK _ _ ?_; clear hK K
 refine tk 5 (.bool sasl) rfl (fun w' hS => by have q := (cell_of_heap hS.1 4).trans (show _ = some (.bool sasl) from by rw [← HA.out]; rfl); go_simp) T (fun K hK => ?_); go_simp; refine hK _ _ ?_; clear hK K
 refine tk 6 (.pointer (some ⟨w.heap.size, 5, none⟩)) rfl (fun w' hS => by go_simp) T (fun K hK => ?_); go_simp; refine hK _ _ ?_; clear hK K
 refine tk 7 (.string ⟨secret.toArray⟩) rfl (fun w' hS => by have q := (cell_of_heap hS.1 5).trans (show _ = some (.string ⟨secret.toArray⟩) from by rw [← HA.out]; rfl); go_simp) T (fun K hK => ?_); go_simp; refine hK _ _ ?_; clear hK K
 have HY := HX0.out
 have Y0 : wr0.heap[g]? = some (.cells (Mg.row { id := id, op := 0, ctl := .slice ak nk ck }) 28 (0, 0)) := by rw [HY]; exact Y
 clear HY Y
 refine tk 8 (.pointer (some ⟨g, 3, none⟩)) rfl (fun w' hS => by go_simp) T (fun K hK => ?_); go_simp; refine hK _ _ ?_; clear hK K
 have s : wr0.cell? ⟨g, 3, none⟩ = some (.int .i64 0) := (cell_of_heap Y0 3).trans rfl
 have z := Lib.frozen_of_heap Y0 3
 have Y1 : (wr0.setCell ⟨g, 3, none⟩ (.int .i64 ver)).heap[g]? = some (.cells (Mg.row { id := id, op := 0, ctl := .slice ak nk ck, ver := ver }) 28 (0, 0)) := setCell_at (i := 3) (u := .int .i64 ver) Y0
 have T0 : (wr0.setCell ⟨g, 3, none⟩ (.int .i64 ver)).heap[w.heap.size]? = some (.cells A 28 (0, 0)) ∧ (wr0.setCell ⟨g, 3, none⟩ (.int .i64 ver)).heap[w.heap.size + 1]? = some (.cells (Mg.row {}) 28 (0, 0)) := ⟨(Below.heap_setCell wr0 ⟨g, 3, none⟩ _ w.heap.size (by show w.heap.size ≠ g; omega)).trans T.1, (Below.heap_setCell wr0 ⟨g, 3, none⟩ _ (w.heap.size + 1) (by show w.heap.size + 1 ≠ g; omega)).trans T.2⟩
 have D0 := D.setCell (p := ⟨g, 3, none⟩) (by show w.heap.size ≤ g; omega) (.int .i64 ver)
 refine anyH_one 9 (by kernel_rfl) rfl (by rfl) (fun K hK => ?_); go_simp; refine hK _ _ T0 ?_; clear hK K
 clear s z Y0 T D
 have T := T0
 have D := D0
 clear T0 D0
 generalize wr0.setCell ⟨g, 3, none⟩ (.int .i64 ver) = wr1 at T D Y1 ⊢
 refine tk 10 (.pointer (some ⟨g, 2, none⟩)) rfl (fun w' hS => by go_simp) T (fun K hK => ?_); go_simp; refine hK _ _ ?_; clear hK K
 have s : wr1.cell? ⟨g, 2, none⟩ = some (.string ⟨#[]⟩) := (cell_of_heap Y1 2).trans rfl
 have z := Lib.frozen_of_heap Y1 2
 have Y2 : (wr1.setCell ⟨g, 2, none⟩ (.string ⟨dn.toArray⟩)).heap[g]? = some (.cells (Mg.row { id := id, op := 0, ctl := .slice ak nk ck, ver := ver, dn := dn }) 28 (0, 0)) := setCell_at (i := 2) (u := .string ⟨dn.toArray⟩) Y1
 have T1 : (wr1.setCell ⟨g, 2, none⟩ (.string ⟨dn.toArray⟩)).heap[w.heap.size]? = some (.cells A 28 (0, 0)) ∧ (wr1.setCell ⟨g, 2, none⟩ (.string ⟨dn.toArray⟩)).heap[w.heap.size + 1]? = some (.cells (Mg.row {}) 28 (0, 0)) := ⟨(Below.heap_setCell wr1 ⟨g, 2, none⟩ _ w.heap.size (by show w.heap.size ≠ g; omega)).trans T.1, (Below.heap_setCell wr1 ⟨g, 2, none⟩ _ (w.heap.size + 1) (by show w.heap.size + 1 ≠ g; omega)).trans T.2⟩
 have D1 := D.setCell (p := ⟨g, 2, none⟩) (by show w.heap.size ≤ g; omega) (.string ⟨dn.toArray⟩)
 refine anyH_one 11 (by kernel_rfl) rfl (by rfl) (fun K hK => ?_); go_simp; refine hK _ _ T1 ?_; clear hK K
 clear s z Y1 T D
 have T := T1
 have D := D1
 clear T1 D1
 generalize wr1.setCell ⟨g, 2, none⟩ (.string ⟨dn.toArray⟩) = wr2 at T D Y2 ⊢
 refine tk 12 (.pointer (some ⟨g, 4, none⟩)) rfl (fun w' hS => by go_simp) T (fun K hK => ?_); go_simp; refine hK _ _ ?_; clear hK K
 have s : wr2.cell? ⟨g, 4, none⟩ = some (.bool false) := (cell_of_heap Y2 4).trans rfl
 have z := Lib.frozen_of_heap Y2 4
 have Y3 : (wr2.setCell ⟨g, 4, none⟩ (.bool sasl)).heap[g]? = some (.cells (Mg.row { id := id, op := 0, ctl := .slice ak nk ck, ver := ver, dn := dn, sasl := sasl }) 28 (0, 0)) := setCell_at (i := 4) (u := .bool sasl) Y2
 have T2 : (wr2.setCell ⟨g, 4, none⟩ (.bool sasl)).heap[w.heap.size]? = some (.cells A 28 (0, 0)) ∧ (wr2.setCell ⟨g, 4, none⟩ (.bool sasl)).heap[w.heap.size + 1]? = some (.cells (Mg.row {}) 28 (0, 0)) := ⟨(Below.heap_setCell wr2 ⟨g, 4, none⟩ _ w.heap.size (by show w.heap.size ≠ g; omega)).trans T.1, (Below.heap_setCell wr2 ⟨g, 4, none⟩ _ (w.heap.size + 1) (by show w.heap.size + 1 ≠ g; omega)).trans T.2⟩
 have D2 := D.setCell (p := ⟨g, 4, none⟩) (by show w.heap.size ≤ g; omega) (.bool sasl)
 refine anyH_one 13 (by kernel_rfl) rfl (by rfl) (fun K hK => ?_); go_simp; refine hK _ _ T2 ?_; clear hK K
 clear s z Y2 T D
 have T := T2
 have D := D2
 clear T2 D2
 generalize wr2.setCell ⟨g, 4, none⟩ (.bool sasl) = wr3 at T D Y3 ⊢
 refine tk 14 (.pointer (some ⟨g, 5, none⟩)) rfl (fun w' hS => by go_simp) T (fun K hK => ?_); go_simp; refine hK _ _ ?_; clear hK K
 have s : wr3.cell? ⟨g, 5, none⟩ = some (.string ⟨#[]⟩) := (cell_of_heap Y3 5).trans rfl
 have z := Lib.frozen_of_heap Y3 5
 have Y4 : (wr3.setCell ⟨g, 5, none⟩ (.string ⟨secret.toArray⟩)).heap[g]? = some (.cells (Mg.row { id := id, op := 0, ctl := .slice ak nk ck, ver := ver, dn := dn, sasl := sasl, secret := secret }) 28 (0, 0)) := setCell_at (i := 5) (u := .string ⟨secret.toArray⟩) Y3
 have T3 : (wr3.setCell ⟨g, 5, none⟩ (.string ⟨secret.toArray⟩)).heap[w.heap.size]? = some (.cells A 28 (0, 0)) ∧ (wr3.setCell ⟨g, 5, none⟩ (.string ⟨secret.toArray⟩)).heap[w.heap.size + 1]? = some (.cells (Mg.row {}) 28 (0, 0)) := ⟨(Below.heap_setCell wr3 ⟨g, 5, none⟩ _ w.heap.size (by show w.heap.size ≠ g; omega)).trans T.1, (Below.heap_setCell wr3 ⟨g, 5, none⟩ _ (w.heap.size + 1) (by show w.heap.size + 1 ≠ g; omega)).trans T.2⟩
 have D3 := D.setCell (p := ⟨g, 5, none⟩) (by show w.heap.size ≤ g; omega) (.string ⟨secret.toArray⟩)
 refine anyH_one 15 (by kernel_rfl) rfl (by rfl) (fun K hK => ?_); go_simp; refine hK _ _ T3 ?_; clear hK K
 clear s z Y3 T D
 have T := T3
 have D := D3
 clear T3 D3
 generalize wr3.setCell ⟨g, 5, none⟩ (.string ⟨secret.toArray⟩) = wr4 at T D Y4 ⊢
 refine wpAnyH_done (by kernel_rfl) ?_ _
 try simp only [Exit.then]
 refine ‹∀ (a : Act) (w : World), Code.wp _ _ _ a w → _› _ _ ?_
 have m4 := T.1
 have t4 := T.2
 have b4 := D
 obtain ⟨X1, hX⟩ : ∃ X, Mg.row { id := id, op := 0, ctl := .slice ak nk ck, ver := ver, dn := dn, sasl := sasl, secret := secret } = X := ⟨_, rfl⟩
 have x4 : wr4.heap[g]? = some (.cells X1 28 (0, 0)) := by rw [← hX]; exact Y4
 have HX1 := hid hX
 clear T D Y4 hX HX0
 obtain ⟨w4, hw4⟩ : ∃ w4, wr4 = w4 := ⟨_, rfl⟩
 rw [hw4] at m4 t4 b4 x4 ⊢
 clear hw4
 have q1 : w4.cell? ⟨w.heap.size, 1, none⟩ = some (.int .i64 0) := (cell_of_heap m4 1).trans (by rw [← HA.out]; rfl)
 have q3 : w4.cell? ⟨w.heap.size, 3, none⟩ = some (.int .i64 ver) := (cell_of_heap m4 3).trans (by rw [← HA.out]; rfl)
 by_cases h0 : 1 ≤ ver
 ·by_cases h1 : ver ≤ 127
  ·have f0 : decide (ver ≥ 1) = true := decide_eq_true h0
   have f1 : decide (ver ≤ 127) = true := decide_eq_true h1
   have f2 : decide (1 ≤ ver) = true := decide_eq_true h0
   go_upto_region 36 with fail
   clear q1 q3
   have hOK : OK = true := by rw [← HOK.out]; simp [kindB, rngB, h0, h1]
   have HOK2 := hid hOK
   clear hOK
   have hRX : R = X1 := by
    rw [← HR.out, ← HX1.out]
    simp [bareM]
   have HRX := hid hRX
   clear hRX
   refine wp_region_list ?_
   have hX1 : X1.all (·.oneCell') = true := by rw [← HX1.out]; simp [Mg.row, Value.oneCell']
   have hX2 : X1.size = 28 := by rw [← HX1.out]; rfl
   have HX1 := hid hX1
   have HX2 := hid hX2
   clear hX1 hX2
   refine wpList_loadRow rfl 28 (.tmp 4) rfl g 28 _ (0, 0) (by rfl) x4 _ Tryz.underlying28 rfl (by rw [HX2.out]; rfl) ?_
   refine wpList_plain rfl fun K hK => ?_; go_simp; refine hK _ _ ?_; clear hK K
   have b60 := below_row b4 (g := w.heap.size + 1) (by omega) X1
   have t60 := setRow_heap w4 (w.heap.size + 1) _ X1 _ _ t4
   refine wpList_storeRow rfl 28 (.tmp 2) (.tmp 231) rfl (w.heap.size + 1) 28 _ X1 (by rfl) (by rfl) t4 (by rw [HX2.out]; rfl) (by rw [HX2.out]; rfl) HX1.out ?_
   generalize w4.setRow (w.heap.size + 1) X1 = w60 at b60 t60 ⊢
   clear b4 m4 t4 x4
   go_simp
   go_wp2_with fail
   refine bodyPost_ret (v := .tuple #[.agg X1, .bool true]) ?_ rfl ⟨by rw [HRX.out, HOK2.out], b60⟩
   have hr := run_loadVar_row (P := Tryz.prog) w60 (w.heap.size + 1) 28 28 X1 (0, 0) _ t60 (show Tryz.prog.underlying 28 = _ from Tryz.underlying28) (by rfl) (by rw [HX2.out]; rfl)
   simp [results, Tryz.f39]
   show ((Sem.run Tryz.prog (loadVar 28 ⟨w.heap.size + 1, 0, none⟩) w60).andThen fun a w' => Result.ok (Value.tuple #[a, Value.bool true]) w') = _
   rw [hr]
   simp
  ·have f0 : decide (ver ≥ 1) = true := decide_eq_true h0
   have f1 : decide (ver ≤ 127) = false := decide_eq_false h1
   have f2 : decide (1 ≤ ver) = true := decide_eq_true h0
   go_upto_region 36 with fail
   clear q1 q3
   have hOK : OK = false := by rw [← HOK.out]; simp [kindB, rngB, h0, h1]
   have HOK2 := hid hOK
   clear hOK
   have hRX : R = X1 := by
    rw [← HR.out, ← HX1.out]
    simp [bareM]
   have HRX := hid hRX
   clear hRX
   refine wp_region_list ?_
   have hX1 : X1.all (·.oneCell') = true := by rw [← HX1.out]; simp [Mg.row, Value.oneCell']
   have hX2 : X1.size = 28 := by rw [← HX1.out]; rfl
   have HX1 := hid hX1
   have HX2 := hid hX2
   clear hX1 hX2
   refine wpList_loadRow rfl 28 (.tmp 4) rfl g 28 _ (0, 0) (by rfl) x4 _ Tryz.underlying28 rfl (by rw [HX2.out]; rfl) ?_
   refine wpList_plain rfl fun K hK => ?_; go_simp; refine hK _ _ ?_; clear hK K
   have b60 := below_row b4 (g := w.heap.size + 1) (by omega) X1
   have t60 := setRow_heap w4 (w.heap.size + 1) _ X1 _ _ t4
   refine wpList_storeRow rfl 28 (.tmp 2) (.tmp 231) rfl (w.heap.size + 1) 28 _ X1 (by rfl) (by rfl) t4 (by rw [HX2.out]; rfl) (by rw [HX2.out]; rfl) HX1.out ?_
   generalize w4.setRow (w.heap.size + 1) X1 = w60 at b60 t60 ⊢
   clear b4 m4 t4 x4
   go_simp
   go_wp2_with fail
   refine bodyPost_ret (v := .tuple #[.agg X1, .bool false]) ?_ rfl ⟨by rw [HRX.out, HOK2.out], b60⟩
   have hr := run_loadVar_row (P := Tryz.prog) w60 (w.heap.size + 1) 28 28 X1 (0, 0) _ t60 (show Tryz.prog.underlying 28 = _ from Tryz.underlying28) (by rfl) (by rw [HX2.out]; rfl)
   simp [results, Tryz.f39]
   show ((Sem.run Tryz.prog (loadVar 28 ⟨w.heap.size + 1, 0, none⟩) w60).andThen fun a w' => Result.ok (Value.tuple #[a, Value.bool false]) w') = _
   rw [hr]
   simp
 ·have f0 : decide (ver ≥ 1) = false := decide_eq_false h0
  have f2 : decide (1 ≤ ver) = false := decide_eq_false h0
  go_upto_region 36 with fail
  clear q1 q3
  have hOK : OK = false := by rw [← HOK.out]; simp [kindB, rngB, h0]
  have HOK2 := hid hOK
  clear hOK
  have hRX : R = X1 := by
   rw [← HR.out, ← HX1.out]
   simp [bareM]
  have HRX := hid hRX
  clear hRX
  refine wp_region_list ?_
  have hX1 : X1.all (·.oneCell') = true := by rw [← HX1.out]; simp [Mg.row, Value.oneCell']
  have hX2 : X1.size = 28 := by rw [← HX1.out]; rfl
  have HX1 := hid hX1
  have HX2 := hid hX2
  clear hX1 hX2
  refine wpList_loadRow rfl 28 (.tmp 4) rfl g 28 _ (0, 0) (by rfl) x4 _ Tryz.underlying28 rfl (by rw [HX2.out]; rfl) ?_
  refine wpList_plain rfl fun K hK => ?_; go_simp; refine hK _ _ ?_; clear hK K
  have b60 := below_row b4 (g := w.heap.size + 1) (by omega) X1
  have t60 := setRow_heap w4 (w.heap.size + 1) _ X1 _ _ t4
  refine wpList_storeRow rfl 28 (.tmp 2) (.tmp 231) rfl (w.heap.size + 1) 28 _ X1 (by rfl) (by rfl) t4 (by rw [HX2.out]; rfl) (by rw [HX2.out]; rfl) HX1.out ?_
  generalize w4.setRow (w.heap.size + 1) X1 = w60 at b60 t60 ⊢
  clear b4 m4 t4 x4
  go_simp
  go_wp2_with fail
  refine bodyPost_ret (v := .tuple #[.agg X1, .bool false]) ?_ rfl ⟨by rw [HRX.out, HOK2.out], b60⟩
  have hr := run_loadVar_row (P := Tryz.prog) w60 (w.heap.size + 1) 28 28 X1 (0, 0) _ t60 (show Tryz.prog.underlying 28 = _ from Tryz.underlying28) (by rfl) (by rw [HX2.out]; rfl)
  simp [results, Tryz.f39]
  show ((Sem.run Tryz.prog (loadVar 28 ⟨w.heap.size + 1, 0, none⟩) w60).andThen fun a w' => Result.ok (Value.tuple #[a, Value.bool false]) w') = _
  rw [hr]
  simp
set_option maxRecDepth 100000 in
set_option maxHeartbeats 4000000 in
theorem bare_unbind_g (m : Mg) (l : Ls) (w : World) (hm : MgM w m l) (hop : m.op = 2) :
  Calls Tryz.prog 39 #[.agg (Mg.row m)] w fun e w' => e = .returned (.tuple #[.agg (Mg.row (bareM m)), .bool (kindB m l)]) ∧ Below w.heap.size w w' := by
 obtain ⟨OK, hOK⟩ : ∃ b, kindB m l = b := ⟨_, rfl⟩
 rw [hOK]
 obtain ⟨af, cf, hf⟩ := hm.filt.shape
 obtain ⟨az, cz, hs, -, -⟩ := hm.sel
 obtain ⟨am, cm, hmo, -, -⟩ := hm.mods
 obtain ⟨aa, ca, hat, -, -⟩ := hm.attrs
 obtain ⟨ak, ck, hct, -, -⟩ := hm.ctl
 clear hm
 obtain ⟨nf, hnf⟩ : ∃ n, l.filt.length = n := ⟨_, rfl⟩
 obtain ⟨nz, hns⟩ : ∃ n, l.sel.length = n := ⟨_, rfl⟩
 obtain ⟨nm, hnm⟩ : ∃ n, l.mods.length = n := ⟨_, rfl⟩
 obtain ⟨na, hna⟩ : ∃ n, l.attrs.length = n := ⟨_, rfl⟩
 obtain ⟨nk, hnk⟩ : ∃ n, l.ctl.length = n := ⟨_, rfl⟩
 rw [hnf] at hf
 rw [hns] at hs
 rw [hnm] at hmo
 rw [hna] at hat
 rw [hnk] at hct
 obtain ⟨id, op, dn, ver, sasl, secret, scope, deref, size, time, types, filt, sel, mods, attrs, newRdn, newSup, delOld, hasSup, typ, value, oid, has, target, code, matched, text, ctl⟩ := m
 simp only at hop hf hs hmo hat hct 
 subst hop hf hs hmo hat hct
 clear hnf hns hnm hna hnk
 have HOK := hid hOK
 clear hOK
 obtain ⟨R, hR⟩ : ∃ R, Mg.row (bareM { id := id, op := 2, dn := dn, ver := ver, sasl := sasl, secret := secret, scope := scope, deref := deref, size := size, time := time, types := types, filt := .slice af nf cf, sel := .slice az nz cz, mods := .slice am nm cm, attrs := .slice aa na ca, newRdn := newRdn, newSup := newSup, delOld := delOld, hasSup := hasSup, typ := typ, value := value, oid := oid, has := has, target := target, code := code, matched := matched, text := text, ctl := .slice ak nk ck }) = R := ⟨_, rfl⟩
 obtain ⟨A, hA⟩ : ∃ A, Mg.row { id := id, op := 2, dn := dn, ver := ver, sasl := sasl, secret := secret, scope := scope, deref := deref, size := size, time := time, types := types, filt := .slice af nf cf, sel := .slice az nz cz, mods := .slice am nm cm, attrs := .slice aa na ca, newRdn := newRdn, newSup := newSup, delOld := delOld, hasSup := hasSup, typ := typ, value := value, oid := oid, has := has, target := target, code := code, matched := matched, text := text, ctl := .slice ak nk ck } = A := ⟨_, rfl⟩
 rw [hA, hR]
 have HA := hid hA
 have HR := hid hR
 clear hA hR
 have b1 : Below w.heap.size w ((w.alloc (.cells A 28)).alloc (.cells Zm 28)) := ((Below.refl _ _).alloc (Nat.le_refl _) _).alloc (by simp) _
 have m1 : ((w.alloc (.cells A 28)).alloc (.cells Zm 28)).heap[w.heap.size]? = some (.cells A 28 (0, 0)) := (alloc_old _ _ _ (by simp)).trans (alloc_at _ _ _ rfl)
 have t1 : ((w.alloc (.cells A 28)).alloc (.cells Zm 28)).heap[w.heap.size + 1]? = some (.cells (Mg.row {}) 28 (0, 0)) := alloc_at _ _ _ (by simp)
 have hsz : ((w.alloc (.cells A 28)).alloc (.cells Zm 28)).heap.size = w.heap.size + 2 := by simp
 have HS := hid hsz
 clear hsz
 go_enter Tryz.func39, Tryz.ntmps39
 refine wp_seq ?_
 refine wp_region_list ?_
 iterate 2 (refine wpList_plain rfl fun K hK => ?_; go_simp; refine hK _ _ ?_; clear hK K)
 generalize ((w.alloc (.cells A 28)).alloc (.cells Zm 28)) = w1 at b1 m1 t1 HS ⊢
 have q0 : w1.cell? ⟨w.heap.size, 0, none⟩ = some (.int .i64 id) := (cell_of_heap m1 0).trans (by rw [← HA.out]; rfl)
 have q1 : w1.cell? ⟨w.heap.size, 1, none⟩ = some (.int .i64 2) := (cell_of_heap m1 1).trans (by rw [← HA.out]; rfl)
 have q27 : w1.cell? ⟨w.heap.size, 27, none⟩ = some (.slice ak nk ck) := (cell_of_heap m1 27).trans (by rw [← HA.out]; rfl)
 obtain ⟨X0, hX⟩ : ∃ X, Mg.row { id := id, op := 2, ctl := .slice ak nk ck } = X := ⟨_, rfl⟩
 have hX1 : (#[.int .i64 id, .int .i64 2, .string ⟨#[]⟩, .int .i64 0, .bool false, .string ⟨#[]⟩, .int .i64 0, .int .i64 0, .int .i64 0, .int .i64 0, .bool false, .slice none 0 0, .slice none 0 0, .slice none 0 0, .slice none 0 0, .string ⟨#[]⟩, .string ⟨#[]⟩, .bool false, .bool false, .string ⟨#[]⟩, .string ⟨#[]⟩, .string ⟨#[]⟩, .bool false, .int .i64 0, .int .i64 0, .string ⟨#[]⟩, .string ⟨#[]⟩, .slice ak nk ck] : Array Value) = X0 := hX
 have hX2 : X0.all (·.oneCell') = true := by rw [← hX]; simp [Mg.row, Value.oneCell']
 have hX3 : X0.size = 28 := by rw [← hX]; rfl
 have HX0 := hid hX
 have HX1 := hid hX1
 have HX2 := hid hX2
 have HX3 := hid hX3
 clear hX hX1 hX2 hX3
 go_upto_region 1 with fail
 refine wp_region_list ?_
 iterate 6 (refine wpList_plain rfl fun K hK => ?_; go_simp; refine hK _ _ ?_; clear hK K)
 refine wpList_plain rfl fun K hK => ?_
 go_simp
 rw [HX1.out]
 refine hK _ _ ?_; clear hK K
 clear q0 q27 HX1
 refine wpList_plain rfl fun K hK => ?_; go_simp; refine hK _ _ ?_; clear hK K
 have b2 := b1.trans ((Below.refl w1.heap.size w1).alloc (Nat.le_refl _) (.cells Zm 28) |>.mono b1.size)
 have m2 := (alloc_old w1 (.cells Zm 28) w.heap.size (gl m1)).trans m1
 have t2 := (alloc_old w1 (.cells Zm 28) (w.heap.size + 1) (gl t1)).trans t1
 have x2 : (w1.alloc (.cells Zm 28)).heap[w1.heap.size]? = some (.cells (Mg.row {}) 28 (0, 0)) := alloc_at _ _ _ rfl
 have hg : w.heap.size + 1 < w1.heap.size := (gl t1)
 clear b1 m1 t1 q1
 generalize (w1.alloc (.cells Zm 28)) = w2 at b2 m2 t2 x2 ⊢
 generalize w1.heap.size = g at x2 hg ⊢
 clear HS
 refine wpList_storeRow rfl 28 (.tmp 4) (.tmp 12) rfl g 28 _ X0 (by rfl) (by rfl) x2 (by rw [HX3.out]; rfl) (by rw [HX3.out]; rfl) HX2.out ?_
 have b3 := below_row b2 (g := g) (by omega) X0
 have m3 := (setRow_other w2 g w.heap.size X0 (by omega)).trans m2
 have t3 := (setRow_other w2 g (w.heap.size + 1) X0 (by omega)).trans t2
 have x3 := setRow_heap w2 g _ X0 _ _ x2
 clear b2 m2 t2 x2 HX2 HX3
 generalize w2.setRow g X0 = w3 at b3 m3 t3 x3 ⊢
 have q1 : w3.cell? ⟨w.heap.size, 1, none⟩ = some (.int .i64 2) := (cell_of_heap m3 1).trans (by rw [← HA.out]; rfl)
 go_simp
 go_upto_region 36 with fail
 clear q1
 have hOK : OK = true := by rw [← HOK.out]; simp [kindB, rngB]
 have HOK2 := hid hOK
 clear hOK
 have hRX : R = X0 := by
  rw [← HR.out, ← HX0.out]
  simp [bareM, isResL]
 have HRX := hid hRX
 clear hRX
 refine wp_region_list ?_
 have hX1 : X0.all (·.oneCell') = true := by rw [← HX0.out]; simp [Mg.row, Value.oneCell']
 have hX2 : X0.size = 28 := by rw [← HX0.out]; rfl
 have HX1 := hid hX1
 have HX2 := hid hX2
 clear hX1 hX2
 refine wpList_loadRow rfl 28 (.tmp 4) rfl g 28 _ (0, 0) (by rfl) x3 _ Tryz.underlying28 rfl (by rw [HX2.out]; rfl) ?_
 refine wpList_plain rfl fun K hK => ?_; go_simp; refine hK _ _ ?_; clear hK K
 have b60 := below_row b3 (g := w.heap.size + 1) (by omega) X0
 have t60 := setRow_heap w3 (w.heap.size + 1) _ X0 _ _ t3
 refine wpList_storeRow rfl 28 (.tmp 2) (.tmp 231) rfl (w.heap.size + 1) 28 _ X0 (by rfl) (by rfl) t3 (by rw [HX2.out]; rfl) (by rw [HX2.out]; rfl) HX1.out ?_
 generalize w3.setRow (w.heap.size + 1) X0 = w60 at b60 t60 ⊢
 clear b3 m3 t3 x3
 go_simp
 go_wp2_with fail
 refine bodyPost_ret (v := .tuple #[.agg X0, .bool true]) ?_ rfl ⟨by rw [HRX.out, HOK2.out], b60⟩
 have hr := run_loadVar_row (P := Tryz.prog) w60 (w.heap.size + 1) 28 28 X0 (0, 0) _ t60 (show Tryz.prog.underlying 28 = _ from Tryz.underlying28) (by rfl) (by rw [HX2.out]; rfl)
 simp [results, Tryz.f39]
 show ((Sem.run Tryz.prog (loadVar 28 ⟨w.heap.size + 1, 0, none⟩) w60).andThen fun a w' => Result.ok (Value.tuple #[a, Value.bool true]) w') = _
 rw [hr]
 simp
set_option maxRecDepth 100000 in
set_option maxHeartbeats 4000000 in
theorem bare_add_g (m : Mg) (l : Ls) (w : World) (hm : MgM w m l) (hop : m.op = 8) :
  Calls Tryz.prog 39 #[.agg (Mg.row m)] w fun e w' => e = .returned (.tuple #[.agg (Mg.row (bareM m)), .bool (kindB m l)]) ∧ Below w.heap.size w w' := by
 obtain ⟨OK, hOK⟩ : ∃ b, kindB m l = b := ⟨_, rfl⟩
 rw [hOK]
 obtain ⟨af, cf, hf⟩ := hm.filt.shape
 obtain ⟨az, cz, hs, -, -⟩ := hm.sel
 obtain ⟨am, cm, hmo, -, -⟩ := hm.mods
 obtain ⟨aa, ca, hat, -, -⟩ := hm.attrs
 obtain ⟨ak, ck, hct, -, -⟩ := hm.ctl
 clear hm
 obtain ⟨nf, hnf⟩ : ∃ n, l.filt.length = n := ⟨_, rfl⟩
 obtain ⟨nz, hns⟩ : ∃ n, l.sel.length = n := ⟨_, rfl⟩
 obtain ⟨nm, hnm⟩ : ∃ n, l.mods.length = n := ⟨_, rfl⟩
 obtain ⟨na, hna⟩ : ∃ n, l.attrs.length = n := ⟨_, rfl⟩
 obtain ⟨nk, hnk⟩ : ∃ n, l.ctl.length = n := ⟨_, rfl⟩
 rw [hnf] at hf
 rw [hns] at hs
 rw [hnm] at hmo
 rw [hna] at hat
 rw [hnk] at hct
 obtain ⟨id, op, dn, ver, sasl, secret, scope, deref, size, time, types, filt, sel, mods, attrs, newRdn, newSup, delOld, hasSup, typ, value, oid, has, target, code, matched, text, ctl⟩ := m
 simp only at hop hf hs hmo hat hct 
 subst hop hf hs hmo hat hct
 clear hnf hns hnm hna hnk
 have HOK := hid hOK
 clear hOK
 obtain ⟨R, hR⟩ : ∃ R, Mg.row (bareM { id := id, op := 8, dn := dn, ver := ver, sasl := sasl, secret := secret, scope := scope, deref := deref, size := size, time := time, types := types, filt := .slice af nf cf, sel := .slice az nz cz, mods := .slice am nm cm, attrs := .slice aa na ca, newRdn := newRdn, newSup := newSup, delOld := delOld, hasSup := hasSup, typ := typ, value := value, oid := oid, has := has, target := target, code := code, matched := matched, text := text, ctl := .slice ak nk ck }) = R := ⟨_, rfl⟩
 obtain ⟨A, hA⟩ : ∃ A, Mg.row { id := id, op := 8, dn := dn, ver := ver, sasl := sasl, secret := secret, scope := scope, deref := deref, size := size, time := time, types := types, filt := .slice af nf cf, sel := .slice az nz cz, mods := .slice am nm cm, attrs := .slice aa na ca, newRdn := newRdn, newSup := newSup, delOld := delOld, hasSup := hasSup, typ := typ, value := value, oid := oid, has := has, target := target, code := code, matched := matched, text := text, ctl := .slice ak nk ck } = A := ⟨_, rfl⟩
 rw [hA, hR]
 have HA := hid hA
 have HR := hid hR
 clear hA hR
 have b1 : Below w.heap.size w ((w.alloc (.cells A 28)).alloc (.cells Zm 28)) := ((Below.refl _ _).alloc (Nat.le_refl _) _).alloc (by simp) _
 have m1 : ((w.alloc (.cells A 28)).alloc (.cells Zm 28)).heap[w.heap.size]? = some (.cells A 28 (0, 0)) := (alloc_old _ _ _ (by simp)).trans (alloc_at _ _ _ rfl)
 have t1 : ((w.alloc (.cells A 28)).alloc (.cells Zm 28)).heap[w.heap.size + 1]? = some (.cells (Mg.row {}) 28 (0, 0)) := alloc_at _ _ _ (by simp)
 have hsz : ((w.alloc (.cells A 28)).alloc (.cells Zm 28)).heap.size = w.heap.size + 2 := by simp
 have HS := hid hsz
 clear hsz
 go_enter Tryz.func39, Tryz.ntmps39
 refine wp_seq ?_
 refine wp_region_list ?_
 iterate 2 (refine wpList_plain rfl fun K hK => ?_; go_simp; refine hK _ _ ?_; clear hK K)
 generalize ((w.alloc (.cells A 28)).alloc (.cells Zm 28)) = w1 at b1 m1 t1 HS ⊢
 have q0 : w1.cell? ⟨w.heap.size, 0, none⟩ = some (.int .i64 id) := (cell_of_heap m1 0).trans (by rw [← HA.out]; rfl)
 have q1 : w1.cell? ⟨w.heap.size, 1, none⟩ = some (.int .i64 8) := (cell_of_heap m1 1).trans (by rw [← HA.out]; rfl)
 have q27 : w1.cell? ⟨w.heap.size, 27, none⟩ = some (.slice ak nk ck) := (cell_of_heap m1 27).trans (by rw [← HA.out]; rfl)
 obtain ⟨X0, hX⟩ : ∃ X, Mg.row { id := id, op := 8, ctl := .slice ak nk ck } = X := ⟨_, rfl⟩
 have hX1 : (#[.int .i64 id, .int .i64 8, .string ⟨#[]⟩, .int .i64 0, .bool false, .string ⟨#[]⟩, .int .i64 0, .int .i64 0, .int .i64 0, .int .i64 0, .bool false, .slice none 0 0, .slice none 0 0, .slice none 0 0, .slice none 0 0, .string ⟨#[]⟩, .string ⟨#[]⟩, .bool false, .bool false, .string ⟨#[]⟩, .string ⟨#[]⟩, .string ⟨#[]⟩, .bool false, .int .i64 0, .int .i64 0, .string ⟨#[]⟩, .string ⟨#[]⟩, .slice ak nk ck] : Array Value) = X0 := hX
 have hX2 : X0.all (·.oneCell') = true := by rw [← hX]; simp [Mg.row, Value.oneCell']
 have hX3 : X0.size = 28 := by rw [← hX]; rfl
 have HX0 := hid hX
 have HX1 := hid hX1
 have HX2 := hid hX2
 have HX3 := hid hX3
 clear hX hX1 hX2 hX3
 go_upto_region 1 with fail
 refine wp_region_list ?_
 iterate 6 (refine wpList_plain rfl fun K hK => ?_; go_simp; refine hK _ _ ?_; clear hK K)
 refine wpList_plain rfl fun K hK => ?_
 go_simp
 rw [HX1.out]
 refine hK _ _ ?_; clear hK K
 clear q0 q27 HX1
 refine wpList_plain rfl fun K hK => ?_; go_simp; refine hK _ _ ?_; clear hK K
 have b2 := b1.trans ((Below.refl w1.heap.size w1).alloc (Nat.le_refl _) (.cells Zm 28) |>.mono b1.size)
 have m2 := (alloc_old w1 (.cells Zm 28) w.heap.size (gl m1)).trans m1
 have t2 := (alloc_old w1 (.cells Zm 28) (w.heap.size + 1) (gl t1)).trans t1
 have x2 : (w1.alloc (.cells Zm 28)).heap[w1.heap.size]? = some (.cells (Mg.row {}) 28 (0, 0)) := alloc_at _ _ _ rfl
 have hg : w.heap.size + 1 < w1.heap.size := (gl t1)
 clear b1 m1 t1 q1
 generalize (w1.alloc (.cells Zm 28)) = w2 at b2 m2 t2 x2 ⊢
 generalize w1.heap.size = g at x2 hg ⊢
 clear HS
 refine wpList_storeRow rfl 28 (.tmp 4) (.tmp 12) rfl g 28 _ X0 (by rfl) (by rfl) x2 (by rw [HX3.out]; rfl) (by rw [HX3.out]; rfl) HX2.out ?_
 have b3 := below_row b2 (g := g) (by omega) X0
 have m3 := (setRow_other w2 g w.heap.size X0 (by omega)).trans m2
 have t3 := (setRow_other w2 g (w.heap.size + 1) X0 (by omega)).trans t2
 have x3 := setRow_heap w2 g _ X0 _ _ x2
 clear b2 m2 t2 x2 HX2 HX3
 generalize w2.setRow g X0 = w3 at b3 m3 t3 x3 ⊢
 have q1 : w3.cell? ⟨w.heap.size, 1, none⟩ = some (.int .i64 8) := (cell_of_heap m3 1).trans (by rw [← HA.out]; rfl)
 go_simp
 go_upto_region 15 with fail
 have a3 : (w3.alloc (.cells #[.int .i64 8, .int .i64 4] 3)).heap[w3.heap.size]? = some (.cells #[.int .i64 8, .int .i64 4] 3 (0, 0)) := alloc_at _ _ _ rfl
 have kc := isOp_any 8 w3.heap.size [8, 4] (w3.alloc (.cells #[.int .i64 8, .int .i64 4] 3)) (by simp) (fun j hj => by
  have h2 : j < 2 := hj
  have hcases : j = 0 ∨ j = 1 := by omega
  rcases hcases with rfl | rfl
  ·exact (cell_of_heap a3 0).trans rfl
  ·exact (cell_of_heap a3 1).trans rfl)
 rw [show ([8, 4] : List Int).contains 8 = true from by decide] at kc
 have b4 := b3.trans ((Below.refl w3.heap.size w3).alloc (Nat.le_refl _) (.cells #[.int .i64 8, .int .i64 4] 3) |>.mono b3.size)
 have m4 := (alloc_old w3 (.cells #[.int .i64 8, .int .i64 4] 3) w.heap.size (gl m3)).trans m3
 have t4 := (alloc_old w3 (.cells #[.int .i64 8, .int .i64 4] 3) (w.heap.size + 1) (gl t3)).trans t3
 have x4 := (alloc_old w3 (.cells #[.int .i64 8, .int .i64 4] 3) g (gl x3)).trans x3
 clear b3 m3 t3 x3 a3
 go_wp2_with fail
 clear q1
 generalize w3.alloc (.cells #[.int .i64 8, .int .i64 4] 3) = w4 at b4 m4 t4 x4 kc ⊢
 refine Calls.mono kc ?_
 rintro e w' ⟨rfl, hw'⟩
 rw [hw']
 clear hw' kc
 have q1 : w4.cell? ⟨w.heap.size, 1, none⟩ = some (.int .i64 8) := (cell_of_heap m4 1).trans (by rw [← HA.out]; rfl)
 go_upto_region 16 with fail
 have T : w4.drew.heap[w.heap.size]? = some (.cells A 28 (0, 0)) ∧ w4.drew.heap[w.heap.size + 1]? = some (.cells (Mg.row {}) 28 (0, 0)) := ⟨m4, t4⟩
 have D : Below w.heap.size w w4.drew := b4.drew
 have Y : w4.drew.heap[g]? = some (.cells X0 28 (0, 0)) := x4
 refine wp_region_held (S := fun w' => w'.heap[w.heap.size]? = some (.cells A 28 (0, 0)) ∧ w'.heap[w.heap.size + 1]? = some (.cells (Mg.row {}) 28 (0, 0))) (by kernel_rfl) ?_
 change wpAnyH _ _ _ _ _ _ _ _ w4.drew
 clear m4 t4 b4 x4 q1
 generalize w4.drew = wr0 at T D Y ⊢
 refine tk 0 (.pointer (some ⟨w.heap.size, 2, none⟩)) rfl (fun w' hS => by go_simp) T (fun K hK => ?_); go_simp; refine hK _ _ ?_; clear hK K
 refine tk 1 (.string ⟨dn.toArray⟩) rfl (fun w' hS => by have q := (cell_of_heap hS.1 2).trans (show _ = some (.string ⟨dn.toArray⟩) from by rw [← HA.out]; rfl); go_simp) T (fun K hK => ?_); go_simp; refine hK _ _ ?_; clear hK K
 refine tk 2 (.pointer (some ⟨w.heap.size, 14, none⟩)) rfl (fun w' hS => by go_simp) T (fun K hK => ?_); go_simp; refine hK _ _ ?_; clear hK K
 refine tk 3 (.slice aa na ca) rfl (fun w' hS => by have q := (cell_of_heap hS.1 14).trans (show _ = some (.slice aa na ca) from by rw [← HA.out]; rfl); go_simp) T (fun K hK => ?_); go_simp; refine hK _ _ ?_; clear hK K
 have HY := HX0.out
 have Y0 : wr0.heap[g]? = some (.cells (Mg.row { id := id, op := 8, ctl := .slice ak nk ck }) 28 (0, 0)) := by rw [HY]; exact Y
 clear HY Y
 refine tk 4 (.pointer (some ⟨g, 2, none⟩)) rfl (fun w' hS => by go_simp) T (fun K hK => ?_); go_simp; refine hK _ _ ?_; clear hK K
 have s : wr0.cell? ⟨g, 2, none⟩ = some (.string ⟨#[]⟩) := (cell_of_heap Y0 2).trans rfl
 have z := Lib.frozen_of_heap Y0 2
 have Y1 : (wr0.setCell ⟨g, 2, none⟩ (.string ⟨dn.toArray⟩)).heap[g]? = some (.cells (Mg.row { id := id, op := 8, ctl := .slice ak nk ck, dn := dn }) 28 (0, 0)) := setCell_at (i := 2) (u := .string ⟨dn.toArray⟩) Y0
 have T0 : (wr0.setCell ⟨g, 2, none⟩ (.string ⟨dn.toArray⟩)).heap[w.heap.size]? = some (.cells A 28 (0, 0)) ∧ (wr0.setCell ⟨g, 2, none⟩ (.string ⟨dn.toArray⟩)).heap[w.heap.size + 1]? = some (.cells (Mg.row {}) 28 (0, 0)) := ⟨(Below.heap_setCell wr0 ⟨g, 2, none⟩ _ w.heap.size (by show w.heap.size ≠ g; omega)).trans T.1, (Below.heap_setCell wr0 ⟨g, 2, none⟩ _ (w.heap.size + 1) (by show w.heap.size + 1 ≠ g; omega)).trans T.2⟩
 have D0 := D.setCell (p := ⟨g, 2, none⟩) (by show w.heap.size ≤ g; omega) (.string ⟨dn.toArray⟩)
 refine anyH_one 5 (by kernel_rfl) rfl (by rfl) (fun K hK => ?_); go_simp; refine hK _ _ T0 ?_; clear hK K
 clear s z Y0 T D
 have T := T0
 have D := D0
 clear T0 D0
 generalize wr0.setCell ⟨g, 2, none⟩ (.string ⟨dn.toArray⟩) = wr1 at T D Y1 ⊢
 refine tk 6 (.pointer (some ⟨g, 14, none⟩)) rfl (fun w' hS => by go_simp) T (fun K hK => ?_); go_simp; refine hK _ _ ?_; clear hK K
 have s : wr1.cell? ⟨g, 14, none⟩ = some (.slice none 0 0) := (cell_of_heap Y1 14).trans rfl
 have z := Lib.frozen_of_heap Y1 14
 have Y2 : (wr1.setCell ⟨g, 14, none⟩ (.slice aa na ca)).heap[g]? = some (.cells (Mg.row { id := id, op := 8, ctl := .slice ak nk ck, dn := dn, attrs := .slice aa na ca }) 28 (0, 0)) := setCell_at (i := 14) (u := .slice aa na ca) Y1
 have T1 : (wr1.setCell ⟨g, 14, none⟩ (.slice aa na ca)).heap[w.heap.size]? = some (.cells A 28 (0, 0)) ∧ (wr1.setCell ⟨g, 14, none⟩ (.slice aa na ca)).heap[w.heap.size + 1]? = some (.cells (Mg.row {}) 28 (0, 0)) := ⟨(Below.heap_setCell wr1 ⟨g, 14, none⟩ _ w.heap.size (by show w.heap.size ≠ g; omega)).trans T.1, (Below.heap_setCell wr1 ⟨g, 14, none⟩ _ (w.heap.size + 1) (by show w.heap.size + 1 ≠ g; omega)).trans T.2⟩
 have D1 := D.setCell (p := ⟨g, 14, none⟩) (by show w.heap.size ≤ g; omega) (.slice aa na ca)
 refine anyH_one 7 (by kernel_rfl) rfl (by rfl) (fun K hK => ?_); go_simp; refine hK _ _ T1 ?_; clear hK K
 clear s z Y1 T D
 have T := T1
 have D := D1
 clear T1 D1
 generalize wr1.setCell ⟨g, 14, none⟩ (.slice aa na ca) = wr2 at T D Y2 ⊢
 refine wpAnyH_done (by kernel_rfl) ?_ _
 try simp only [Exit.then]
 refine ‹∀ (a : Act) (w : World), Code.wp _ _ _ a w → _› _ _ ?_
 have m5 := T.1
 have t5 := T.2
 have b5 := D
 obtain ⟨X1, hX⟩ : ∃ X, Mg.row { id := id, op := 8, ctl := .slice ak nk ck, dn := dn, attrs := .slice aa na ca } = X := ⟨_, rfl⟩
 have x5 : wr2.heap[g]? = some (.cells X1 28 (0, 0)) := by rw [← hX]; exact Y2
 have HX1 := hid hX
 clear T D Y2 hX HX0
 obtain ⟨w5, hw5⟩ : ∃ w5, wr2 = w5 := ⟨_, rfl⟩
 rw [hw5] at m5 t5 b5 x5 ⊢
 clear hw5
 have q1 : w5.cell? ⟨w.heap.size, 1, none⟩ = some (.int .i64 8) := (cell_of_heap m5 1).trans (by rw [← HA.out]; rfl)
 go_upto_region 36 with fail
 clear q1
 have hOK : OK = true := by rw [← HOK.out]; simp [kindB, rngB]
 have HOK2 := hid hOK
 clear hOK
 have hRX : R = X1 := by
  rw [← HR.out, ← HX1.out]
  simp [bareM]
 have HRX := hid hRX
 clear hRX
 refine wp_region_list ?_
 have hX1 : X1.all (·.oneCell') = true := by rw [← HX1.out]; simp [Mg.row, Value.oneCell']
 have hX2 : X1.size = 28 := by rw [← HX1.out]; rfl
 have HX1 := hid hX1
 have HX2 := hid hX2
 clear hX1 hX2
 refine wpList_loadRow rfl 28 (.tmp 4) rfl g 28 _ (0, 0) (by rfl) x5 _ Tryz.underlying28 rfl (by rw [HX2.out]; rfl) ?_
 refine wpList_plain rfl fun K hK => ?_; go_simp; refine hK _ _ ?_; clear hK K
 have b60 := below_row b5 (g := w.heap.size + 1) (by omega) X1
 have t60 := setRow_heap w5 (w.heap.size + 1) _ X1 _ _ t5
 refine wpList_storeRow rfl 28 (.tmp 2) (.tmp 231) rfl (w.heap.size + 1) 28 _ X1 (by rfl) (by rfl) t5 (by rw [HX2.out]; rfl) (by rw [HX2.out]; rfl) HX1.out ?_
 generalize w5.setRow (w.heap.size + 1) X1 = w60 at b60 t60 ⊢
 clear b5 m5 t5 x5
 go_simp
 go_wp2_with fail
 refine bodyPost_ret (v := .tuple #[.agg X1, .bool true]) ?_ rfl ⟨by rw [HRX.out, HOK2.out], b60⟩
 have hr := run_loadVar_row (P := Tryz.prog) w60 (w.heap.size + 1) 28 28 X1 (0, 0) _ t60 (show Tryz.prog.underlying 28 = _ from Tryz.underlying28) (by rfl) (by rw [HX2.out]; rfl)
 simp [results, Tryz.f39]
 show ((Sem.run Tryz.prog (loadVar 28 ⟨w.heap.size + 1, 0, none⟩) w60).andThen fun a w' => Result.ok (Value.tuple #[a, Value.bool true]) w') = _
 rw [hr]
 simp
set_option maxRecDepth 100000 in
set_option maxHeartbeats 4000000 in
theorem bare_entry_g (m : Mg) (l : Ls) (w : World) (hm : MgM w m l) (hop : m.op = 4) :
  Calls Tryz.prog 39 #[.agg (Mg.row m)] w fun e w' => e = .returned (.tuple #[.agg (Mg.row (bareM m)), .bool (kindB m l)]) ∧ Below w.heap.size w w' := by
 obtain ⟨OK, hOK⟩ : ∃ b, kindB m l = b := ⟨_, rfl⟩
 rw [hOK]
 obtain ⟨af, cf, hf⟩ := hm.filt.shape
 obtain ⟨az, cz, hs, -, -⟩ := hm.sel
 obtain ⟨am, cm, hmo, -, -⟩ := hm.mods
 obtain ⟨aa, ca, hat, -, -⟩ := hm.attrs
 obtain ⟨ak, ck, hct, -, -⟩ := hm.ctl
 clear hm
 obtain ⟨nf, hnf⟩ : ∃ n, l.filt.length = n := ⟨_, rfl⟩
 obtain ⟨nz, hns⟩ : ∃ n, l.sel.length = n := ⟨_, rfl⟩
 obtain ⟨nm, hnm⟩ : ∃ n, l.mods.length = n := ⟨_, rfl⟩
 obtain ⟨na, hna⟩ : ∃ n, l.attrs.length = n := ⟨_, rfl⟩
 obtain ⟨nk, hnk⟩ : ∃ n, l.ctl.length = n := ⟨_, rfl⟩
 rw [hnf] at hf
 rw [hns] at hs
 rw [hnm] at hmo
 rw [hna] at hat
 rw [hnk] at hct
 obtain ⟨id, op, dn, ver, sasl, secret, scope, deref, size, time, types, filt, sel, mods, attrs, newRdn, newSup, delOld, hasSup, typ, value, oid, has, target, code, matched, text, ctl⟩ := m
 simp only at hop hf hs hmo hat hct 
 subst hop hf hs hmo hat hct
 clear hnf hns hnm hna hnk
 have HOK := hid hOK
 clear hOK
 obtain ⟨R, hR⟩ : ∃ R, Mg.row (bareM { id := id, op := 4, dn := dn, ver := ver, sasl := sasl, secret := secret, scope := scope, deref := deref, size := size, time := time, types := types, filt := .slice af nf cf, sel := .slice az nz cz, mods := .slice am nm cm, attrs := .slice aa na ca, newRdn := newRdn, newSup := newSup, delOld := delOld, hasSup := hasSup, typ := typ, value := value, oid := oid, has := has, target := target, code := code, matched := matched, text := text, ctl := .slice ak nk ck }) = R := ⟨_, rfl⟩
 obtain ⟨A, hA⟩ : ∃ A, Mg.row { id := id, op := 4, dn := dn, ver := ver, sasl := sasl, secret := secret, scope := scope, deref := deref, size := size, time := time, types := types, filt := .slice af nf cf, sel := .slice az nz cz, mods := .slice am nm cm, attrs := .slice aa na ca, newRdn := newRdn, newSup := newSup, delOld := delOld, hasSup := hasSup, typ := typ, value := value, oid := oid, has := has, target := target, code := code, matched := matched, text := text, ctl := .slice ak nk ck } = A := ⟨_, rfl⟩
 rw [hA, hR]
 have HA := hid hA
 have HR := hid hR
 clear hA hR
 have b1 : Below w.heap.size w ((w.alloc (.cells A 28)).alloc (.cells Zm 28)) := ((Below.refl _ _).alloc (Nat.le_refl _) _).alloc (by simp) _
 have m1 : ((w.alloc (.cells A 28)).alloc (.cells Zm 28)).heap[w.heap.size]? = some (.cells A 28 (0, 0)) := (alloc_old _ _ _ (by simp)).trans (alloc_at _ _ _ rfl)
 have t1 : ((w.alloc (.cells A 28)).alloc (.cells Zm 28)).heap[w.heap.size + 1]? = some (.cells (Mg.row {}) 28 (0, 0)) := alloc_at _ _ _ (by simp)
 have hsz : ((w.alloc (.cells A 28)).alloc (.cells Zm 28)).heap.size = w.heap.size + 2 := by simp
 have HS := hid hsz
 clear hsz
 go_enter Tryz.func39, Tryz.ntmps39
 refine wp_seq ?_
 refine wp_region_list ?_
 iterate 2 (refine wpList_plain rfl fun K hK => ?_; go_simp; refine hK _ _ ?_; clear hK K)
 generalize ((w.alloc (.cells A 28)).alloc (.cells Zm 28)) = w1 at b1 m1 t1 HS ⊢
 have q0 : w1.cell? ⟨w.heap.size, 0, none⟩ = some (.int .i64 id) := (cell_of_heap m1 0).trans (by rw [← HA.out]; rfl)
 have q1 : w1.cell? ⟨w.heap.size, 1, none⟩ = some (.int .i64 4) := (cell_of_heap m1 1).trans (by rw [← HA.out]; rfl)
 have q27 : w1.cell? ⟨w.heap.size, 27, none⟩ = some (.slice ak nk ck) := (cell_of_heap m1 27).trans (by rw [← HA.out]; rfl)
 obtain ⟨X0, hX⟩ : ∃ X, Mg.row { id := id, op := 4, ctl := .slice ak nk ck } = X := ⟨_, rfl⟩
 have hX1 : (#[.int .i64 id, .int .i64 4, .string ⟨#[]⟩, .int .i64 0, .bool false, .string ⟨#[]⟩, .int .i64 0, .int .i64 0, .int .i64 0, .int .i64 0, .bool false, .slice none 0 0, .slice none 0 0, .slice none 0 0, .slice none 0 0, .string ⟨#[]⟩, .string ⟨#[]⟩, .bool false, .bool false, .string ⟨#[]⟩, .string ⟨#[]⟩, .string ⟨#[]⟩, .bool false, .int .i64 0, .int .i64 0, .string ⟨#[]⟩, .string ⟨#[]⟩, .slice ak nk ck] : Array Value) = X0 := hX
 have hX2 : X0.all (·.oneCell') = true := by rw [← hX]; simp [Mg.row, Value.oneCell']
 have hX3 : X0.size = 28 := by rw [← hX]; rfl
 have HX0 := hid hX
 have HX1 := hid hX1
 have HX2 := hid hX2
 have HX3 := hid hX3
 clear hX hX1 hX2 hX3
 go_upto_region 1 with fail
 refine wp_region_list ?_
 iterate 6 (refine wpList_plain rfl fun K hK => ?_; go_simp; refine hK _ _ ?_; clear hK K)
 refine wpList_plain rfl fun K hK => ?_
 go_simp
 rw [HX1.out]
 refine hK _ _ ?_; clear hK K
 clear q0 q27 HX1
 refine wpList_plain rfl fun K hK => ?_; go_simp; refine hK _ _ ?_; clear hK K
 have b2 := b1.trans ((Below.refl w1.heap.size w1).alloc (Nat.le_refl _) (.cells Zm 28) |>.mono b1.size)
 have m2 := (alloc_old w1 (.cells Zm 28) w.heap.size (gl m1)).trans m1
 have t2 := (alloc_old w1 (.cells Zm 28) (w.heap.size + 1) (gl t1)).trans t1
 have x2 : (w1.alloc (.cells Zm 28)).heap[w1.heap.size]? = some (.cells (Mg.row {}) 28 (0, 0)) := alloc_at _ _ _ rfl
 have hg : w.heap.size + 1 < w1.heap.size := (gl t1)
 clear b1 m1 t1 q1
 generalize (w1.alloc (.cells Zm 28)) = w2 at b2 m2 t2 x2 ⊢
 generalize w1.heap.size = g at x2 hg ⊢
 clear HS
 refine wpList_storeRow rfl 28 (.tmp 4) (.tmp 12) rfl g 28 _ X0 (by rfl) (by rfl) x2 (by rw [HX3.out]; rfl) (by rw [HX3.out]; rfl) HX2.out ?_
 have b3 := below_row b2 (g := g) (by omega) X0
 have m3 := (setRow_other w2 g w.heap.size X0 (by omega)).trans m2
 have t3 := (setRow_other w2 g (w.heap.size + 1) X0 (by omega)).trans t2
 have x3 := setRow_heap w2 g _ X0 _ _ x2
 clear b2 m2 t2 x2 HX2 HX3
 generalize w2.setRow g X0 = w3 at b3 m3 t3 x3 ⊢
 have q1 : w3.cell? ⟨w.heap.size, 1, none⟩ = some (.int .i64 4) := (cell_of_heap m3 1).trans (by rw [← HA.out]; rfl)
 go_simp
 go_upto_region 15 with fail
 have a3 : (w3.alloc (.cells #[.int .i64 8, .int .i64 4] 3)).heap[w3.heap.size]? = some (.cells #[.int .i64 8, .int .i64 4] 3 (0, 0)) := alloc_at _ _ _ rfl
 have kc := isOp_any 4 w3.heap.size [8, 4] (w3.alloc (.cells #[.int .i64 8, .int .i64 4] 3)) (by simp) (fun j hj => by
  have h2 : j < 2 := hj
  have hcases : j = 0 ∨ j = 1 := by omega
  rcases hcases with rfl | rfl
  ·exact (cell_of_heap a3 0).trans rfl
  ·exact (cell_of_heap a3 1).trans rfl)
 rw [show ([8, 4] : List Int).contains 4 = true from by decide] at kc
 have b4 := b3.trans ((Below.refl w3.heap.size w3).alloc (Nat.le_refl _) (.cells #[.int .i64 8, .int .i64 4] 3) |>.mono b3.size)
 have m4 := (alloc_old w3 (.cells #[.int .i64 8, .int .i64 4] 3) w.heap.size (gl m3)).trans m3
 have t4 := (alloc_old w3 (.cells #[.int .i64 8, .int .i64 4] 3) (w.heap.size + 1) (gl t3)).trans t3
 have x4 := (alloc_old w3 (.cells #[.int .i64 8, .int .i64 4] 3) g (gl x3)).trans x3
 clear b3 m3 t3 x3 a3
 go_wp2_with fail
 clear q1
 generalize w3.alloc (.cells #[.int .i64 8, .int .i64 4] 3) = w4 at b4 m4 t4 x4 kc ⊢
 refine Calls.mono kc ?_
 rintro e w' ⟨rfl, hw'⟩
 rw [hw']
 clear hw' kc
 have q1 : w4.cell? ⟨w.heap.size, 1, none⟩ = some (.int .i64 4) := (cell_of_heap m4 1).trans (by rw [← HA.out]; rfl)
 go_upto_region 16 with fail
 have T : w4.drew.heap[w.heap.size]? = some (.cells A 28 (0, 0)) ∧ w4.drew.heap[w.heap.size + 1]? = some (.cells (Mg.row {}) 28 (0, 0)) := ⟨m4, t4⟩
 have D : Below w.heap.size w w4.drew := b4.drew
 have Y : w4.drew.heap[g]? = some (.cells X0 28 (0, 0)) := x4
 refine wp_region_held (S := fun w' => w'.heap[w.heap.size]? = some (.cells A 28 (0, 0)) ∧ w'.heap[w.heap.size + 1]? = some (.cells (Mg.row {}) 28 (0, 0))) (by kernel_rfl) ?_
 change wpAnyH _ _ _ _ _ _ _ _ w4.drew
 clear m4 t4 b4 x4 q1
 generalize w4.drew = wr0 at T D Y ⊢
 refine tk 0 (.pointer (some ⟨w.heap.size, 2, none⟩)) rfl (fun w' hS => by go_simp) T (fun K hK => ?_); go_simp; refine hK _ _ ?_; clear hK K
 refine tk 1 (.string ⟨dn.toArray⟩) rfl (fun w' hS => by have q := (cell_of_heap hS.1 2).trans (show _ = some (.string ⟨dn.toArray⟩) from by rw [← HA.out]; rfl); go_simp) T (fun K hK => ?_); go_simp; refine hK _ _ ?_; clear hK K
 refine tk 2 (.pointer (some ⟨w.heap.size, 14, none⟩)) rfl (fun w' hS => by go_simp) T (fun K hK => ?_); go_simp; refine hK _ _ ?_; clear hK K
 refine tk 3 (.slice aa na ca) rfl (fun w' hS => by have q := (cell_of_heap hS.1 14).trans (show _ = some (.slice aa na ca) from by rw [← HA.out]; rfl); go_simp) T (fun K hK => ?_); go_simp; refine hK _ _ ?_; clear hK K
 have HY := HX0.out
 have Y0 : wr0.heap[g]? = some (.cells (Mg.row { id := id, op := 4, ctl := .slice ak nk ck }) 28 (0, 0)) := by rw [HY]; exact Y
 clear HY Y
 refine tk 4 (.pointer (some ⟨g, 2, none⟩)) rfl (fun w' hS => by go_simp) T (fun K hK => ?_); go_simp; refine hK _ _ ?_; clear hK K
 have s : wr0.cell? ⟨g, 2, none⟩ = some (.string ⟨#[]⟩) := (cell_of_heap Y0 2).trans rfl
 have z := Lib.frozen_of_heap Y0 2
 have Y1 : (wr0.setCell ⟨g, 2, none⟩ (.string ⟨dn.toArray⟩)).heap[g]? = some (.cells (Mg.row { id := id, op := 4, ctl := .slice ak nk ck, dn := dn }) 28 (0, 0)) := setCell_at (i := 2) (u := .string ⟨dn.toArray⟩) Y0
 have T0 : (wr0.setCell ⟨g, 2, none⟩ (.string ⟨dn.toArray⟩)).heap[w.heap.size]? = some (.cells A 28 (0, 0)) ∧ (wr0.setCell ⟨g, 2, none⟩ (.string ⟨dn.toArray⟩)).heap[w.heap.size + 1]? = some (.cells (Mg.row {}) 28 (0, 0)) := ⟨(Below.heap_setCell wr0 ⟨g, 2, none⟩ _ w.heap.size (by show w.heap.size ≠ g; omega)).trans T.1, (Below.heap_setCell wr0 ⟨g, 2, none⟩ _ (w.heap.size + 1) (by show w.heap.size + 1 ≠ g; omega)).trans T.2⟩
 have D0 := D.setCell (p := ⟨g, 2, none⟩) (by show w.heap.size ≤ g; omega) (.string ⟨dn.toArray⟩)
 refine anyH_one 5 (by kernel_rfl) rfl (by rfl) (fun K hK => ?_); go_simp; refine hK _ _ T0 ?_; clear hK K
 clear s z Y0 T D
 have T := T0
 have D := D0
 clear T0 D0
 generalize wr0.setCell ⟨g, 2, none⟩ (.string ⟨dn.toArray⟩) = wr1 at T D Y1 ⊢
 refine tk 6 (.pointer (some ⟨g, 14, none⟩)) rfl (fun w' hS => by go_simp) T (fun K hK => ?_); go_simp; refine hK _ _ ?_; clear hK K
 have s : wr1.cell? ⟨g, 14, none⟩ = some (.slice none 0 0) := (cell_of_heap Y1 14).trans rfl
 have z := Lib.frozen_of_heap Y1 14
 have Y2 : (wr1.setCell ⟨g, 14, none⟩ (.slice aa na ca)).heap[g]? = some (.cells (Mg.row { id := id, op := 4, ctl := .slice ak nk ck, dn := dn, attrs := .slice aa na ca }) 28 (0, 0)) := setCell_at (i := 14) (u := .slice aa na ca) Y1
 have T1 : (wr1.setCell ⟨g, 14, none⟩ (.slice aa na ca)).heap[w.heap.size]? = some (.cells A 28 (0, 0)) ∧ (wr1.setCell ⟨g, 14, none⟩ (.slice aa na ca)).heap[w.heap.size + 1]? = some (.cells (Mg.row {}) 28 (0, 0)) := ⟨(Below.heap_setCell wr1 ⟨g, 14, none⟩ _ w.heap.size (by show w.heap.size ≠ g; omega)).trans T.1, (Below.heap_setCell wr1 ⟨g, 14, none⟩ _ (w.heap.size + 1) (by show w.heap.size + 1 ≠ g; omega)).trans T.2⟩
 have D1 := D.setCell (p := ⟨g, 14, none⟩) (by show w.heap.size ≤ g; omega) (.slice aa na ca)
 refine anyH_one 7 (by kernel_rfl) rfl (by rfl) (fun K hK => ?_); go_simp; refine hK _ _ T1 ?_; clear hK K
 clear s z Y1 T D
 have T := T1
 have D := D1
 clear T1 D1
 generalize wr1.setCell ⟨g, 14, none⟩ (.slice aa na ca) = wr2 at T D Y2 ⊢
 refine wpAnyH_done (by kernel_rfl) ?_ _
 try simp only [Exit.then]
 refine ‹∀ (a : Act) (w : World), Code.wp _ _ _ a w → _› _ _ ?_
 have m5 := T.1
 have t5 := T.2
 have b5 := D
 obtain ⟨X1, hX⟩ : ∃ X, Mg.row { id := id, op := 4, ctl := .slice ak nk ck, dn := dn, attrs := .slice aa na ca } = X := ⟨_, rfl⟩
 have x5 : wr2.heap[g]? = some (.cells X1 28 (0, 0)) := by rw [← hX]; exact Y2
 have HX1 := hid hX
 clear T D Y2 hX HX0
 obtain ⟨w5, hw5⟩ : ∃ w5, wr2 = w5 := ⟨_, rfl⟩
 rw [hw5] at m5 t5 b5 x5 ⊢
 clear hw5
 have q1 : w5.cell? ⟨w.heap.size, 1, none⟩ = some (.int .i64 4) := (cell_of_heap m5 1).trans (by rw [← HA.out]; rfl)
 go_upto_region 36 with fail
 clear q1
 have hOK : OK = true := by rw [← HOK.out]; simp [kindB, rngB]
 have HOK2 := hid hOK
 clear hOK
 have hRX : R = X1 := by
  rw [← HR.out, ← HX1.out]
  simp [bareM]
 have HRX := hid hRX
 clear hRX
 refine wp_region_list ?_
 have hX1 : X1.all (·.oneCell') = true := by rw [← HX1.out]; simp [Mg.row, Value.oneCell']
 have hX2 : X1.size = 28 := by rw [← HX1.out]; rfl
 have HX1 := hid hX1
 have HX2 := hid hX2
 clear hX1 hX2
 refine wpList_loadRow rfl 28 (.tmp 4) rfl g 28 _ (0, 0) (by rfl) x5 _ Tryz.underlying28 rfl (by rw [HX2.out]; rfl) ?_
 refine wpList_plain rfl fun K hK => ?_; go_simp; refine hK _ _ ?_; clear hK K
 have b60 := below_row b5 (g := w.heap.size + 1) (by omega) X1
 have t60 := setRow_heap w5 (w.heap.size + 1) _ X1 _ _ t5
 refine wpList_storeRow rfl 28 (.tmp 2) (.tmp 231) rfl (w.heap.size + 1) 28 _ X1 (by rfl) (by rfl) t5 (by rw [HX2.out]; rfl) (by rw [HX2.out]; rfl) HX1.out ?_
 generalize w5.setRow (w.heap.size + 1) X1 = w60 at b60 t60 ⊢
 clear b5 m5 t5 x5
 go_simp
 go_wp2_with fail
 refine bodyPost_ret (v := .tuple #[.agg X1, .bool true]) ?_ rfl ⟨by rw [HRX.out, HOK2.out], b60⟩
 have hr := run_loadVar_row (P := Tryz.prog) w60 (w.heap.size + 1) 28 28 X1 (0, 0) _ t60 (show Tryz.prog.underlying 28 = _ from Tryz.underlying28) (by rfl) (by rw [HX2.out]; rfl)
 simp [results, Tryz.f39]
 show ((Sem.run Tryz.prog (loadVar 28 ⟨w.heap.size + 1, 0, none⟩) w60).andThen fun a w' => Result.ok (Value.tuple #[a, Value.bool true]) w') = _
 rw [hr]
 simp
end Go.Proofs.YthjaiigijbjloaaGreatDoor
