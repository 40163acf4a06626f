/- MsA, MsB. -/
import Derived.Deep.CutRange
import Derived.Deep.CutBlock
import Derived.Test.YthjaiigijbjloaaGreatDoorQ7
namespace Go.Proofs.YthjaiigijbjloaaGreatDoor
open Go.RowKit Go.Lib
def msgD (i op : Int) (dn : List UInt8) : Array Value := #[.int .i64 i, .int .i64 op, .string ⟨dn.toArray⟩, .int .i64 0, .bool false, .string ⟨#[]⟩, .int .i64 0, .int .i64 0, .int .i64 0, .int .i64 0, .bool false, .slice none 0 0, .slice none 0 0, .slice none 0 0, .slice none 0 0, .string ⟨#[]⟩, .string ⟨#[]⟩, .bool false, .bool false, .string ⟨#[]⟩, .string ⟨#[]⟩, .string ⟨#[]⟩, .bool false, .int .i64 0, .int .i64 0, .string ⟨#[]⟩, .string ⟨#[]⟩, .slice none 0 0]
set_option maxRecDepth 100000 in
set_option maxHeartbeats 4000000 in
theorem opOf_delete (B : Nat) (i : Int) (dn : List UInt8) (a : Option Addr) (c : Nat) (w : World) (hm : w.heap[B]? = some (.cells (msgD i 0 []) 28 (0, 0))) :
  Calls Tryz.prog 101 #[.pointer (some ⟨B, 0, none⟩), .agg (elA (.mk 1 10 false dn []) (.slice a 0 c))] w fun e w' => e = .returned (.tuple #[]) ∧ w'.heap[B]? = some (.cells (msgD i 10 dn) 28 (0, 0)) ∧ BelR B w.heap.size w w' := by
 have hBl := (gl hm)
 have b1 : Below w.heap.size w ((w.alloc (.cells #[.pointer (some ⟨B, 0, none⟩)] 126)).alloc (.cells #[.int .i64 1, .int .i64 10, .bool false, .string ⟨dn.toArray⟩, .slice a 0 c] 45)) := ((Below.refl _ _).alloc (Nat.le_refl _) _).alloc (by simp) _
 have p1 : ((w.alloc (.cells #[.pointer (some ⟨B, 0, none⟩)] 126)).alloc (.cells #[.int .i64 1, .int .i64 10, .bool false, .string ⟨dn.toArray⟩, .slice a 0 c] 45)).heap[w.heap.size]? = some (.cells #[.pointer (some ⟨B, 0, none⟩)] 126 (0, 0)) := (alloc_old _ _ _ (by simp)).trans (alloc_at _ _ _ rfl)
 have r1 : ((w.alloc (.cells #[.pointer (some ⟨B, 0, none⟩)] 126)).alloc (.cells #[.int .i64 1, .int .i64 10, .bool false, .string ⟨dn.toArray⟩, .slice a 0 c] 45)).heap[w.heap.size + 1]? = some (.cells #[.int .i64 1, .int .i64 10, .bool false, .string ⟨dn.toArray⟩, .slice a 0 c] 45 (0, 0)) := alloc_at _ _ _ (by simp)
 have m1 := (b1.block B hBl).trans hm
 unfold elA
 simp only [El.cls, El.tag, El.cons, El.bytes]
 clear hm
 go_enter Tryz.func101, Tryz.ntmps101
 refine wp_seq ?_
 refine wp_region_list ?_
 iterate 2 (refine wpList_plain rfl fun K hK => ?_; go_simp; refine hK _ _ ?_; clear hK K)
 generalize ((w.alloc (.cells #[.pointer (some ⟨B, 0, none⟩)] 126)).alloc (.cells #[.int .i64 1, .int .i64 10, .bool false, .string ⟨dn.toArray⟩, .slice a 0 c] 45)) = w1 at b1 p1 r1 m1 ⊢
 have qp : w1.cell? ⟨w.heap.size, 0, none⟩ = some (.pointer (some ⟨B, 0, none⟩)) := (cell_of_heap p1 0).trans rfl
 have qt : w1.cell? ⟨w.heap.size + 1, 1, none⟩ = some (.int .i64 10) := (cell_of_heap r1 1).trans rfl
 have q1 : w1.cell? ⟨B, 1, none⟩ = some (.int .i64 0) := (cell_of_heap m1 1).trans rfl
 have z1 := Lib.frozen_of_heap m1 1
 have m2 : (w1.setCell ⟨B, 1, none⟩ (.int .i64 10)).heap[B]? = some (.cells (msgD i 10 []) 28 (0, 0)) := setCell_at (i := 1) (u := .int .i64 10) m1
 have p2 : (w1.setCell ⟨B, 1, none⟩ (.int .i64 10)).heap[w.heap.size]? = some (.cells #[.pointer (some ⟨B, 0, none⟩)] 126 (0, 0)) := (Below.heap_setCell w1 ⟨B, 1, none⟩ (.int .i64 10) w.heap.size (by show w.heap.size ≠ B; omega)).trans p1
 have r2 : (w1.setCell ⟨B, 1, none⟩ (.int .i64 10)).heap[w.heap.size + 1]? = some (.cells #[.int .i64 1, .int .i64 10, .bool false, .string ⟨dn.toArray⟩, .slice a 0 c] 45 (0, 0)) := (Below.heap_setCell w1 ⟨B, 1, none⟩ (.int .i64 10) (w.heap.size + 1) (by show w.heap.size + 1 ≠ B; omega)).trans r1
 have b2 : BelR B w.heap.size w (w1.setCell ⟨B, 1, none⟩ (.int .i64 10)) := (BelR.of_below b1).set 1 _
 have M2 := hid m2
 have P2 := hid p2
 have R2 := hid r2
 have B2 := hid b2
 clear p1 r1 m1 b1 m2 p2 r2 b2
 go_wp2_with fail
 clear qp qt q1 z1
 generalize w1.setCell ⟨B, 1, none⟩ (.int .i64 10) = w2 at M2 P2 R2 B2 ⊢
 refine wp_region_held (S := fun w' => w'.heap[w.heap.size]? = some (.cells #[.pointer (some ⟨B, 0, none⟩)] 126 (0, 0)) ∧ w'.heap[w.heap.size + 1]? = some (.cells #[.int .i64 1, .int .i64 10, .bool false, .string ⟨dn.toArray⟩, .slice a 0 c] 45 (0, 0)) ∧ w'.cell? ⟨B, 1, none⟩ = some (.int .i64 10)) (by kernel_rfl) ?_
 have T3 : w2.drew.heap[w.heap.size]? = some (.cells #[.pointer (some ⟨B, 0, none⟩)] 126 (0, 0)) ∧ w2.drew.heap[w.heap.size + 1]? = some (.cells #[.int .i64 1, .int .i64 10, .bool false, .string ⟨dn.toArray⟩, .slice a 0 c] 45 (0, 0)) ∧ w2.drew.cell? ⟨B, 1, none⟩ = some (.int .i64 10) := ⟨P2.out, R2.out, (cell_of_heap M2.out 1).trans rfl⟩
 have M3 : w2.drew.heap[B]? = some (.cells (msgD i 10 []) 28 (0, 0)) := M2.out
 have B3 : BelR B w.heap.size w w2.drew := B2.out.trans (BelR.of_below ((Below.refl _ _).drew))
 change wpAnyH _ _ _ _ _ _ _ _ w2.drew
 clear M2 P2 R2 B2
 generalize w2.drew = w3 at T3 M3 B3 ⊢
 refine tk 0 (.pointer (some ⟨B, 0, none⟩)) rfl (fun w' hS => by have q := (cell_of_heap hS.1 0).trans (rfl : _ = some (Value.pointer (some ⟨B, 0, none⟩))); go_simp) T3 (fun K hK => ?_); go_simp; refine hK _ _ ?_; clear hK K
 refine tk 2 (.pointer (some ⟨B, 0, none⟩)) rfl (fun w' hS => by have q := (cell_of_heap hS.1 0).trans (rfl : _ = some (Value.pointer (some ⟨B, 0, none⟩))); go_simp) T3 (fun K hK => ?_); go_simp; refine hK _ _ ?_; clear hK K
 refine tk 1 (.agg #[.int .i64 1, .int .i64 10, .bool false, .string ⟨dn.toArray⟩, .slice a 0 c]) rfl (fun w' hS => by exact exec_loadRow 45 (.tmp 3) rfl (w.heap.size + 1) 45 _ (0, 0) (by rfl) hS.2.1 _ Tryz.underlying45 rfl (by rfl)) T3 (fun K hK => ?_); go_simp; refine hK _ _ ?_; clear hK K
 refine tk 3 (.pointer (some ⟨B, 0, none⟩)) rfl (fun w' hS => by go_simp) T3 (fun K hK => ?_); go_simp; refine hK _ _ ?_; clear hK K
 refine tk 4 (.pointer (some ⟨B, 1, none⟩)) rfl (fun w' hS => by go_simp) T3 (fun K hK => ?_); go_simp; refine hK _ _ ?_; clear hK K
 refine tk 5 (.int .i64 10) rfl (fun w' hS => by have q := hS.2.2; go_simp) T3 (fun K hK => ?_); go_simp; refine hK _ _ ?_; clear hK K
 have kt := text_ok (.mk 1 10 false dn []) (.slice a 0 c) 1 10 w3 ⟨a, c, rfl, Nat.zero_le _, fun h => absurd rfl h⟩ (by simp [isE, El.cls, El.tag, El.cons])
 unfold elA at kt
 simp only [El.cls, El.tag, El.cons, El.bytes] at kt
 refine anyH_one 6 (by kernel_rfl) rfl (by rfl) (fun K hK => ?_); go_simp; go_wp2_with fail
 refine Calls.mono kt ?_
 rintro e w4 ⟨rfl, hb4⟩
 have M4 := (hb4.block _ (gl M3)).trans M3
 have T4 : w4.heap[w.heap.size]? = some (.cells #[.pointer (some ⟨B, 0, none⟩)] 126 (0, 0)) ∧ w4.heap[w.heap.size + 1]? = some (.cells #[.int .i64 1, .int .i64 10, .bool false, .string ⟨dn.toArray⟩, .slice a 0 c] 45 (0, 0)) ∧ w4.cell? ⟨B, 1, none⟩ = some (.int .i64 10) := ⟨(hb4.block _ (gl T3.1)).trans T3.1, (hb4.block _ (gl T3.2.1)).trans T3.2.1, (hb4.cell (lt_of_cell T3.2.2)).trans T3.2.2⟩
 have B4 := B3.trans (BelR.of_below (R := B) (hb4.mono B3.size))
 clear kt hb4 M3 T3 B3
 refine hK _ _ T4 ?_; clear hK K
 refine anyH_one 7 (by kernel_rfl) rfl (by rfl) (fun K hK => ?_); go_simp; refine hK _ _ T4 ?_; clear hK K
 refine anyH_one 8 (by kernel_rfl) rfl (by rfl) (fun K hK => ?_); go_simp; refine hK _ _ T4 ?_; clear hK K
 have s2 : w4.cell? ⟨B, 2, none⟩ = some (.string ⟨#[]⟩) := (cell_of_heap M4 2).trans rfl
 have z2 := Lib.frozen_of_heap M4 2
 have M5 : (w4.setCell ⟨B, 2, none⟩ (.string ⟨dn.toArray⟩)).heap[B]? = some (.cells (msgD i 10 dn) 28 (0, 0)) := setCell_at (i := 2) (u := .string ⟨dn.toArray⟩) M4
 have T5 : (w4.setCell ⟨B, 2, none⟩ (.string ⟨dn.toArray⟩)).heap[w.heap.size]? = some (.cells #[.pointer (some ⟨B, 0, none⟩)] 126 (0, 0)) ∧ (w4.setCell ⟨B, 2, none⟩ (.string ⟨dn.toArray⟩)).heap[w.heap.size + 1]? = some (.cells #[.int .i64 1, .int .i64 10, .bool false, .string ⟨dn.toArray⟩, .slice a 0 c] 45 (0, 0)) ∧ (w4.setCell ⟨B, 2, none⟩ (.string ⟨dn.toArray⟩)).cell? ⟨B, 1, none⟩ = some (.int .i64 10) :=
  ⟨(Below.heap_setCell w4 ⟨B, 2, none⟩ _ w.heap.size (by show w.heap.size ≠ B; omega)).trans T4.1, (Below.heap_setCell w4 ⟨B, 2, none⟩ _ (w.heap.size + 1) (by show w.heap.size + 1 ≠ B; omega)).trans T4.2.1, (cell_of_heap M5 1).trans rfl⟩
 have B5 := B4.set 2 (.string ⟨dn.toArray⟩)
 refine anyH_one 9 (by kernel_rfl) rfl (by rfl) (fun K hK => ?_); go_simp; refine hK _ _ T5 ?_; clear hK K
 refine wpAnyH_done (by kernel_rfl) ?_ _
 simp only [Exit.then]
 refine ‹∀ (a : Act) (w : World), Code.wp _ _ _ a w → _› _ _ ?_
 clear s2 z2
 generalize w4.setCell ⟨B, 2, none⟩ (.string ⟨dn.toArray⟩) = w5 at M5 B5 T5 ⊢
 go_wp2_with fail
 refine bodyPost_ret (v := .tuple #[]) ?_ rfl ⟨rfl, M5, B5⟩
 simp [results, Tryz.f101]
def delE (n : Nat) (dn : List UInt8) : El := .mk 0 16 true [] [.mk 0 2 false [UInt8.ofNat n] [], .mk 1 10 false dn []]
set_option maxRecDepth 100000 in
set_option maxHeartbeats 4000000 in
theorem told_delete (n : Nat) (hn : n ≤ 127) (dn : List UInt8) (hd : dn.length ≤ 1000000) (u : Value) (w : World) (h : KidsAt (fun _ => True) w u (delE n dn).kids) :
  Calls Tryz.prog 48 #[.agg (elA (delE n dn) u)] w fun e w' => e = .returned (.agg (msgD n 10 dn)) ∧ Below w.heap.size w w' := by
 obtain ⟨a, c, hf⟩ := h.shape
 subst hf
 have b1 : Below w.heap.size w (((w.alloc (.cells #[.int .i64 0, .int .i64 16, .bool true, .string ⟨#[]⟩, .slice a 2 c] 45)).alloc (.cells Zm 28)).alloc (.cells Zm 28)) := (((Below.refl _ _).alloc (Nat.le_refl _) _).alloc (by simp) _).alloc (by simp; omega) _
 have r1 : (((w.alloc (.cells #[.int .i64 0, .int .i64 16, .bool true, .string ⟨#[]⟩, .slice a 2 c] 45)).alloc (.cells Zm 28)).alloc (.cells Zm 28)).heap[w.heap.size]? = some (.cells #[.int .i64 0, .int .i64 16, .bool true, .string ⟨#[]⟩, .slice a 2 c] 45 (0, 0)) := (alloc_old _ _ _ (by simp; omega)).trans ((alloc_old _ _ _ (by simp)).trans (alloc_at _ _ _ rfl))
 have m1 : (((w.alloc (.cells #[.int .i64 0, .int .i64 16, .bool true, .string ⟨#[]⟩, .slice a 2 c] 45)).alloc (.cells Zm 28)).alloc (.cells Zm 28)).heap[w.heap.size + 1 + 1]? = some (.cells (msgD 0 0 []) 28 (0, 0)) := alloc_at _ _ _ (by simp)
 have t1 : (((w.alloc (.cells #[.int .i64 0, .int .i64 16, .bool true, .string ⟨#[]⟩, .slice a 2 c] 45)).alloc (.cells Zm 28)).alloc (.cells Zm 28)).heap[w.heap.size + 1]? = some (.cells (msgD 0 0 []) 28 (0, 0)) := (alloc_old _ _ _ (by simp)).trans (alloc_at _ _ _ (by simp))
 have hsm : SmE (delE n dn) := by
  simp only [delE, SmE, SmL]
  refine ⟨by simp, by simp, ⟨by simp, by simp, trivial⟩, ⟨by omega, by simp, trivial⟩, trivial⟩
 have kk := fun W (hb : Below w.heap.size w W) => kids_ok (delE n dn) (.slice a (delE n dn).kids.length c) 0 16 W (h.below hb) hsm (by simp [isE, delE, El.cls, El.tag, El.cons])
 have KK := hid (kk (((w.alloc (.cells #[.int .i64 0, .int .i64 16, .bool true, .string ⟨#[]⟩, .slice a 2 c] 45)).alloc (.cells Zm 28)).alloc (.cells Zm 28)) b1)
 clear h kk hsm
 have hk2 : (delE n dn).kids.length = 2 := rfl
 unfold elA
 rw [hk2]
 simp only [delE, El.cls, El.tag, El.cons, El.bytes]
 clear hk2
 go_enter Tryz.func48, Tryz.ntmps48
 refine wp_seq ?_
 refine wp_region_list ?_
 iterate 2 (refine wpList_plain rfl fun K hK => ?_; go_simp; refine hK _ _ ?_; clear hK K)
 refine wpList_nil ?_
 simp only [Exit.then]
 refine wp_seq ?_
 refine wp_region_list ?_
 refine wpList_plain rfl fun K hK => ?_; go_simp; refine hK _ _ ?_; clear hK K
 have kk := KK.out
 clear KK
 generalize (((w.alloc (.cells #[.int .i64 0, .int .i64 16, .bool true, .string ⟨#[]⟩, .slice a 2 c] 45)).alloc (.cells Zm 28)).alloc (.cells Zm 28)) = w1 at b1 r1 m1 t1 kk ⊢
 go_wp2_with (refine wpList_loadRow rfl 45 (.tmp 1) rfl w.heap.size 45 _ (0, 0) (by rfl) r1 _ Tryz.underlying45 rfl (by rfl) ?_)
 refine Calls.mono kk ?_
 rintro e w2 ⟨⟨b, v, rfl, hbs, hb2, hv2⟩, hB2⟩
 have m2 := (hB2.block _ (gl m1)).trans m1
 have t2 := (hB2.block _ (gl t1)).trans t1
 have b2 := b1.trans (hB2.mono b1.size)
 have hm1 := (gl m1)
 have hs2 := hB2.size
 have hs1 := b1.size
 have kn := num_ok (fun g => w1.heap.size ≤ g ∧ g ≠ b) b v 2 n hn [.mk 1 10 false dn []] w2 hb2 hv2 (fun g hg => hg.2) (by simp)
 clear kk r1 t1 hb2 hv2 hB2 b1 m1
 go_wp2_with fail
 refine Calls.mono kn ?_
 rintro e w3 ⟨⟨v3, rfl, hb3, hv3⟩, hR3⟩
 have m3 := (hR3.block _ (gl m2) (by omega)).trans m2
 have t3 := (hR3.block _ (gl t2) (by omega)).trans t2
 have b3 : Below w.heap.size w w3 := b2.trans ((hR3.mono b2.size).below (by omega))
 have q0 : w3.cell? ⟨w.heap.size + 1 + 1, 0, none⟩ = some (.int .i64 0) := (cell_of_heap m3 0).trans rfl
 have z0 := Lib.frozen_of_heap m3 0
 have m4 : (w3.setCell ⟨w.heap.size + 1 + 1, 0, none⟩ (.int .i64 n)).heap[w.heap.size + 1 + 1]? = some (.cells (msgD n 0 []) 28 (0, 0)) := setCell_at (i := 0) (u := .int .i64 n) m3
 have hoth : ∀ g, g ≠ w.heap.size + 1 + 1 → (w3.setCell ⟨w.heap.size + 1 + 1, 0, none⟩ (.int .i64 n)).heap[g]? = w3.heap[g]? := fun g hg => Below.heap_setCell w3 ⟨w.heap.size + 1 + 1, 0, none⟩ _ g hg
 have t4 := (hoth (w.heap.size + 1) (by omega)).trans t3
 have hb4 := (hoth b (by omega)).trans hb3
 have hv4 : KidsAt (fun g => w1.heap.size ≤ g ∧ g ≠ b) (w3.setCell ⟨w.heap.size + 1 + 1, 0, none⟩ (.int .i64 n)) v3 [.mk 1 10 false dn []] := hv3.kept fun g hg _ => ⟨hoth g (by omega), hg⟩
 have b4 := b3.setCell (p := ⟨w.heap.size + 1 + 1, 0, none⟩) (by show w.heap.size ≤ w.heap.size + 1 + 1; omega) (.int .i64 n)
 have H4 := hid m4
 have HT4 := hid t4
 have HB4 := hid hb4
 have HV4 := hid hv4
 have HBB := hid b4
 clear kn m2 t2 b2 hb3 hv3 hR3 m3 t3 b3 m4 t4 hb4 hv4 b4 hoth
 go_wp2_with fail
 clear q0 z0
 generalize w3.setCell ⟨w.heap.size + 1 + 1, 0, none⟩ (.int .i64 n) = w4 at H4 HT4 HB4 HV4 HBB ⊢
 have kx := next_ok (fun g => w1.heap.size ≤ g ∧ g ≠ b) b v3 (.mk 1 10 false dn []) [] w4 HB4.out HV4.out (fun g hg => hg.2) (by simp)
 have hs4 := HBB.out.size
 refine Calls.mono kx ?_
 rintro e w5 ⟨⟨u5, v5, rfl, hu5, hb5, hv5⟩, hR5⟩
 have m5 := (hR5.block _ (gl H4.out) (by omega)).trans H4.out
 have t5 := (hR5.block _ (gl HT4.out) (by omega)).trans HT4.out
 have b5 : Below w.heap.size w w5 := HBB.out.trans ((hR5.mono hs4).below (by omega))
 obtain ⟨a5, c5, hf5⟩ := hu5.shape
 subst hf5
 have ko := opOf_delete (w.heap.size + 1 + 1) n dn a5 c5 w5 m5
 have hs5 := b5.size
 have hb5l := (gl hb5)
 have hm5l := (gl m5)
 clear kx H4 HT4 HB4 HV4 HBB hR5 hu5 m5
 go_wp2_with fail
 refine Calls.mono ko ?_
 rintro e w6 ⟨rfl, m6, hR6⟩
 have t6 := (hR6.block _ (gl t5) (by omega)).trans t5
 have hb6 := (hR6.block _ hb5l (by omega)).trans hb5
 have hv6 : KidsAt (fun g => w1.heap.size ≤ g ∧ g ≠ b) w6 v5 [] := hv5.kept fun g hg hl => ⟨hR6.block g hl (by omega), hg⟩
 have b6 : Below w.heap.size w w6 := b5.trans ((hR6.mono hs5).below (by omega))
 have ki := is_none _ b v5 2 0 w6 hb6 hv6
 have HV6 := hid hv6
 clear ko t5 hb5 hv5 hR6 b5 hv6
 go_wp2_with fail
 refine Calls.mono ki ?_
 rintro e w7 ⟨rfl, q, rfl⟩
 have m7 : (w6.drewN q).heap[w.heap.size + 1 + 1]? = some (.cells (msgD n 10 dn) 28 (0, 0)) := m6
 have t7 : (w6.drewN q).heap[w.heap.size + 1]? = some (.cells (msgD 0 0 []) 28 (0, 0)) := t6
 have hb7 : (w6.drewN q).heap[b]? = some (.cells #[v5] 129 (0, 0)) := hb6
 have hv7 : KidsAt (fun g => w1.heap.size ≤ g ∧ g ≠ b) (w6.drewN q) v5 [] := HV6.out.kept fun g hg _ => ⟨rfl, hg⟩
 have b7 := bel_drwN b6 q
 clear ki m6 t6 hb6 HV6 b6
 generalize w6.drewN q = w7 at m7 t7 hb7 hv7 b7 ⊢
 have ke := ended_ok _ b v5 w7 hb7 hv7
 clear hb7 hv7
 go_wp2_with fail
 refine Calls.mono ke ?_
 rintro e w8 ⟨rfl, q8, rfl⟩
 have m8 : (w7.drewN q8).heap[w.heap.size + 1 + 1]? = some (.cells (msgD n 10 dn) 28 (0, 0)) := m7
 have t8 : (w7.drewN q8).heap[w.heap.size + 1]? = some (.cells (msgD 0 0 []) 28 (0, 0)) := t7
 have b8 := bel_drwN b7 q8
 clear ke m7 t7 b7
 generalize w7.drewN q8 = w8 at m8 t8 b8 ⊢
 have hq := setRow_heap w8 (w.heap.size + 1) _ (msgD n 10 dn) _ _ t8
 have b9 := below_row b8 (g := w.heap.size + 1) (by omega) (msgD n 10 dn)
 go_wp2_with (first
  | (refine wpList_loadRow rfl 28 (.tmp 3) rfl (w.heap.size + 1 + 1) 28 _ (0, 0) (by rfl) m8 _ Tryz.underlying28 rfl (by rfl) ?_)
  | (refine wpList_storeRow rfl 28 (.tmp 2) (.tmp 35) rfl (w.heap.size + 1) 28 _ (msgD n 10 dn) (by rfl) (by rfl) t8 (by rfl) (by rfl) (by simp [msgD, Value.oneCell']) ?_))
 refine bodyPost_ret (v := .agg (msgD n 10 dn)) ?_ rfl ⟨rfl, b9⟩
 have hr := run_loadVar_row (P := Tryz.prog) (w8.setRow (w.heap.size + 1) (msgD n 10 dn)) (w.heap.size + 1) 28 28 (msgD n 10 dn) (0, 0) _ hq (show Tryz.prog.underlying 28 = _ from Tryz.underlying28) (by rfl) (by rfl)
 simp [results, Tryz.f48]
 exact hr
end Go.Proofs.YthjaiigijbjloaaGreatDoor
