/- message.told at a delete. (Written by genmsb.py.) -/
import Derived.Test.YtaojidcneocelaaGreatDoorMsA
namespace Go.Proofs.YtaojidcneocelaaGreatDoor
open Go.RowKit Go.Lib

def delE (n : Nat) (dn : List UInt8) : El := .mk 0 16 true [] [.mk 0 2 false [UInt8.ofNat n] [], .mk 1 10 false dn []]
set_option maxRecDepth 100000 in
set_option maxHeartbeats 4000000 in
theorem told_delete (n : Nat) (hn : n ≤ 127) (dn : List UInt8) (hd : dn.length ≤ 1000000) (u : Value) (w : World) (h : KidsAt (fun _ => True) w u (delE n dn).kids) :
    Calls Tryz.prog 48 #[.agg (elA (delE n dn) u)] w fun e w' => e = .returned (.agg (msgD n 10 dn)) ∧ Below w.heap.size w w' := by
  obtain ⟨a, c, hf⟩ := h.shape
  subst hf
  have b1 : Below w.heap.size w (((w.alloc (.cells #[.int .i64 0, .int .i64 16, .bool true, .string ⟨#[]⟩, .slice a 2 c] 76)).alloc (.cells #[.int .i64 0, .int .i64 0, .string ⟨#[]⟩, .int .i64 0, .bool false, .string ⟨#[]⟩, .int .i64 0, .int .i64 0, .int .i64 0, .int .i64 0, .bool false, .slice none 0 0, .slice none 0 0, .slice none 0 0, .slice none 0 0, .string ⟨#[]⟩, .string ⟨#[]⟩, .bool false, .bool false, .string ⟨#[]⟩, .string ⟨#[]⟩, .string ⟨#[]⟩, .bool false, .int .i64 0, .int .i64 0, .string ⟨#[]⟩, .string ⟨#[]⟩, .slice none 0 0] 32)).alloc (.cells #[.int .i64 0, .int .i64 0, .string ⟨#[]⟩, .int .i64 0, .bool false, .string ⟨#[]⟩, .int .i64 0, .int .i64 0, .int .i64 0, .int .i64 0, .bool false, .slice none 0 0, .slice none 0 0, .slice none 0 0, .slice none 0 0, .string ⟨#[]⟩, .string ⟨#[]⟩, .bool false, .bool false, .string ⟨#[]⟩, .string ⟨#[]⟩, .string ⟨#[]⟩, .bool false, .int .i64 0, .int .i64 0, .string ⟨#[]⟩, .string ⟨#[]⟩, .slice none 0 0] 32)) := (((Below.refl _ _).alloc (Nat.le_refl _) _).alloc (by simp) _).alloc (by simp; omega) _
  have r1 : (((w.alloc (.cells #[.int .i64 0, .int .i64 16, .bool true, .string ⟨#[]⟩, .slice a 2 c] 76)).alloc (.cells #[.int .i64 0, .int .i64 0, .string ⟨#[]⟩, .int .i64 0, .bool false, .string ⟨#[]⟩, .int .i64 0, .int .i64 0, .int .i64 0, .int .i64 0, .bool false, .slice none 0 0, .slice none 0 0, .slice none 0 0, .slice none 0 0, .string ⟨#[]⟩, .string ⟨#[]⟩, .bool false, .bool false, .string ⟨#[]⟩, .string ⟨#[]⟩, .string ⟨#[]⟩, .bool false, .int .i64 0, .int .i64 0, .string ⟨#[]⟩, .string ⟨#[]⟩, .slice none 0 0] 32)).alloc (.cells #[.int .i64 0, .int .i64 0, .string ⟨#[]⟩, .int .i64 0, .bool false, .string ⟨#[]⟩, .int .i64 0, .int .i64 0, .int .i64 0, .int .i64 0, .bool false, .slice none 0 0, .slice none 0 0, .slice none 0 0, .slice none 0 0, .string ⟨#[]⟩, .string ⟨#[]⟩, .bool false, .bool false, .string ⟨#[]⟩, .string ⟨#[]⟩, .string ⟨#[]⟩, .bool false, .int .i64 0, .int .i64 0, .string ⟨#[]⟩, .string ⟨#[]⟩, .slice none 0 0] 32)).heap[w.heap.size]? = some (.cells #[.int .i64 0, .int .i64 16, .bool true, .string ⟨#[]⟩, .slice a 2 c] 76 (0, 0)) := (Lib.alloc_old _ _ _ (by simp; omega)).trans ((Lib.alloc_old _ _ _ (by simp)).trans (alloc_at _ _ _ rfl))
  have m1 : (((w.alloc (.cells #[.int .i64 0, .int .i64 16, .bool true, .string ⟨#[]⟩, .slice a 2 c] 76)).alloc (.cells #[.int .i64 0, .int .i64 0, .string ⟨#[]⟩, .int .i64 0, .bool false, .string ⟨#[]⟩, .int .i64 0, .int .i64 0, .int .i64 0, .int .i64 0, .bool false, .slice none 0 0, .slice none 0 0, .slice none 0 0, .slice none 0 0, .string ⟨#[]⟩, .string ⟨#[]⟩, .bool false, .bool false, .string ⟨#[]⟩, .string ⟨#[]⟩, .string ⟨#[]⟩, .bool false, .int .i64 0, .int .i64 0, .string ⟨#[]⟩, .string ⟨#[]⟩, .slice none 0 0] 32)).alloc (.cells #[.int .i64 0, .int .i64 0, .string ⟨#[]⟩, .int .i64 0, .bool false, .string ⟨#[]⟩, .int .i64 0, .int .i64 0, .int .i64 0, .int .i64 0, .bool false, .slice none 0 0, .slice none 0 0, .slice none 0 0, .slice none 0 0, .string ⟨#[]⟩, .string ⟨#[]⟩, .bool false, .bool false, .string ⟨#[]⟩, .string ⟨#[]⟩, .string ⟨#[]⟩, .bool false, .int .i64 0, .int .i64 0, .string ⟨#[]⟩, .string ⟨#[]⟩, .slice none 0 0] 32)).heap[w.heap.size + 1 + 1]? = some (.cells (msgD 0 0 []) 32 (0, 0)) := alloc_at _ _ _ (by simp)
  have t1 : (((w.alloc (.cells #[.int .i64 0, .int .i64 16, .bool true, .string ⟨#[]⟩, .slice a 2 c] 76)).alloc (.cells #[.int .i64 0, .int .i64 0, .string ⟨#[]⟩, .int .i64 0, .bool false, .string ⟨#[]⟩, .int .i64 0, .int .i64 0, .int .i64 0, .int .i64 0, .bool false, .slice none 0 0, .slice none 0 0, .slice none 0 0, .slice none 0 0, .string ⟨#[]⟩, .string ⟨#[]⟩, .bool false, .bool false, .string ⟨#[]⟩, .string ⟨#[]⟩, .string ⟨#[]⟩, .bool false, .int .i64 0, .int .i64 0, .string ⟨#[]⟩, .string ⟨#[]⟩, .slice none 0 0] 32)).alloc (.cells #[.int .i64 0, .int .i64 0, .string ⟨#[]⟩, .int .i64 0, .bool false, .string ⟨#[]⟩, .int .i64 0, .int .i64 0, .int .i64 0, .int .i64 0, .bool false, .slice none 0 0, .slice none 0 0, .slice none 0 0, .slice none 0 0, .string ⟨#[]⟩, .string ⟨#[]⟩, .bool false, .bool false, .string ⟨#[]⟩, .string ⟨#[]⟩, .string ⟨#[]⟩, .bool false, .int .i64 0, .int .i64 0, .string ⟨#[]⟩, .string ⟨#[]⟩, .slice none 0 0] 32)).heap[w.heap.size + 1]? = some (.cells (msgD 0 0 []) 32 (0, 0)) := (Lib.alloc_old _ _ _ (by simp)).trans (alloc_at _ _ _ (by simp))
  have hsm : SmE (delE n dn) := by
    simp only [delE, SmE, SmL]
    refine ⟨by simp, by simp, ⟨by simp, by simp, trivial⟩, ⟨by omega, by simp, trivial⟩, trivial⟩
  have kk := fun W (hb : Below w.heap.size w W) => kids_ok (delE n dn) (.slice a (delE n dn).kids.length c) 0 16 W (h.below hb) hsm (by simp [isE, delE, El.cls, El.tag, El.cons])
  have KK := Lib.hid (kk (((w.alloc (.cells #[.int .i64 0, .int .i64 16, .bool true, .string ⟨#[]⟩, .slice a 2 c] 76)).alloc (.cells #[.int .i64 0, .int .i64 0, .string ⟨#[]⟩, .int .i64 0, .bool false, .string ⟨#[]⟩, .int .i64 0, .int .i64 0, .int .i64 0, .int .i64 0, .bool false, .slice none 0 0, .slice none 0 0, .slice none 0 0, .slice none 0 0, .string ⟨#[]⟩, .string ⟨#[]⟩, .bool false, .bool false, .string ⟨#[]⟩, .string ⟨#[]⟩, .string ⟨#[]⟩, .bool false, .int .i64 0, .int .i64 0, .string ⟨#[]⟩, .string ⟨#[]⟩, .slice none 0 0] 32)).alloc (.cells #[.int .i64 0, .int .i64 0, .string ⟨#[]⟩, .int .i64 0, .bool false, .string ⟨#[]⟩, .int .i64 0, .int .i64 0, .int .i64 0, .int .i64 0, .bool false, .slice none 0 0, .slice none 0 0, .slice none 0 0, .slice none 0 0, .string ⟨#[]⟩, .string ⟨#[]⟩, .bool false, .bool false, .string ⟨#[]⟩, .string ⟨#[]⟩, .string ⟨#[]⟩, .bool false, .int .i64 0, .int .i64 0, .string ⟨#[]⟩, .string ⟨#[]⟩, .slice none 0 0] 32)) b1)
  clear h kk hsm
  have hk2 : (delE n dn).kids.length = 2 := rfl
  unfold elA
  rw [hk2]
  simp only [delE, El.cls, El.tag, El.cons, El.bytes]
  clear hk2
  go_enter Tryz.func48, Tryz.ntmps48
  refine wp_seq ?_
  refine wp_region_list ?_
  refine wpList_plain rfl fun K hK => ?_
  go_simp
  refine hK _ _ ?_; clear hK K
  refine wpList_plain rfl fun K hK => ?_
  go_simp
  refine hK _ _ ?_; clear hK K
  refine wpList_nil ?_
  simp only [Exit.then]
  refine wp_seq ?_
  refine wp_region_list ?_
  refine wpList_plain rfl fun K hK => ?_
  go_simp
  refine hK _ _ ?_; clear hK K
  have kk := KK.out
  clear KK
  generalize (((w.alloc (.cells #[.int .i64 0, .int .i64 16, .bool true, .string ⟨#[]⟩, .slice a 2 c] 76)).alloc (.cells #[.int .i64 0, .int .i64 0, .string ⟨#[]⟩, .int .i64 0, .bool false, .string ⟨#[]⟩, .int .i64 0, .int .i64 0, .int .i64 0, .int .i64 0, .bool false, .slice none 0 0, .slice none 0 0, .slice none 0 0, .slice none 0 0, .string ⟨#[]⟩, .string ⟨#[]⟩, .bool false, .bool false, .string ⟨#[]⟩, .string ⟨#[]⟩, .string ⟨#[]⟩, .bool false, .int .i64 0, .int .i64 0, .string ⟨#[]⟩, .string ⟨#[]⟩, .slice none 0 0] 32)).alloc (.cells #[.int .i64 0, .int .i64 0, .string ⟨#[]⟩, .int .i64 0, .bool false, .string ⟨#[]⟩, .int .i64 0, .int .i64 0, .int .i64 0, .int .i64 0, .bool false, .slice none 0 0, .slice none 0 0, .slice none 0 0, .slice none 0 0, .string ⟨#[]⟩, .string ⟨#[]⟩, .bool false, .bool false, .string ⟨#[]⟩, .string ⟨#[]⟩, .string ⟨#[]⟩, .bool false, .int .i64 0, .int .i64 0, .string ⟨#[]⟩, .string ⟨#[]⟩, .slice none 0 0] 32)) = w1 at b1 r1 m1 t1 kk ⊢
  go_wp2_with (refine wpList_loadRow rfl 76 (.tmp 1) rfl w.heap.size 76 _ (0, 0) (by rfl) r1 _ Tryz.underlying76 rfl (by rfl) ?_)
  refine Calls.mono (show Calls _ _ _ _ _ from kk) ?_
  rintro e w2 ⟨⟨b, v, rfl, hbs, hb2, hv2⟩, hB2⟩
  have m2 := (hB2.block _ (Array.getElem?_eq_some_iff.1 m1).1).trans m1
  have t2 := (hB2.block _ (Array.getElem?_eq_some_iff.1 t1).1).trans t1
  have b2 := b1.trans (hB2.mono b1.size)
  have hm1 := (Array.getElem?_eq_some_iff.1 m1).1
  have hs2 := hB2.size
  have hs1 := b1.size
  have kn := num_ok (fun g => w1.heap.size ≤ g ∧ g ≠ b) b v 2 n hn [.mk 1 10 false dn []] w2 hb2 hv2 (fun g hg => hg.2) (by simp)
  clear kk r1 t1 hb2 hv2 hB2 b1 m1
  go_wp2_with fail
  refine Calls.mono (show Calls _ _ _ _ _ from kn) ?_
  rintro e w3 ⟨⟨v3, rfl, hb3, hv3⟩, hR3⟩
  have m3 := (hR3.block _ (Array.getElem?_eq_some_iff.1 m2).1 (by omega)).trans m2
  have t3 := (hR3.block _ (Array.getElem?_eq_some_iff.1 t2).1 (by omega)).trans t2
  have b3 : Below w.heap.size w w3 := b2.trans ((hR3.mono b2.size).below (by omega))
  have q0 : w3.cell? ⟨w.heap.size + 1 + 1, 0, none⟩ = some (.int .i64 0) := (Lib.cell_of_heap m3 0).trans rfl
  have z0 := Lib.frozen_of_heap m3 0
  have m4 : (w3.setCell ⟨w.heap.size + 1 + 1, 0, none⟩ (.int .i64 n)).heap[w.heap.size + 1 + 1]? = some (.cells (msgD n 0 []) 32 (0, 0)) := setCell_at (i := 0) (u := .int .i64 n) m3
  have hoth : ∀ g, g ≠ w.heap.size + 1 + 1 → (w3.setCell ⟨w.heap.size + 1 + 1, 0, none⟩ (.int .i64 n)).heap[g]? = w3.heap[g]? := fun g hg => Below.heap_setCell w3 ⟨w.heap.size + 1 + 1, 0, none⟩ _ g hg
  have t4 := (hoth (w.heap.size + 1) (by omega)).trans t3
  have hb4 := (hoth b (by omega)).trans hb3
  have hv4 : KidsAt (fun g => w1.heap.size ≤ g ∧ g ≠ b) (w3.setCell ⟨w.heap.size + 1 + 1, 0, none⟩ (.int .i64 n)) v3 [.mk 1 10 false dn []] := hv3.kept fun g hg _ => ⟨hoth g (by omega), hg⟩
  have b4 := b3.setCell (p := ⟨w.heap.size + 1 + 1, 0, none⟩) (by show w.heap.size ≤ w.heap.size + 1 + 1; omega) (.int .i64 n)
  have H4 := Lib.hid m4
  have HT4 := Lib.hid t4
  have HB4 := Lib.hid hb4
  have HV4 := Lib.hid hv4
  have HBB := Lib.hid b4
  clear kn m2 t2 b2 hb3 hv3 hR3 m3 t3 b3 m4 t4 hb4 hv4 b4 hoth
  go_wp2_with fail
  clear q0 z0
  generalize w3.setCell ⟨w.heap.size + 1 + 1, 0, none⟩ (.int .i64 n) = w4 at H4 HT4 HB4 HV4 HBB ⊢
  have kx := next_ok (fun g => w1.heap.size ≤ g ∧ g ≠ b) b v3 (.mk 1 10 false dn []) [] w4 HB4.out HV4.out (fun g hg => hg.2) (by simp)
  have hs4 := HBB.out.size
  refine Calls.mono (show Calls _ _ _ _ _ from kx) ?_
  rintro e w5 ⟨⟨u5, v5, rfl, hu5, hb5, hv5⟩, hR5⟩
  have m5 := (hR5.block _ (Array.getElem?_eq_some_iff.1 H4.out).1 (by omega)).trans H4.out
  have t5 := (hR5.block _ (Array.getElem?_eq_some_iff.1 HT4.out).1 (by omega)).trans HT4.out
  have b5 : Below w.heap.size w w5 := HBB.out.trans ((hR5.mono hs4).below (by omega))
  obtain ⟨a5, c5, hf5⟩ := hu5.shape
  subst hf5
  have ko := opOf_delete (w.heap.size + 1 + 1) n dn a5 c5 w5 m5
  have hs5 := b5.size
  have hb5l := (Array.getElem?_eq_some_iff.1 hb5).1
  have hm5l := (Array.getElem?_eq_some_iff.1 m5).1
  clear kx H4 HT4 HB4 HV4 HBB hR5 hu5 m5
  go_wp2_with fail
  refine Calls.mono (show Calls _ _ _ _ _ from ko) ?_
  rintro e w6 ⟨rfl, m6, hR6⟩
  have t6 := (hR6.block _ (Array.getElem?_eq_some_iff.1 t5).1 (by omega)).trans t5
  have hb6 := (hR6.block _ hb5l (by omega)).trans hb5
  have hv6 : KidsAt (fun g => w1.heap.size ≤ g ∧ g ≠ b) w6 v5 [] := hv5.kept fun g hg hl => ⟨hR6.block g hl (by omega), hg⟩
  have b6 : Below w.heap.size w w6 := b5.trans ((hR6.mono hs5).below (by omega))
  have ki := is_none _ b v5 2 0 w6 hb6 hv6
  have HV6 := Lib.hid hv6
  clear ko t5 hb5 hv5 hR6 b5 hv6
  go_wp2_with fail
  refine Calls.mono (show Calls _ _ _ _ _ from ki) ?_
  rintro e w7 ⟨rfl, q, rfl⟩
  have m7 : (w6.drewN q).heap[w.heap.size + 1 + 1]? = some (.cells (msgD n 10 dn) 32 (0, 0)) := m6
  have t7 : (w6.drewN q).heap[w.heap.size + 1]? = some (.cells (msgD 0 0 []) 32 (0, 0)) := t6
  have hb7 : (w6.drewN q).heap[b]? = some (.cells #[v5] 115 (0, 0)) := hb6
  have hv7 : KidsAt (fun g => w1.heap.size ≤ g ∧ g ≠ b) (w6.drewN q) v5 [] := HV6.out.kept fun g hg _ => ⟨rfl, hg⟩
  have b7 := bel_drwN b6 q
  clear ki m6 t6 hb6 HV6 b6
  generalize w6.drewN q = w7 at m7 t7 hb7 hv7 b7 ⊢
  have ke := ended_ok _ b v5 w7 hb7 hv7
  clear hb7 hv7
  go_wp2_with fail
  refine Calls.mono (show Calls _ _ _ _ _ from ke) ?_
  rintro e w8 ⟨rfl, q8, rfl⟩
  have m8 : (w7.drewN q8).heap[w.heap.size + 1 + 1]? = some (.cells (msgD n 10 dn) 32 (0, 0)) := m7
  have t8 : (w7.drewN q8).heap[w.heap.size + 1]? = some (.cells (msgD 0 0 []) 32 (0, 0)) := t7
  have b8 := bel_drwN b7 q8
  clear ke m7 t7 b7
  generalize w7.drewN q8 = w8 at m8 t8 b8 ⊢
  have hq := setRow_heap w8 (w.heap.size + 1) _ (msgD n 10 dn) _ _ t8
  have b9 := below_row b8 (g := w.heap.size + 1) (by omega) (msgD n 10 dn)
  go_wp2_with (first
    | (refine wpList_loadRow rfl 32 (.tmp 3) rfl (w.heap.size + 1 + 1) 32 _ (0, 0) (by rfl) m8 _ Tryz.underlying32 rfl (by rfl) ?_)
    | (refine wpList_storeRow rfl 32 (.tmp 2) (.tmp 35) rfl (w.heap.size + 1) 32 _ (msgD n 10 dn) (by rfl) (by rfl) t8 (by rfl) (by rfl) (by simp [msgD, Value.oneCell']) ?_))
  refine bodyPost_ret (v := .agg (msgD n 10 dn)) ?_ rfl ⟨rfl, b9⟩
  have hr := run_loadVar_row (P := Tryz.prog) (w8.setRow (w.heap.size + 1) (msgD n 10 dn)) (w.heap.size + 1) 32 32 (msgD n 10 dn) (0, 0) _ hq (show Tryz.prog.underlying 32 = _ from Tryz.underlying32) (by rfl) (by rfl)
  simp [results, Tryz.f48]
  exact hr
end Go.Proofs.YtaojidcneocelaaGreatDoor
