/- ber.Str, Seq, As, and message.str, ctx: what they return. (Written by genberc.py.) -/
import Derived.Test.YtaojidcneocelaaGreatDoorBerB
namespace Go.Proofs.YtaojidcneocelaaGreatDoor
open Go.RowKit Go.Lib

set_option maxRecDepth 100000 in
set_option maxHeartbeats 2000000 in
theorem Str_any (t : Int) (s : List UInt8) (w : World) :
    Calls Tryz.prog 94 #[.int .i64 t, .string ⟨s.toArray⟩] w fun e w' => e = .returned (.agg (elA (.mk 0 t false s []) (.slice none 0 0))) ∧ Below w.heap.size w w' := by
  have hb : Below w.heap.size w (w.alloc (.cells #[.int .i64 0, .int .i64 t, .bool false, .string ⟨s.toArray⟩, .slice none 0 0] 76)) := (Below.refl _ _).alloc (Nat.le_refl _) _
  have hr : (w.alloc (.cells #[.int .i64 0, .int .i64 t, .bool false, .string ⟨s.toArray⟩, .slice none 0 0] 76)).heap[w.heap.size]? = some (.cells #[.int .i64 0, .int .i64 t, .bool false, .string ⟨s.toArray⟩, .slice none 0 0] 76 (0, 0)) := alloc_at _ _ _ rfl
  go_enter Tryz.func94, Tryz.ntmps94
  go_wp2_with fail
  all_goals refine bodyPost_ret (v := .agg #[.int .i64 0, .int .i64 t, .bool false, .string ⟨s.toArray⟩, .slice none 0 0]) ?_ rfl ⟨rfl, hb⟩
  all_goals have hr := run_loadVar_row (P := Tryz.prog) (w.alloc (.cells #[.int .i64 0, .int .i64 t, .bool false, .string ⟨s.toArray⟩, .slice none 0 0] 76)) (w.heap.size) 76 76 #[.int .i64 0, .int .i64 t, .bool false, .string ⟨s.toArray⟩, .slice none 0 0] (0, 0) _ hr (show Tryz.prog.underlying 76 = _ from Tryz.underlying76) (by rfl) (by rfl)
  all_goals simp [results, Tryz.f94]
  all_goals exact hr
set_option maxRecDepth 100000 in
set_option maxHeartbeats 2000000 in
theorem mstr_any (s : List UInt8) (w : World) :
    Calls Tryz.prog 70 #[.string ⟨s.toArray⟩] w fun e w' => e = .returned (.agg (elA (.mk 0 4 false s []) (.slice none 0 0))) ∧ Below w.heap.size w w' := by
  have hb : Below w.heap.size w (w.alloc (.cells #[.int .i64 0, .int .i64 0, .bool false, .string ⟨#[]⟩, .slice none 0 0] 76)) := (Below.refl _ _).alloc (Nat.le_refl _) _
  have hr : (w.alloc (.cells #[.int .i64 0, .int .i64 0, .bool false, .string ⟨#[]⟩, .slice none 0 0] 76)).heap[w.heap.size]? = some (.cells #[.int .i64 0, .int .i64 0, .bool false, .string ⟨#[]⟩, .slice none 0 0] 76 (0, 0)) := alloc_at _ _ _ rfl
  have k := Str_any 4 s (w.alloc (.cells #[.int .i64 0, .int .i64 0, .bool false, .string ⟨#[]⟩, .slice none 0 0] 76))
  go_enter Tryz.func70, Tryz.ntmps70
  go_wp2_with fail
  refine Calls.mono (show Calls _ _ _ _ _ from k) ?_
  rintro e w2 ⟨rfl, hb2⟩
  have hr2 := (hb2.block _ (Array.getElem?_eq_some_iff.1 hr).1).trans hr
  have hb3 := hb.trans (hb2.mono hb.size)
  clear hr hb2 hb k
  unfold elA
  simp only [El.cls, El.tag, El.cons, El.bytes]
  have hq := setRow_heap w2 w.heap.size _ #[.int .i64 0, .int .i64 4, .bool false, .string ⟨s.toArray⟩, .slice none 0 0] _ _ hr2
  have hb4 := below_row hb3 (g := w.heap.size) (Nat.le_refl _) #[.int .i64 0, .int .i64 4, .bool false, .string ⟨s.toArray⟩, .slice none 0 0]
  go_wp2_with (refine wpList_storeRow rfl 76 (.tmp 2) (.tmp 4) rfl w.heap.size 76 _ #[.int .i64 0, .int .i64 4, .bool false, .string ⟨s.toArray⟩, .slice none 0 0] (by rfl) (by rfl) hr2 (by rfl) (by rfl) (by simp [Value.oneCell']) ?_)
  all_goals refine bodyPost_ret (v := .agg #[.int .i64 0, .int .i64 4, .bool false, .string ⟨s.toArray⟩, .slice none 0 0]) ?_ rfl ⟨rfl, hb4⟩
  all_goals have hr := run_loadVar_row (P := Tryz.prog) (w2.setRow w.heap.size #[.int .i64 0, .int .i64 4, .bool false, .string ⟨s.toArray⟩, .slice none 0 0]) (w.heap.size) 76 76 #[.int .i64 0, .int .i64 4, .bool false, .string ⟨s.toArray⟩, .slice none 0 0] (0, 0) _ hq (show Tryz.prog.underlying 76 = _ from Tryz.underlying76) (by rfl) (by rfl)
  all_goals simp [results, Tryz.f70]
  all_goals exact hr
set_option maxRecDepth 100000 in
set_option maxHeartbeats 2000000 in
theorem Seq_any (l : List El) (v : Value) (w : World) (h : KidsAt (fun _ => True) w v l) (hs : SmL l) (hl : l.length ≤ 1000000000) :
    Calls Tryz.prog 72 #[v] w fun e w' => (∃ u, e = .returned (.agg (elA (.mk 0 16 true [] l) u)) ∧ KidsAt (fun g => w.heap.size ≤ g) w' u l) ∧ Below w.heap.size w w' := by
  obtain ⟨av, cv, hfv⟩ := h.shape
  subst hfv
  have hb : Below w.heap.size w (w.alloc (.cells #[.int .i64 0, .int .i64 0, .bool false, .string ⟨#[]⟩, .slice none 0 0] 76)) := (Below.refl _ _).alloc (Nat.le_refl _) _
  have hr : (w.alloc (.cells #[.int .i64 0, .int .i64 0, .bool false, .string ⟨#[]⟩, .slice none 0 0] 76)).heap[w.heap.size]? = some (.cells #[.int .i64 0, .int .i64 0, .bool false, .string ⟨#[]⟩, .slice none 0 0] 76 (0, 0)) := alloc_at _ _ _ rfl
  have k := copies_any (depL l) l (Nat.le_refl _) hs hl _ _ (h.below hb)
  clear h hs
  go_enter Tryz.func72, Tryz.ntmps72
  go_wp2_with fail
  refine Calls.mono (show Calls _ _ _ _ _ from k) ?_
  rintro e w2 ⟨⟨u2, rfl, hu2⟩, hb2⟩
  obtain ⟨a2, c2, hf2⟩ := hu2.shape
  subst hf2
  have hlt := (Array.getElem?_eq_some_iff.1 hr).1
  have hr2 := (hb2.block _ hlt).trans hr
  have hb3 := hb.trans (hb2.mono hb.size)
  have HU : KidsAt (fun g => w.heap.size ≤ g) (w2.setRow w.heap.size #[.int .i64 0, .int .i64 16, .bool true, .string ⟨#[]⟩, .slice a2 l.length c2]) (.slice a2 l.length c2) l := hu2.kept fun g hg _ => ⟨setRow_other _ _ _ _ (by omega), by omega⟩
  have hq := setRow_heap w2 w.heap.size _ #[.int .i64 0, .int .i64 16, .bool true, .string ⟨#[]⟩, .slice a2 l.length c2] _ _ hr2
  have hb4 := below_row hb3 (g := w.heap.size) (Nat.le_refl _) #[.int .i64 0, .int .i64 16, .bool true, .string ⟨#[]⟩, .slice a2 l.length c2]
  have HH := Lib.hid HU
  clear hr hb2 hb k hu2 HU
  go_wp2_with (refine wpList_storeRow rfl 76 (.tmp 2) (.tmp 5) rfl w.heap.size 76 _ #[.int .i64 0, .int .i64 16, .bool true, .string ⟨#[]⟩, .slice a2 l.length c2] (by rfl) (by rfl) hr2 (by rfl) (by rfl) (by simp [Value.oneCell']) ?_)
  all_goals refine bodyPost_ret (v := .agg #[.int .i64 0, .int .i64 16, .bool true, .string ⟨#[]⟩, .slice a2 l.length c2]) ?_ rfl ⟨⟨_, rfl, HH.out⟩, hb4⟩
  all_goals have hr := run_loadVar_row (P := Tryz.prog) (w2.setRow w.heap.size #[.int .i64 0, .int .i64 16, .bool true, .string ⟨#[]⟩, .slice a2 l.length c2]) (w.heap.size) 76 76 #[.int .i64 0, .int .i64 16, .bool true, .string ⟨#[]⟩, .slice a2 l.length c2] (0, 0) _ hq (show Tryz.prog.underlying 76 = _ from Tryz.underlying76) (by rfl) (by rfl)
  all_goals simp [results, Tryz.f72]
  all_goals exact hr
set_option maxRecDepth 100000 in
set_option maxHeartbeats 2000000 in
theorem As_any (el : El) (u : Value) (c t : Int) (w : World) (h : KidsAt (fun _ => True) w u el.kids) (hs : SmE el) :
    Calls Tryz.prog 110 #[.agg (elA el u), .int .i64 c, .int .i64 t] w fun e w' => (∃ u', e = .returned (.agg (elA (.mk c t el.cons el.bytes el.kids) u')) ∧ KidsAt (fun g => w.heap.size ≤ g) w' u' el.kids) ∧ Below w.heap.size w w' := by
  obtain ⟨_, hl, hsl⟩ := SmE_parts hs
  obtain ⟨av, cv, hfv⟩ := h.shape
  subst hfv
  have hb : Below w.heap.size w ((w.alloc (.cells #[.int .i64 el.cls, .int .i64 el.tag, .bool el.cons, .string ⟨el.bytes.toArray⟩, .slice av el.kids.length cv] 76)).alloc (.cells #[.int .i64 0, .int .i64 0, .bool false, .string ⟨#[]⟩, .slice none 0 0] 76)) := ((Below.refl _ _).alloc (Nat.le_refl _) _).alloc (by simp) _
  have hr : ((w.alloc (.cells #[.int .i64 el.cls, .int .i64 el.tag, .bool el.cons, .string ⟨el.bytes.toArray⟩, .slice av el.kids.length cv] 76)).alloc (.cells #[.int .i64 0, .int .i64 0, .bool false, .string ⟨#[]⟩, .slice none 0 0] 76)).heap[w.heap.size]? = some (.cells #[.int .i64 el.cls, .int .i64 el.tag, .bool el.cons, .string ⟨el.bytes.toArray⟩, .slice av el.kids.length cv] 76 (0, 0)) := (Lib.alloc_old _ _ _ (by simp)).trans (alloc_at _ _ _ rfl)
  have hz : ((w.alloc (.cells #[.int .i64 el.cls, .int .i64 el.tag, .bool el.cons, .string ⟨el.bytes.toArray⟩, .slice av el.kids.length cv] 76)).alloc (.cells #[.int .i64 0, .int .i64 0, .bool false, .string ⟨#[]⟩, .slice none 0 0] 76)).heap[w.heap.size + 1]? = some (.cells #[.int .i64 0, .int .i64 0, .bool false, .string ⟨#[]⟩, .slice none 0 0] 76 (0, 0)) := alloc_at _ _ _ (by simp)
  have k := copies_any (depL el.kids) el.kids (Nat.le_refl _) hsl hl _ _ (h.below hb)
  clear h hs hsl
  unfold elA
  go_enter Tryz.func110, Tryz.ntmps110
  go_wp2_with fail
  refine Calls.mono (show Calls _ _ _ _ _ from k) ?_
  rintro e w2 ⟨⟨u2, rfl, hu2⟩, hb2⟩
  obtain ⟨a2, c2, hf2⟩ := hu2.shape
  subst hf2
  have hlt := (Array.getElem?_eq_some_iff.1 hz).1
  have hr2 := (hb2.block _ (Array.getElem?_eq_some_iff.1 hr).1).trans hr
  have hz2 := (hb2.block _ hlt).trans hz
  have hb3 := hb.trans (hb2.mono hb.size)
  have q0 : w2.cell? ⟨w.heap.size, 0, none⟩ = some (.int .i64 el.cls) := (Lib.cell_of_heap hr2 0).trans rfl
  have q1 : w2.cell? ⟨w.heap.size, 1, none⟩ = some (.int .i64 el.tag) := (Lib.cell_of_heap hr2 1).trans rfl
  have q4 : w2.cell? ⟨w.heap.size, 4, none⟩ = some (.slice av el.kids.length cv) := (Lib.cell_of_heap hr2 4).trans rfl
  have z0 := Lib.frozen_of_heap hr2 0
  have z1 := Lib.frozen_of_heap hr2 1
  have z4 := Lib.frozen_of_heap hr2 4
  have n1 : (w2.setCell ⟨w.heap.size, 0, none⟩ (.int .i64 c)).heap[w.heap.size]? = _ := setCell_at (i := 0) (u := .int .i64 c) hr2
  have n2 : ((w2.setCell ⟨w.heap.size, 0, none⟩ (.int .i64 c)).setCell ⟨w.heap.size, 1, none⟩ (.int .i64 t)).heap[w.heap.size]? = _ := setCell_at (i := 1) (u := .int .i64 t) n1
  have n3 : (((w2.setCell ⟨w.heap.size, 0, none⟩ (.int .i64 c)).setCell ⟨w.heap.size, 1, none⟩ (.int .i64 t)).setCell ⟨w.heap.size, 4, none⟩ (.slice a2 el.kids.length c2)).heap[w.heap.size]? = some (.cells #[.int .i64 c, .int .i64 t, .bool el.cons, .string ⟨el.bytes.toArray⟩, .slice a2 el.kids.length c2] 76 (0, 0)) := setCell_at (i := 4) (u := .slice a2 el.kids.length c2) n2
  have hoth : ∀ g, g ≠ w.heap.size → (((w2.setCell ⟨w.heap.size, 0, none⟩ (.int .i64 c)).setCell ⟨w.heap.size, 1, none⟩ (.int .i64 t)).setCell ⟨w.heap.size, 4, none⟩ (.slice a2 el.kids.length c2)).heap[g]? = w2.heap[g]? := fun g hg => (Below.heap_setCell _ ⟨w.heap.size, 4, none⟩ _ g hg).trans ((Below.heap_setCell _ ⟨w.heap.size, 1, none⟩ _ g hg).trans (Below.heap_setCell _ ⟨w.heap.size, 0, none⟩ _ g hg))
  have m3 := (hoth (w.heap.size + 1) (by omega)).trans hz2
  have b3 : Below w.heap.size w (((w2.setCell ⟨w.heap.size, 0, none⟩ (.int .i64 c)).setCell ⟨w.heap.size, 1, none⟩ (.int .i64 t)).setCell ⟨w.heap.size, 4, none⟩ (.slice a2 el.kids.length c2)) := ((hb3.setCell (p := ⟨w.heap.size, 0, none⟩) (Nat.le_refl _) _).setCell (p := ⟨w.heap.size, 1, none⟩) (Nat.le_refl _) _).setCell (p := ⟨w.heap.size, 4, none⟩) (Nat.le_refl _) _
  have K3 : KidsAt (fun g => w.heap.size + 1 < g) (((w2.setCell ⟨w.heap.size, 0, none⟩ (.int .i64 c)).setCell ⟨w.heap.size, 1, none⟩ (.int .i64 t)).setCell ⟨w.heap.size, 4, none⟩ (.slice a2 el.kids.length c2)) (.slice a2 el.kids.length c2) el.kids := hu2.kept fun g hg _ => ⟨hoth g (by omega), by omega⟩
  have HK := Lib.hid K3
  have HN := Lib.hid n3
  have HM := Lib.hid m3
  have HB := Lib.hid b3
  clear n1 n2 n3 hoth m3 b3 K3 hu2 hb2 hr hz hb k hb3 hz2 hr2
  go_wp2_with (first
    | (generalize ((w2.setCell ⟨w.heap.size, 0, none⟩ (.int .i64 c)).setCell ⟨w.heap.size, 1, none⟩ (.int .i64 t)).setCell ⟨w.heap.size, 4, none⟩ (.slice a2 el.kids.length c2) = w3 at HN HM HB HK ⊢; refine wpList_loadRow rfl 76 (.tmp 3) rfl w.heap.size 76 _ (0, 0) (by rfl) HN.out _ Tryz.underlying76 rfl (by rfl) ?_)
    | (refine wpList_storeRow rfl 76 (.tmp 6) (.tmp 15) rfl (w.heap.size + 1) 76 _ #[.int .i64 c, .int .i64 t, .bool el.cons, .string ⟨el.bytes.toArray⟩, .slice a2 el.kids.length c2] (by rfl) (by rfl) HM.out (by rfl) (by rfl) (by simp [Value.oneCell']) ?_))
  have hq := setRow_heap w3 (w.heap.size + 1) _ #[.int .i64 c, .int .i64 t, .bool el.cons, .string ⟨el.bytes.toArray⟩, .slice a2 el.kids.length c2] _ _ HM.out
  have hb4 := below_row HB.out (g := w.heap.size + 1) (by omega) #[.int .i64 c, .int .i64 t, .bool el.cons, .string ⟨el.bytes.toArray⟩, .slice a2 el.kids.length c2]
  have HH : KidsAt (fun g => w.heap.size ≤ g) (w3.setRow (w.heap.size + 1) #[.int .i64 c, .int .i64 t, .bool el.cons, .string ⟨el.bytes.toArray⟩, .slice a2 el.kids.length c2]) (.slice a2 el.kids.length c2) el.kids := HK.out.kept fun g hg _ => ⟨setRow_other _ _ _ _ (by omega), by omega⟩
  all_goals refine bodyPost_ret (v := .agg #[.int .i64 c, .int .i64 t, .bool el.cons, .string ⟨el.bytes.toArray⟩, .slice a2 el.kids.length c2]) ?_ rfl ⟨⟨_, rfl, HH⟩, hb4⟩
  all_goals have hr := run_loadVar_row (P := Tryz.prog) (w3.setRow (w.heap.size + 1) #[.int .i64 c, .int .i64 t, .bool el.cons, .string ⟨el.bytes.toArray⟩, .slice a2 el.kids.length c2]) (w.heap.size + 1) 76 76 #[.int .i64 c, .int .i64 t, .bool el.cons, .string ⟨el.bytes.toArray⟩, .slice a2 el.kids.length c2] (0, 0) _ hq (show Tryz.prog.underlying 76 = _ from Tryz.underlying76) (by rfl) (by rfl)
  all_goals simp [results, Tryz.f110]
  all_goals exact hr
set_option maxRecDepth 100000 in
set_option maxHeartbeats 2000000 in
theorem ctx_any (el : El) (u : Value) (t : Int) (w : World) (h : KidsAt (fun _ => True) w u el.kids) (hs : SmE el) :
    Calls Tryz.prog 73 #[.int .i64 t, .agg (elA el u)] w fun e w' => (∃ u', e = .returned (.agg (elA (.mk 2 t el.cons el.bytes el.kids) u')) ∧ KidsAt (fun g => w.heap.size ≤ g) w' u' el.kids) ∧ Below w.heap.size w w' := by
  have hb : Below w.heap.size w ((w.alloc (.cells (elA el u) 76)).alloc (.cells #[.int .i64 0, .int .i64 0, .bool false, .string ⟨#[]⟩, .slice none 0 0] 76)) := ((Below.refl _ _).alloc (Nat.le_refl _) _).alloc (by simp) _
  have hr : ((w.alloc (.cells (elA el u) 76)).alloc (.cells #[.int .i64 0, .int .i64 0, .bool false, .string ⟨#[]⟩, .slice none 0 0] 76)).heap[w.heap.size]? = some (.cells (elA el u) 76 (0, 0)) := (Lib.alloc_old _ _ _ (by simp)).trans (alloc_at _ _ _ rfl)
  have hz : ((w.alloc (.cells (elA el u) 76)).alloc (.cells #[.int .i64 0, .int .i64 0, .bool false, .string ⟨#[]⟩, .slice none 0 0] 76)).heap[w.heap.size + 1]? = some (.cells #[.int .i64 0, .int .i64 0, .bool false, .string ⟨#[]⟩, .slice none 0 0] 76 (0, 0)) := alloc_at _ _ _ (by simp)
  have k := As_any el u 2 t _ (h.below hb) hs
  clear h hs
  go_enter Tryz.func73, Tryz.ntmps73
  go_wp2_with (refine wpList_loadRow rfl 76 (.tmp 3) rfl w.heap.size 76 _ (0, 0) (by rfl) hr _ Tryz.underlying76 rfl (by rfl) ?_)
  refine Calls.mono (show Calls _ _ _ _ _ from k) ?_
  rintro e w2 ⟨⟨u2, rfl, hu2⟩, hb2⟩
  obtain ⟨a2, c2, hf2⟩ := hu2.shape
  subst hf2
  have hz2 := (hb2.block _ (Array.getElem?_eq_some_iff.1 hz).1).trans hz
  have hb3 := hb.trans (hb2.mono hb.size)
  have hq := setRow_heap w2 (w.heap.size + 1) _ (elA (.mk 2 t el.cons el.bytes el.kids) (.slice a2 el.kids.length c2)) _ _ hz2
  have hb4 := below_row hb3 (g := w.heap.size + 1) (by omega) (elA (.mk 2 t el.cons el.bytes el.kids) (.slice a2 el.kids.length c2))
  have hlt := (Array.getElem?_eq_some_iff.1 hz).1
  have HH : KidsAt (fun g => w.heap.size ≤ g) (w2.setRow (w.heap.size + 1) (elA (.mk 2 t el.cons el.bytes el.kids) (.slice a2 el.kids.length c2))) (.slice a2 el.kids.length c2) el.kids := hu2.kept fun g hg _ => ⟨setRow_other _ _ _ _ (by omega), by omega⟩
  have HI := Lib.hid HH
  clear hb k hu2 hb2 hr hz hb3 HH
  go_wp2_with (refine wpList_storeRow rfl 76 (.tmp 4) (.tmp 7) rfl (w.heap.size + 1) 76 _ (elA (.mk 2 t el.cons el.bytes el.kids) (.slice a2 el.kids.length c2)) (by rfl) (by rfl) hz2 (by rfl) (by rfl) (by simp [elA, Value.oneCell']) ?_)
  all_goals refine bodyPost_ret (v := .agg (elA (.mk 2 t el.cons el.bytes el.kids) (.slice a2 el.kids.length c2))) ?_ rfl ⟨⟨_, rfl, HI.out⟩, hb4⟩
  all_goals have hr := run_loadVar_row (P := Tryz.prog) (w2.setRow (w.heap.size + 1) (elA (.mk 2 t el.cons el.bytes el.kids) (.slice a2 el.kids.length c2))) (w.heap.size + 1) 76 76 (elA (.mk 2 t el.cons el.bytes el.kids) (.slice a2 el.kids.length c2)) (0, 0) _ hq (show Tryz.prog.underlying 76 = _ from Tryz.underlying76) (by rfl) (by rfl)
  all_goals simp [results, Tryz.f73]
  all_goals exact hr
end Go.Proofs.YtaojidcneocelaaGreatDoor
