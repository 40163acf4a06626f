/- ElH. -/
import Derived.Test.YthjaiigijbjloaaGreatDoorQ21
namespace Go.Proofs.YthjaiigijbjloaaGreatDoor
open Go.RowKit Go.Lib
set_option maxRecDepth 100000 in
set_option maxHeartbeats 4000000 in
theorem answer_nn (A : Array Value) (n : Nat) (mt tx : List UInt8) (w : World) (h24 : A[24]? = some (.int .i64 (n : Int))) (h25 : A[25]? = some (.string ⟨mt.toArray⟩)) (h26 : A[26]? = some (.string ⟨tx.toArray⟩)) (h21 : A[21]? = some (.string ⟨#[]⟩)) (h22 : A[22]? = some (.bool false)) (hn : n ≤ 2147483647) :
  Calls Tryz.prog 127 #[.agg A] w fun e w' => (∃ v, e = .returned v ∧ OwnK w.heap.size w' v [.mk 0 10 false (sgB n) [], .mk 0 4 false mt [], .mk 0 4 false tx []]) ∧ Below w.heap.size w w' := by
 have b1 : Below w.heap.size w (w.alloc (.cells A 28)) := (Below.refl _ _).alloc (Nat.le_refl _) _
 have m1 : (w.alloc (.cells A 28)).heap[w.heap.size]? = some (.cells A 28 (0, 0)) := alloc_at _ _ _ rfl
 have G24 := hid h24
 have G25 := hid h25
 have G26 := hid h26
 have G21 := hid h21
 have G22 := hid h22
 clear h24 h25 h26 h21 h22
 go_enter Tryz.func127, Tryz.ntmps127
 go_upto_region 1 with fail
 generalize w.alloc (.cells A 28) = w1 at b1 m1 ⊢
 refine wp_region_held (S := fun w' => w'.heap[w.heap.size]? = some (.cells A 28 (0, 0))) (by kernel_rfl) ?_
 have T : w1.drew.heap[w.heap.size]? = some (.cells A 28 (0, 0)) := m1
 have D : Below w.heap.size w w1.drew := b1.drew
 change wpAnyH _ _ _ _ _ _ _ _ w1.drew
 clear m1 b1
 generalize w1.drew = w2 at T D ⊢
 refine tk 0 (.pointer (some ⟨w.heap.size, 24, none⟩)) rfl (fun w' hS => by go_simp) T (fun K hK => ?_); go_simp; refine hK _ _ ?_; clear hK K
 refine tk 1 (.int .i64 (n : Int)) rfl (fun w' hS => by have q := (cell_of_heap hS 24).trans G24.out; go_simp) T (fun K hK => ?_); go_simp; refine hK _ _ ?_; clear hK K
 refine tk 3 (.pointer (some ⟨w.heap.size, 25, none⟩)) rfl (fun w' hS => by go_simp) T (fun K hK => ?_); go_simp; refine hK _ _ ?_; clear hK K
 refine tk 4 (.string ⟨mt.toArray⟩) rfl (fun w' hS => by have q := (cell_of_heap hS 25).trans G25.out; go_simp) T (fun K hK => ?_); go_simp; refine hK _ _ ?_; clear hK K
 refine tk 6 (.pointer (some ⟨w.heap.size, 26, none⟩)) rfl (fun w' hS => by go_simp) T (fun K hK => ?_); go_simp; refine hK _ _ ?_; clear hK K
 refine tk 7 (.string ⟨tx.toArray⟩) rfl (fun w' hS => by have q := (cell_of_heap hS 26).trans G26.out; go_simp) T (fun K hK => ?_); go_simp; refine hK _ _ ?_; clear hK K
 have kc := Int_any 10 n hn w2
 refine anyH_one 2 (by kernel_rfl) rfl (by rfl) (fun K hK => ?_); go_simp; go_wp2_with fail
 refine Calls.mono kc ?_
 rintro e w3 ⟨rfl, hb⟩
 have T9 := (hb.block _ (gl T)).trans T
 have D9 := D.trans (hb.mono D.size)
 clear kc hb T D
 have T := T9
 have D := D9
 clear T9 D9
 refine hK _ _ T ?_; clear hK K
 have kc := mstr_any mt w3
 refine anyH_one 5 (by kernel_rfl) rfl (by rfl) (fun K hK => ?_); go_simp; go_wp2_with fail
 refine Calls.mono kc ?_
 rintro e w4 ⟨rfl, hb⟩
 have T9 := (hb.block _ (gl T)).trans T
 have D9 := D.trans (hb.mono D.size)
 clear kc hb T D
 have T := T9
 have D := D9
 clear T9 D9
 refine hK _ _ T ?_; clear hK K
 have kc := mstr_any tx w4
 refine anyH_one 8 (by kernel_rfl) rfl (by rfl) (fun K hK => ?_); go_simp; go_wp2_with fail
 refine Calls.mono kc ?_
 rintro e w5 ⟨rfl, hb⟩
 have T9 := (hb.block _ (gl T)).trans T
 have D9 := D.trans (hb.mono D.size)
 clear kc hb T D
 have T := T9
 have D := D9
 clear T9 D9
 refine hK _ _ T ?_; clear hK K
 simp only [elA, El.cls, El.tag, El.cons, El.bytes]
 have hb : Below w5.heap.size w5 (w5.alloc (.cells #[.int .i64 0, .int .i64 10, .bool false, .string ⟨((sgB n)).toArray⟩, .slice none 0 0, .int .i64 0, .int .i64 4, .bool false, .string ⟨mt.toArray⟩, .slice none 0 0, .int .i64 0, .int .i64 4, .bool false, .string ⟨tx.toArray⟩, .slice none 0 0] 45)) := (Below.refl _ _).alloc (Nat.le_refl _) _
 have x : (w5.alloc (.cells #[.int .i64 0, .int .i64 10, .bool false, .string ⟨((sgB n)).toArray⟩, .slice none 0 0, .int .i64 0, .int .i64 4, .bool false, .string ⟨mt.toArray⟩, .slice none 0 0, .int .i64 0, .int .i64 4, .bool false, .string ⟨tx.toArray⟩, .slice none 0 0] 45)).heap[w5.heap.size]? = some (.cells #[.int .i64 0, .int .i64 10, .bool false, .string ⟨((sgB n)).toArray⟩, .slice none 0 0, .int .i64 0, .int .i64 4, .bool false, .string ⟨mt.toArray⟩, .slice none 0 0, .int .i64 0, .int .i64 4, .bool false, .string ⟨tx.toArray⟩, .slice none 0 0] 45 (0, 0)) := alloc_at _ _ _ rfl
 have z : w.heap.size + 1 ≤ w5.heap.size := (gl T)
 have o6 : OwnK (w.heap.size + 1) (w5.alloc (.cells #[.int .i64 0, .int .i64 10, .bool false, .string ⟨((sgB n)).toArray⟩, .slice none 0 0, .int .i64 0, .int .i64 4, .bool false, .string ⟨mt.toArray⟩, .slice none 0 0, .int .i64 0, .int .i64 4, .bool false, .string ⟨tx.toArray⟩, .slice none 0 0] 45)) (.slice (some ⟨w5.heap.size, 0, none⟩) 3 3) [.mk 0 10 false (sgB n) [], .mk 0 4 false mt [], .mk 0 4 false tx []] :=
  OwnK.flat (l := [.mk 0 10 false (sgB n) [], .mk 0 4 false mt [], .mk 0 4 false tx []]) (us := [.slice none 0 0, .slice none 0 0, .slice none 0 0]) x (by simp [flatE, El.cls, El.tag, El.cons, El.bytes]) rfl z (by simp) (fun j e u q1 q2 => by
   have h3 : j = 0 ∨ j = 1 ∨ j = 2 := by have h9 := (List.getElem?_eq_some_iff.1 q1).1; simp at h9; omega
   rcases h3 with rfl | rfl | rfl
   all_goals (simp at q1 q2; subst q1; subst q2; exact KidsAt.no _ _ _ _))
 have T9 := (hb.block _ (gl T)).trans T
 have D9 := D.trans (hb.mono D.size)
 clear hb x z T D
 refine anyH_one 9 (by kernel_rfl) rfl (by rfl) (fun K hK => ?_); go_simp; refine hK _ _ T9 ?_; clear hK K
 generalize (w5.alloc (.cells #[.int .i64 0, .int .i64 10, .bool false, .string ⟨((sgB n)).toArray⟩, .slice none 0 0, .int .i64 0, .int .i64 4, .bool false, .string ⟨mt.toArray⟩, .slice none 0 0, .int .i64 0, .int .i64 4, .bool false, .string ⟨tx.toArray⟩, .slice none 0 0] 45)) = w6 at T9 D9 o6 ⊢
 generalize w5.heap.size = y at o6 ⊢
 refine anyH_one 10 (by kernel_rfl) rfl (by rfl) (fun K hK => ?_); go_simp; refine hK _ _ T9 ?_; clear hK K
 refine wpAnyH_done (by kernel_rfl) ?_ _
 simp only [Exit.then]
 refine ‹∀ (a : Act) (w : World), Code.wp _ _ _ a w → _› _ _ ?_
 have m6 := T9
 have b6 := D9
 clear T9 D9
 have q21 := (cell_of_heap m6 21).trans G21.out
 go_upto_region 4 with fail
 clear q21
 have q22 := (cell_of_heap m6 22).trans G22.out
 have O := hid o6
 clear o6
 go_wp2_with fail
 go_ret
 exact ⟨⟨_, rfl, O.out.mono (by omega)⟩, b6⟩
set_option maxRecDepth 100000 in
set_option maxHeartbeats 4000000 in
theorem answer_nv (A : Array Value) (n : Nat) (mt tx val : List UInt8) (w : World) (h24 : A[24]? = some (.int .i64 (n : Int))) (h25 : A[25]? = some (.string ⟨mt.toArray⟩)) (h26 : A[26]? = some (.string ⟨tx.toArray⟩)) (h21 : A[21]? = some (.string ⟨#[]⟩)) (h22 : A[22]? = some (.bool true)) (h20 : A[20]? = some (.string ⟨val.toArray⟩)) (hn : n ≤ 2147483647) (hval : val.length ≤ 1000000000) :
  Calls Tryz.prog 127 #[.agg A] w fun e w' => (∃ v, e = .returned v ∧ OwnK w.heap.size w' v [.mk 0 10 false (sgB n) [], .mk 0 4 false mt [], .mk 0 4 false tx [], .mk 2 11 false val []]) ∧ Below w.heap.size w w' := by
 have b1 : Below w.heap.size w (w.alloc (.cells A 28)) := (Below.refl _ _).alloc (Nat.le_refl _) _
 have m1 : (w.alloc (.cells A 28)).heap[w.heap.size]? = some (.cells A 28 (0, 0)) := alloc_at _ _ _ rfl
 have G24 := hid h24
 have G25 := hid h25
 have G26 := hid h26
 have G21 := hid h21
 have G22 := hid h22
 have G20 := hid h20
 clear h24 h25 h26 h21 h22 h20
 go_enter Tryz.func127, Tryz.ntmps127
 go_upto_region 1 with fail
 generalize w.alloc (.cells A 28) = w1 at b1 m1 ⊢
 refine wp_region_held (S := fun w' => w'.heap[w.heap.size]? = some (.cells A 28 (0, 0))) (by kernel_rfl) ?_
 have T : w1.drew.heap[w.heap.size]? = some (.cells A 28 (0, 0)) := m1
 have D : Below w.heap.size w w1.drew := b1.drew
 change wpAnyH _ _ _ _ _ _ _ _ w1.drew
 clear m1 b1
 generalize w1.drew = w2 at T D ⊢
 refine tk 0 (.pointer (some ⟨w.heap.size, 24, none⟩)) rfl (fun w' hS => by go_simp) T (fun K hK => ?_); go_simp; refine hK _ _ ?_; clear hK K
 refine tk 1 (.int .i64 (n : Int)) rfl (fun w' hS => by have q := (cell_of_heap hS 24).trans G24.out; go_simp) T (fun K hK => ?_); go_simp; refine hK _ _ ?_; clear hK K
 refine tk 3 (.pointer (some ⟨w.heap.size, 25, none⟩)) rfl (fun w' hS => by go_simp) T (fun K hK => ?_); go_simp; refine hK _ _ ?_; clear hK K
 refine tk 4 (.string ⟨mt.toArray⟩) rfl (fun w' hS => by have q := (cell_of_heap hS 25).trans G25.out; go_simp) T (fun K hK => ?_); go_simp; refine hK _ _ ?_; clear hK K
 refine tk 6 (.pointer (some ⟨w.heap.size, 26, none⟩)) rfl (fun w' hS => by go_simp) T (fun K hK => ?_); go_simp; refine hK _ _ ?_; clear hK K
 refine tk 7 (.string ⟨tx.toArray⟩) rfl (fun w' hS => by have q := (cell_of_heap hS 26).trans G26.out; go_simp) T (fun K hK => ?_); go_simp; refine hK _ _ ?_; clear hK K
 have kc := Int_any 10 n hn w2
 refine anyH_one 2 (by kernel_rfl) rfl (by rfl) (fun K hK => ?_); go_simp; go_wp2_with fail
 refine Calls.mono kc ?_
 rintro e w3 ⟨rfl, hb⟩
 have T9 := (hb.block _ (gl T)).trans T
 have D9 := D.trans (hb.mono D.size)
 clear kc hb T D
 have T := T9
 have D := D9
 clear T9 D9
 refine hK _ _ T ?_; clear hK K
 have kc := mstr_any mt w3
 refine anyH_one 5 (by kernel_rfl) rfl (by rfl) (fun K hK => ?_); go_simp; go_wp2_with fail
 refine Calls.mono kc ?_
 rintro e w4 ⟨rfl, hb⟩
 have T9 := (hb.block _ (gl T)).trans T
 have D9 := D.trans (hb.mono D.size)
 clear kc hb T D
 have T := T9
 have D := D9
 clear T9 D9
 refine hK _ _ T ?_; clear hK K
 have kc := mstr_any tx w4
 refine anyH_one 8 (by kernel_rfl) rfl (by rfl) (fun K hK => ?_); go_simp; go_wp2_with fail
 refine Calls.mono kc ?_
 rintro e w5 ⟨rfl, hb⟩
 have T9 := (hb.block _ (gl T)).trans T
 have D9 := D.trans (hb.mono D.size)
 clear kc hb T D
 have T := T9
 have D := D9
 clear T9 D9
 refine hK _ _ T ?_; clear hK K
 simp only [elA, El.cls, El.tag, El.cons, El.bytes]
 have hb : Below w5.heap.size w5 (w5.alloc (.cells #[.int .i64 0, .int .i64 10, .bool false, .string ⟨((sgB n)).toArray⟩, .slice none 0 0, .int .i64 0, .int .i64 4, .bool false, .string ⟨mt.toArray⟩, .slice none 0 0, .int .i64 0, .int .i64 4, .bool false, .string ⟨tx.toArray⟩, .slice none 0 0] 45)) := (Below.refl _ _).alloc (Nat.le_refl _) _
 have x : (w5.alloc (.cells #[.int .i64 0, .int .i64 10, .bool false, .string ⟨((sgB n)).toArray⟩, .slice none 0 0, .int .i64 0, .int .i64 4, .bool false, .string ⟨mt.toArray⟩, .slice none 0 0, .int .i64 0, .int .i64 4, .bool false, .string ⟨tx.toArray⟩, .slice none 0 0] 45)).heap[w5.heap.size]? = some (.cells #[.int .i64 0, .int .i64 10, .bool false, .string ⟨((sgB n)).toArray⟩, .slice none 0 0, .int .i64 0, .int .i64 4, .bool false, .string ⟨mt.toArray⟩, .slice none 0 0, .int .i64 0, .int .i64 4, .bool false, .string ⟨tx.toArray⟩, .slice none 0 0] 45 (0, 0)) := alloc_at _ _ _ rfl
 have z : w.heap.size + 1 ≤ w5.heap.size := (gl T)
 have o6 : OwnK (w.heap.size + 1) (w5.alloc (.cells #[.int .i64 0, .int .i64 10, .bool false, .string ⟨((sgB n)).toArray⟩, .slice none 0 0, .int .i64 0, .int .i64 4, .bool false, .string ⟨mt.toArray⟩, .slice none 0 0, .int .i64 0, .int .i64 4, .bool false, .string ⟨tx.toArray⟩, .slice none 0 0] 45)) (.slice (some ⟨w5.heap.size, 0, none⟩) 3 3) [.mk 0 10 false (sgB n) [], .mk 0 4 false mt [], .mk 0 4 false tx []] :=
  OwnK.flat (l := [.mk 0 10 false (sgB n) [], .mk 0 4 false mt [], .mk 0 4 false tx []]) (us := [.slice none 0 0, .slice none 0 0, .slice none 0 0]) x (by simp [flatE, El.cls, El.tag, El.cons, El.bytes]) rfl z (by simp) (fun j e u q1 q2 => by
   have h3 : j = 0 ∨ j = 1 ∨ j = 2 := by have h9 := (List.getElem?_eq_some_iff.1 q1).1; simp at h9; omega
   rcases h3 with rfl | rfl | rfl
   all_goals (simp at q1 q2; subst q1; subst q2; exact KidsAt.no _ _ _ _))
 have T9 := (hb.block _ (gl T)).trans T
 have D9 := D.trans (hb.mono D.size)
 clear hb x z T D
 refine anyH_one 9 (by kernel_rfl) rfl (by rfl) (fun K hK => ?_); go_simp; refine hK _ _ T9 ?_; clear hK K
 generalize (w5.alloc (.cells #[.int .i64 0, .int .i64 10, .bool false, .string ⟨((sgB n)).toArray⟩, .slice none 0 0, .int .i64 0, .int .i64 4, .bool false, .string ⟨mt.toArray⟩, .slice none 0 0, .int .i64 0, .int .i64 4, .bool false, .string ⟨tx.toArray⟩, .slice none 0 0] 45)) = w6 at T9 D9 o6 ⊢
 generalize w5.heap.size = y at o6 ⊢
 refine anyH_one 10 (by kernel_rfl) rfl (by rfl) (fun K hK => ?_); go_simp; refine hK _ _ T9 ?_; clear hK K
 refine wpAnyH_done (by kernel_rfl) ?_ _
 simp only [Exit.then]
 refine ‹∀ (a : Act) (w : World), Code.wp _ _ _ a w → _› _ _ ?_
 have m6 := T9
 have b6 := D9
 clear T9 D9
 have q21 := (cell_of_heap m6 21).trans G21.out
 go_upto_region 4 with fail
 clear q21
 have q22 := (cell_of_heap m6 22).trans G22.out
 go_upto_region 5 with fail
 clear q22
 have q := (cell_of_heap m6 20).trans G20.out
 have kc := mstr_any val w6
 go_wp2_with fail
 refine Calls.mono kc ?_
 rintro e w7 ⟨rfl, hb⟩
 have m7 := (hb.block _ (gl m6)).trans m6
 have b7 := b6.trans (hb.mono b6.size)
 have o7 := o6.below hb
 clear hb m6 b6 o6 kc q
 have kc := ctx_any (.mk 0 4 false val []) (.slice none 0 0) 11 w7 (KidsAt.nil _ _) (by simp [SmE, SmL]; exact hval)
 go_wp2_with fail
 refine Calls.mono kc ?_
 rintro e w8 ⟨⟨u, rfl, hu⟩, hb⟩
 obtain ⟨ae8, ce8, rfl⟩ := hu.empty
 have m8 := (hb.block _ (gl m7)).trans m7
 have b8 := b7.trans (hb.mono b7.size)
 have o8 := o7.below hb
 clear hb m7 b7 o7 kc hu
 simp only [elA, El.cls, El.tag, El.cons, El.bytes]
 have hb : Below w8.heap.size w8 (w8.alloc (.cells #[.int .i64 2, .int .i64 11, .bool false, .string ⟨val.toArray⟩, .slice ae8 0 ce8] 45)) := (Below.refl _ _).alloc (Nat.le_refl _) _
 have x : (w8.alloc (.cells #[.int .i64 2, .int .i64 11, .bool false, .string ⟨val.toArray⟩, .slice ae8 0 ce8] 45)).heap[w8.heap.size]? = some (.cells (elA (.mk 2 11 false val []) (.slice ae8 0 ce8)) 45 (0, 0)) := alloc_at _ _ _ rfl
 have m9 := (hb.block _ (gl m8)).trans m8
 have b9 := b8.trans (hb.mono b8.size)
 have o9 := o8.below hb
 clear hb m8 b8 o8 
 have hs := b9.size
 have z := (gl m9)
 have zm := (gl m9)
 have M9 := hid m9
 have B9 := hid b9
 have O9 := hid o9
 have X := hid x
 clear x m9 b9 o9
 go_wp2_with (at_builtin; refine wpList_append_el rfl (.tmp 26) (.tmp 31) rfl (w.heap.size + 1) (.slice (some ⟨y, 0, none⟩) 3 3) [.mk 0 10 false (sgB n) [], .mk 0 4 false mt [], .mk 0 4 false tx []] rfl O9.out (.mk 2 11 false val []) ae8 0 ce8 w8.heap.size rfl X.out (KidsAt.no _ _ _ _) (by simp) (by omega) ?_; intro a10 c10 w10 o10 hg; have m10 := (hg.block w.heap.size zm (fun h => by have := (O9.out.lt h.symm).1; omega)).trans M9.out; have b10 := B9.out.grown hg hs (fun b hb => by have := (O9.out.lt hb).1; omega); clear hg hs z zm X M9 B9 O9; simp only [List.cons_append, List.nil_append, List.length_cons, List.length_nil, Nat.zero_add, Nat.reduceAdd] at o10 ⊢)
 have O := hid o10
 clear o10
 go_wp2_with fail
 go_ret
 exact ⟨⟨_, rfl, O.out.mono (by omega)⟩, b10⟩
set_option maxRecDepth 100000 in
set_option maxHeartbeats 4000000 in
theorem answer_on (A : Array Value) (n : Nat) (mt tx oid : List UInt8) (w : World) (h24 : A[24]? = some (.int .i64 (n : Int))) (h25 : A[25]? = some (.string ⟨mt.toArray⟩)) (h26 : A[26]? = some (.string ⟨tx.toArray⟩)) (h21 : A[21]? = some (.string ⟨oid.toArray⟩)) (h22 : A[22]? = some (.bool false)) (hn : n ≤ 2147483647) (hne : oid ≠ []) (hoid : oid.length ≤ 1000000000) :
  Calls Tryz.prog 127 #[.agg A] w fun e w' => (∃ v, e = .returned v ∧ OwnK w.heap.size w' v [.mk 0 10 false (sgB n) [], .mk 0 4 false mt [], .mk 0 4 false tx [], .mk 2 10 false oid []]) ∧ Below w.heap.size w w' := by
 have b1 : Below w.heap.size w (w.alloc (.cells A 28)) := (Below.refl _ _).alloc (Nat.le_refl _) _
 have m1 : (w.alloc (.cells A 28)).heap[w.heap.size]? = some (.cells A 28 (0, 0)) := alloc_at _ _ _ rfl
 have i1 : oid.isEmpty = false := by simpa using hne
 clear hne
 have G24 := hid h24
 have G25 := hid h25
 have G26 := hid h26
 have G21 := hid h21
 have G22 := hid h22
 clear h24 h25 h26 h21 h22
 go_enter Tryz.func127, Tryz.ntmps127
 go_upto_region 1 with fail
 generalize w.alloc (.cells A 28) = w1 at b1 m1 ⊢
 refine wp_region_held (S := fun w' => w'.heap[w.heap.size]? = some (.cells A 28 (0, 0))) (by kernel_rfl) ?_
 have T : w1.drew.heap[w.heap.size]? = some (.cells A 28 (0, 0)) := m1
 have D : Below w.heap.size w w1.drew := b1.drew
 change wpAnyH _ _ _ _ _ _ _ _ w1.drew
 clear m1 b1
 generalize w1.drew = w2 at T D ⊢
 refine tk 0 (.pointer (some ⟨w.heap.size, 24, none⟩)) rfl (fun w' hS => by go_simp) T (fun K hK => ?_); go_simp; refine hK _ _ ?_; clear hK K
 refine tk 1 (.int .i64 (n : Int)) rfl (fun w' hS => by have q := (cell_of_heap hS 24).trans G24.out; go_simp) T (fun K hK => ?_); go_simp; refine hK _ _ ?_; clear hK K
 refine tk 3 (.pointer (some ⟨w.heap.size, 25, none⟩)) rfl (fun w' hS => by go_simp) T (fun K hK => ?_); go_simp; refine hK _ _ ?_; clear hK K
 refine tk 4 (.string ⟨mt.toArray⟩) rfl (fun w' hS => by have q := (cell_of_heap hS 25).trans G25.out; go_simp) T (fun K hK => ?_); go_simp; refine hK _ _ ?_; clear hK K
 refine tk 6 (.pointer (some ⟨w.heap.size, 26, none⟩)) rfl (fun w' hS => by go_simp) T (fun K hK => ?_); go_simp; refine hK _ _ ?_; clear hK K
 refine tk 7 (.string ⟨tx.toArray⟩) rfl (fun w' hS => by have q := (cell_of_heap hS 26).trans G26.out; go_simp) T (fun K hK => ?_); go_simp; refine hK _ _ ?_; clear hK K
 have kc := Int_any 10 n hn w2
 refine anyH_one 2 (by kernel_rfl) rfl (by rfl) (fun K hK => ?_); go_simp; go_wp2_with fail
 refine Calls.mono kc ?_
 rintro e w3 ⟨rfl, hb⟩
 have T9 := (hb.block _ (gl T)).trans T
 have D9 := D.trans (hb.mono D.size)
 clear kc hb T D
 have T := T9
 have D := D9
 clear T9 D9
 refine hK _ _ T ?_; clear hK K
 have kc := mstr_any mt w3
 refine anyH_one 5 (by kernel_rfl) rfl (by rfl) (fun K hK => ?_); go_simp; go_wp2_with fail
 refine Calls.mono kc ?_
 rintro e w4 ⟨rfl, hb⟩
 have T9 := (hb.block _ (gl T)).trans T
 have D9 := D.trans (hb.mono D.size)
 clear kc hb T D
 have T := T9
 have D := D9
 clear T9 D9
 refine hK _ _ T ?_; clear hK K
 have kc := mstr_any tx w4
 refine anyH_one 8 (by kernel_rfl) rfl (by rfl) (fun K hK => ?_); go_simp; go_wp2_with fail
 refine Calls.mono kc ?_
 rintro e w5 ⟨rfl, hb⟩
 have T9 := (hb.block _ (gl T)).trans T
 have D9 := D.trans (hb.mono D.size)
 clear kc hb T D
 have T := T9
 have D := D9
 clear T9 D9
 refine hK _ _ T ?_; clear hK K
 simp only [elA, El.cls, El.tag, El.cons, El.bytes]
 have hb : Below w5.heap.size w5 (w5.alloc (.cells #[.int .i64 0, .int .i64 10, .bool false, .string ⟨((sgB n)).toArray⟩, .slice none 0 0, .int .i64 0, .int .i64 4, .bool false, .string ⟨mt.toArray⟩, .slice none 0 0, .int .i64 0, .int .i64 4, .bool false, .string ⟨tx.toArray⟩, .slice none 0 0] 45)) := (Below.refl _ _).alloc (Nat.le_refl _) _
 have x : (w5.alloc (.cells #[.int .i64 0, .int .i64 10, .bool false, .string ⟨((sgB n)).toArray⟩, .slice none 0 0, .int .i64 0, .int .i64 4, .bool false, .string ⟨mt.toArray⟩, .slice none 0 0, .int .i64 0, .int .i64 4, .bool false, .string ⟨tx.toArray⟩, .slice none 0 0] 45)).heap[w5.heap.size]? = some (.cells #[.int .i64 0, .int .i64 10, .bool false, .string ⟨((sgB n)).toArray⟩, .slice none 0 0, .int .i64 0, .int .i64 4, .bool false, .string ⟨mt.toArray⟩, .slice none 0 0, .int .i64 0, .int .i64 4, .bool false, .string ⟨tx.toArray⟩, .slice none 0 0] 45 (0, 0)) := alloc_at _ _ _ rfl
 have z : w.heap.size + 1 ≤ w5.heap.size := (gl T)
 have o6 : OwnK (w.heap.size + 1) (w5.alloc (.cells #[.int .i64 0, .int .i64 10, .bool false, .string ⟨((sgB n)).toArray⟩, .slice none 0 0, .int .i64 0, .int .i64 4, .bool false, .string ⟨mt.toArray⟩, .slice none 0 0, .int .i64 0, .int .i64 4, .bool false, .string ⟨tx.toArray⟩, .slice none 0 0] 45)) (.slice (some ⟨w5.heap.size, 0, none⟩) 3 3) [.mk 0 10 false (sgB n) [], .mk 0 4 false mt [], .mk 0 4 false tx []] :=
  OwnK.flat (l := [.mk 0 10 false (sgB n) [], .mk 0 4 false mt [], .mk 0 4 false tx []]) (us := [.slice none 0 0, .slice none 0 0, .slice none 0 0]) x (by simp [flatE, El.cls, El.tag, El.cons, El.bytes]) rfl z (by simp) (fun j e u q1 q2 => by
   have h3 : j = 0 ∨ j = 1 ∨ j = 2 := by have h9 := (List.getElem?_eq_some_iff.1 q1).1; simp at h9; omega
   rcases h3 with rfl | rfl | rfl
   all_goals (simp at q1 q2; subst q1; subst q2; exact KidsAt.no _ _ _ _))
 have T9 := (hb.block _ (gl T)).trans T
 have D9 := D.trans (hb.mono D.size)
 clear hb x z T D
 refine anyH_one 9 (by kernel_rfl) rfl (by rfl) (fun K hK => ?_); go_simp; refine hK _ _ T9 ?_; clear hK K
 generalize (w5.alloc (.cells #[.int .i64 0, .int .i64 10, .bool false, .string ⟨((sgB n)).toArray⟩, .slice none 0 0, .int .i64 0, .int .i64 4, .bool false, .string ⟨mt.toArray⟩, .slice none 0 0, .int .i64 0, .int .i64 4, .bool false, .string ⟨tx.toArray⟩, .slice none 0 0] 45)) = w6 at T9 D9 o6 ⊢
 generalize w5.heap.size = y at o6 ⊢
 refine anyH_one 10 (by kernel_rfl) rfl (by rfl) (fun K hK => ?_); go_simp; refine hK _ _ T9 ?_; clear hK K
 refine wpAnyH_done (by kernel_rfl) ?_ _
 simp only [Exit.then]
 refine ‹∀ (a : Act) (w : World), Code.wp _ _ _ a w → _› _ _ ?_
 have m6 := T9
 have b6 := D9
 clear T9 D9
 have q21 := (cell_of_heap m6 21).trans G21.out
 go_upto_region 3 with fail
 clear q21
 have q := (cell_of_heap m6 21).trans G21.out
 have kc := mstr_any oid w6
 go_wp2_with fail
 refine Calls.mono kc ?_
 rintro e w7 ⟨rfl, hb⟩
 have m7 := (hb.block _ (gl m6)).trans m6
 have b7 := b6.trans (hb.mono b6.size)
 have o7 := o6.below hb
 clear hb m6 b6 o6 kc q
 have kc := ctx_any (.mk 0 4 false oid []) (.slice none 0 0) 10 w7 (KidsAt.nil _ _) (by simp [SmE, SmL]; exact hoid)
 go_wp2_with fail
 refine Calls.mono kc ?_
 rintro e w8 ⟨⟨u, rfl, hu⟩, hb⟩
 obtain ⟨ae8, ce8, rfl⟩ := hu.empty
 have m8 := (hb.block _ (gl m7)).trans m7
 have b8 := b7.trans (hb.mono b7.size)
 have o8 := o7.below hb
 clear hb m7 b7 o7 kc hu
 simp only [elA, El.cls, El.tag, El.cons, El.bytes]
 have hb : Below w8.heap.size w8 (w8.alloc (.cells #[.int .i64 2, .int .i64 10, .bool false, .string ⟨oid.toArray⟩, .slice ae8 0 ce8] 45)) := (Below.refl _ _).alloc (Nat.le_refl _) _
 have x : (w8.alloc (.cells #[.int .i64 2, .int .i64 10, .bool false, .string ⟨oid.toArray⟩, .slice ae8 0 ce8] 45)).heap[w8.heap.size]? = some (.cells (elA (.mk 2 10 false oid []) (.slice ae8 0 ce8)) 45 (0, 0)) := alloc_at _ _ _ rfl
 have m9 := (hb.block _ (gl m8)).trans m8
 have b9 := b8.trans (hb.mono b8.size)
 have o9 := o8.below hb
 clear hb m8 b8 o8 
 have hs := b9.size
 have z := (gl m9)
 have zm := (gl m9)
 have M9 := hid m9
 have B9 := hid b9
 have O9 := hid o9
 have X := hid x
 clear x m9 b9 o9
 go_upto_region 4 with (at_builtin; refine wpList_append_el rfl (.tmp 17) (.tmp 22) rfl (w.heap.size + 1) (.slice (some ⟨y, 0, none⟩) 3 3) [.mk 0 10 false (sgB n) [], .mk 0 4 false mt [], .mk 0 4 false tx []] rfl O9.out (.mk 2 10 false oid []) ae8 0 ce8 w8.heap.size rfl X.out (KidsAt.no _ _ _ _) (by simp) (by omega) ?_; intro a10 c10 w10 o10 hg; have m10 := (hg.block w.heap.size zm (fun h => by have := (O9.out.lt h.symm).1; omega)).trans M9.out; have b10 := B9.out.grown hg hs (fun b hb => by have := (O9.out.lt hb).1; omega); clear hg hs z zm X M9 B9 O9; simp only [List.cons_append, List.nil_append, List.length_cons, List.length_nil, Nat.zero_add, Nat.reduceAdd] at o10 ⊢)
 have q22 := (cell_of_heap m10 22).trans G22.out
 have O := hid o10
 clear o10
 go_wp2_with fail
 go_ret
 exact ⟨⟨_, rfl, O.out.mono (by omega)⟩, b10⟩
set_option maxRecDepth 100000 in
set_option maxHeartbeats 4000000 in
theorem answer_ov (A : Array Value) (n : Nat) (mt tx oid val : List UInt8) (w : World) (h24 : A[24]? = some (.int .i64 (n : Int))) (h25 : A[25]? = some (.string ⟨mt.toArray⟩)) (h26 : A[26]? = some (.string ⟨tx.toArray⟩)) (h21 : A[21]? = some (.string ⟨oid.toArray⟩)) (h22 : A[22]? = some (.bool true)) (h20 : A[20]? = some (.string ⟨val.toArray⟩)) (hn : n ≤ 2147483647) (hne : oid ≠ []) (hoid : oid.length ≤ 1000000000) (hval : val.length ≤ 1000000000) :
  Calls Tryz.prog 127 #[.agg A] w fun e w' => (∃ v, e = .returned v ∧ OwnK w.heap.size w' v [.mk 0 10 false (sgB n) [], .mk 0 4 false mt [], .mk 0 4 false tx [], .mk 2 10 false oid [], .mk 2 11 false val []]) ∧ Below w.heap.size w w' := by
 have b1 : Below w.heap.size w (w.alloc (.cells A 28)) := (Below.refl _ _).alloc (Nat.le_refl _) _
 have m1 : (w.alloc (.cells A 28)).heap[w.heap.size]? = some (.cells A 28 (0, 0)) := alloc_at _ _ _ rfl
 have i1 : oid.isEmpty = false := by simpa using hne
 clear hne
 have G24 := hid h24
 have G25 := hid h25
 have G26 := hid h26
 have G21 := hid h21
 have G22 := hid h22
 have G20 := hid h20
 clear h24 h25 h26 h21 h22 h20
 go_enter Tryz.func127, Tryz.ntmps127
 go_upto_region 1 with fail
 generalize w.alloc (.cells A 28) = w1 at b1 m1 ⊢
 refine wp_region_held (S := fun w' => w'.heap[w.heap.size]? = some (.cells A 28 (0, 0))) (by kernel_rfl) ?_
 have T : w1.drew.heap[w.heap.size]? = some (.cells A 28 (0, 0)) := m1
 have D : Below w.heap.size w w1.drew := b1.drew
 change wpAnyH _ _ _ _ _ _ _ _ w1.drew
 clear m1 b1
 generalize w1.drew = w2 at T D ⊢
 refine tk 0 (.pointer (some ⟨w.heap.size, 24, none⟩)) rfl (fun w' hS => by go_simp) T (fun K hK => ?_); go_simp; refine hK _ _ ?_; clear hK K
 refine tk 1 (.int .i64 (n : Int)) rfl (fun w' hS => by have q := (cell_of_heap hS 24).trans G24.out; go_simp) T (fun K hK => ?_); go_simp; refine hK _ _ ?_; clear hK K
 refine tk 3 (.pointer (some ⟨w.heap.size, 25, none⟩)) rfl (fun w' hS => by go_simp) T (fun K hK => ?_); go_simp; refine hK _ _ ?_; clear hK K
 refine tk 4 (.string ⟨mt.toArray⟩) rfl (fun w' hS => by have q := (cell_of_heap hS 25).trans G25.out; go_simp) T (fun K hK => ?_); go_simp; refine hK _ _ ?_; clear hK K
 refine tk 6 (.pointer (some ⟨w.heap.size, 26, none⟩)) rfl (fun w' hS => by go_simp) T (fun K hK => ?_); go_simp; refine hK _ _ ?_; clear hK K
 refine tk 7 (.string ⟨tx.toArray⟩) rfl (fun w' hS => by have q := (cell_of_heap hS 26).trans G26.out; go_simp) T (fun K hK => ?_); go_simp; refine hK _ _ ?_; clear hK K
 have kc := Int_any 10 n hn w2
 refine anyH_one 2 (by kernel_rfl) rfl (by rfl) (fun K hK => ?_); go_simp; go_wp2_with fail
 refine Calls.mono kc ?_
 rintro e w3 ⟨rfl, hb⟩
 have T9 := (hb.block _ (gl T)).trans T
 have D9 := D.trans (hb.mono D.size)
 clear kc hb T D
 have T := T9
 have D := D9
 clear T9 D9
 refine hK _ _ T ?_; clear hK K
 have kc := mstr_any mt w3
 refine anyH_one 5 (by kernel_rfl) rfl (by rfl) (fun K hK => ?_); go_simp; go_wp2_with fail
 refine Calls.mono kc ?_
 rintro e w4 ⟨rfl, hb⟩
 have T9 := (hb.block _ (gl T)).trans T
 have D9 := D.trans (hb.mono D.size)
 clear kc hb T D
 have T := T9
 have D := D9
 clear T9 D9
 refine hK _ _ T ?_; clear hK K
 have kc := mstr_any tx w4
 refine anyH_one 8 (by kernel_rfl) rfl (by rfl) (fun K hK => ?_); go_simp; go_wp2_with fail
 refine Calls.mono kc ?_
 rintro e w5 ⟨rfl, hb⟩
 have T9 := (hb.block _ (gl T)).trans T
 have D9 := D.trans (hb.mono D.size)
 clear kc hb T D
 have T := T9
 have D := D9
 clear T9 D9
 refine hK _ _ T ?_; clear hK K
 simp only [elA, El.cls, El.tag, El.cons, El.bytes]
 have hb : Below w5.heap.size w5 (w5.alloc (.cells #[.int .i64 0, .int .i64 10, .bool false, .string ⟨((sgB n)).toArray⟩, .slice none 0 0, .int .i64 0, .int .i64 4, .bool false, .string ⟨mt.toArray⟩, .slice none 0 0, .int .i64 0, .int .i64 4, .bool false, .string ⟨tx.toArray⟩, .slice none 0 0] 45)) := (Below.refl _ _).alloc (Nat.le_refl _) _
 have x : (w5.alloc (.cells #[.int .i64 0, .int .i64 10, .bool false, .string ⟨((sgB n)).toArray⟩, .slice none 0 0, .int .i64 0, .int .i64 4, .bool false, .string ⟨mt.toArray⟩, .slice none 0 0, .int .i64 0, .int .i64 4, .bool false, .string ⟨tx.toArray⟩, .slice none 0 0] 45)).heap[w5.heap.size]? = some (.cells #[.int .i64 0, .int .i64 10, .bool false, .string ⟨((sgB n)).toArray⟩, .slice none 0 0, .int .i64 0, .int .i64 4, .bool false, .string ⟨mt.toArray⟩, .slice none 0 0, .int .i64 0, .int .i64 4, .bool false, .string ⟨tx.toArray⟩, .slice none 0 0] 45 (0, 0)) := alloc_at _ _ _ rfl
 have z : w.heap.size + 1 ≤ w5.heap.size := (gl T)
 have o6 : OwnK (w.heap.size + 1) (w5.alloc (.cells #[.int .i64 0, .int .i64 10, .bool false, .string ⟨((sgB n)).toArray⟩, .slice none 0 0, .int .i64 0, .int .i64 4, .bool false, .string ⟨mt.toArray⟩, .slice none 0 0, .int .i64 0, .int .i64 4, .bool false, .string ⟨tx.toArray⟩, .slice none 0 0] 45)) (.slice (some ⟨w5.heap.size, 0, none⟩) 3 3) [.mk 0 10 false (sgB n) [], .mk 0 4 false mt [], .mk 0 4 false tx []] :=
  OwnK.flat (l := [.mk 0 10 false (sgB n) [], .mk 0 4 false mt [], .mk 0 4 false tx []]) (us := [.slice none 0 0, .slice none 0 0, .slice none 0 0]) x (by simp [flatE, El.cls, El.tag, El.cons, El.bytes]) rfl z (by simp) (fun j e u q1 q2 => by
   have h3 : j = 0 ∨ j = 1 ∨ j = 2 := by have h9 := (List.getElem?_eq_some_iff.1 q1).1; simp at h9; omega
   rcases h3 with rfl | rfl | rfl
   all_goals (simp at q1 q2; subst q1; subst q2; exact KidsAt.no _ _ _ _))
 have T9 := (hb.block _ (gl T)).trans T
 have D9 := D.trans (hb.mono D.size)
 clear hb x z T D
 refine anyH_one 9 (by kernel_rfl) rfl (by rfl) (fun K hK => ?_); go_simp; refine hK _ _ T9 ?_; clear hK K
 generalize (w5.alloc (.cells #[.int .i64 0, .int .i64 10, .bool false, .string ⟨((sgB n)).toArray⟩, .slice none 0 0, .int .i64 0, .int .i64 4, .bool false, .string ⟨mt.toArray⟩, .slice none 0 0, .int .i64 0, .int .i64 4, .bool false, .string ⟨tx.toArray⟩, .slice none 0 0] 45)) = w6 at T9 D9 o6 ⊢
 generalize w5.heap.size = y at o6 ⊢
 refine anyH_one 10 (by kernel_rfl) rfl (by rfl) (fun K hK => ?_); go_simp; refine hK _ _ T9 ?_; clear hK K
 refine wpAnyH_done (by kernel_rfl) ?_ _
 simp only [Exit.then]
 refine ‹∀ (a : Act) (w : World), Code.wp _ _ _ a w → _› _ _ ?_
 have m6 := T9
 have b6 := D9
 clear T9 D9
 have q21 := (cell_of_heap m6 21).trans G21.out
 go_upto_region 3 with fail
 clear q21
 have q := (cell_of_heap m6 21).trans G21.out
 have kc := mstr_any oid w6
 go_wp2_with fail
 refine Calls.mono kc ?_
 rintro e w7 ⟨rfl, hb⟩
 have m7 := (hb.block _ (gl m6)).trans m6
 have b7 := b6.trans (hb.mono b6.size)
 have o7 := o6.below hb
 clear hb m6 b6 o6 kc q
 have kc := ctx_any (.mk 0 4 false oid []) (.slice none 0 0) 10 w7 (KidsAt.nil _ _) (by simp [SmE, SmL]; exact hoid)
 go_wp2_with fail
 refine Calls.mono kc ?_
 rintro e w8 ⟨⟨u, rfl, hu⟩, hb⟩
 obtain ⟨ae8, ce8, rfl⟩ := hu.empty
 have m8 := (hb.block _ (gl m7)).trans m7
 have b8 := b7.trans (hb.mono b7.size)
 have o8 := o7.below hb
 clear hb m7 b7 o7 kc hu
 simp only [elA, El.cls, El.tag, El.cons, El.bytes]
 have hb : Below w8.heap.size w8 (w8.alloc (.cells #[.int .i64 2, .int .i64 10, .bool false, .string ⟨oid.toArray⟩, .slice ae8 0 ce8] 45)) := (Below.refl _ _).alloc (Nat.le_refl _) _
 have x : (w8.alloc (.cells #[.int .i64 2, .int .i64 10, .bool false, .string ⟨oid.toArray⟩, .slice ae8 0 ce8] 45)).heap[w8.heap.size]? = some (.cells (elA (.mk 2 10 false oid []) (.slice ae8 0 ce8)) 45 (0, 0)) := alloc_at _ _ _ rfl
 have m9 := (hb.block _ (gl m8)).trans m8
 have b9 := b8.trans (hb.mono b8.size)
 have o9 := o8.below hb
 clear hb m8 b8 o8 
 have hs := b9.size
 have z := (gl m9)
 have zm := (gl m9)
 have M9 := hid m9
 have B9 := hid b9
 have O9 := hid o9
 have X := hid x
 clear x m9 b9 o9
 go_upto_region 4 with (at_builtin; refine wpList_append_el rfl (.tmp 17) (.tmp 22) rfl (w.heap.size + 1) (.slice (some ⟨y, 0, none⟩) 3 3) [.mk 0 10 false (sgB n) [], .mk 0 4 false mt [], .mk 0 4 false tx []] rfl O9.out (.mk 2 10 false oid []) ae8 0 ce8 w8.heap.size rfl X.out (KidsAt.no _ _ _ _) (by simp) (by omega) ?_; intro a10 c10 w10 o10 hg; have m10 := (hg.block w.heap.size zm (fun h => by have := (O9.out.lt h.symm).1; omega)).trans M9.out; have b10 := B9.out.grown hg hs (fun b hb => by have := (O9.out.lt hb).1; omega); clear hg hs z zm X M9 B9 O9; simp only [List.cons_append, List.nil_append, List.length_cons, List.length_nil, Nat.zero_add, Nat.reduceAdd] at o10 ⊢)
 have q22 := (cell_of_heap m10 22).trans G22.out
 go_upto_region 5 with fail
 clear q22
 have q := (cell_of_heap m10 20).trans G20.out
 have kc := mstr_any val w10
 go_wp2_with fail
 refine Calls.mono kc ?_
 rintro e w11 ⟨rfl, hb⟩
 have m11 := (hb.block _ (gl m10)).trans m10
 have b11 := b10.trans (hb.mono b10.size)
 have o11 := o10.below hb
 clear hb m10 b10 o10 kc q
 have kc := ctx_any (.mk 0 4 false val []) (.slice none 0 0) 11 w11 (KidsAt.nil _ _) (by simp [SmE, SmL]; exact hval)
 go_wp2_with fail
 refine Calls.mono kc ?_
 rintro e w12 ⟨⟨u, rfl, hu⟩, hb⟩
 obtain ⟨ae12, ce12, rfl⟩ := hu.empty
 have m12 := (hb.block _ (gl m11)).trans m11
 have b12 := b11.trans (hb.mono b11.size)
 have o12 := o11.below hb
 clear hb m11 b11 o11 kc hu
 simp only [elA, El.cls, El.tag, El.cons, El.bytes]
 have hb : Below w12.heap.size w12 (w12.alloc (.cells #[.int .i64 2, .int .i64 11, .bool false, .string ⟨val.toArray⟩, .slice ae12 0 ce12] 45)) := (Below.refl _ _).alloc (Nat.le_refl _) _
 have x : (w12.alloc (.cells #[.int .i64 2, .int .i64 11, .bool false, .string ⟨val.toArray⟩, .slice ae12 0 ce12] 45)).heap[w12.heap.size]? = some (.cells (elA (.mk 2 11 false val []) (.slice ae12 0 ce12)) 45 (0, 0)) := alloc_at _ _ _ rfl
 have m13 := (hb.block _ (gl m12)).trans m12
 have b13 := b12.trans (hb.mono b12.size)
 have o13 := o12.below hb
 clear hb m12 b12 o12 
 have hs := b13.size
 have z := (gl m13)
 have zm := (gl m13)
 have M13 := hid m13
 have B13 := hid b13
 have O13 := hid o13
 have X := hid x
 clear x m13 b13 o13
 go_wp2_with (at_builtin; refine wpList_append_el rfl (.tmp 26) (.tmp 31) rfl (w.heap.size + 1) (.slice a10 4 c10) [.mk 0 10 false (sgB n) [], .mk 0 4 false mt [], .mk 0 4 false tx [], .mk 2 10 false oid []] rfl O13.out (.mk 2 11 false val []) ae12 0 ce12 w12.heap.size rfl X.out (KidsAt.no _ _ _ _) (by simp) (by omega) ?_; intro a14 c14 w14 o14 hg; have m14 := (hg.block w.heap.size zm (fun h => by have := (O13.out.lt h.symm).1; omega)).trans M13.out; have b14 := B13.out.grown hg hs (fun b hb => by have := (O13.out.lt hb).1; omega); clear hg hs z zm X M13 B13 O13; simp only [List.cons_append, List.nil_append, List.length_cons, List.length_nil, Nat.zero_add, Nat.reduceAdd] at o14 ⊢)
 have O := hid o14
 clear o14
 go_wp2_with fail
 go_ret
 exact ⟨⟨_, rfl, O.out.mono (by omega)⟩, b14⟩
end Go.Proofs.YthjaiigijbjloaaGreatDoor
