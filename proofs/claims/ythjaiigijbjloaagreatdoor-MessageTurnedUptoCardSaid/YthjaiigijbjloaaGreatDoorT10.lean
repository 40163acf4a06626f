/- ElH, MgM, BaA, CfA, BaXs, BaX0. -/
import Derived.Test.YthjaiigijbjloaaGreatDoorT6
namespace Go.Proofs.YthjaiigijbjloaaGreatDoor
open Go.RowKit Go.Lib
set_option maxRecDepth 100000
set_option maxHeartbeats 16000000
theorem pR (A : Array Value) (n : Nat) (mt tx : List UInt8) (w : World) (h24 : A[24]? = some (.int .i64 (n : Int))) (h25 : A[25]? = some (.string ⟨mt.toArray⟩)) (h26 : A[26]? = some (.string ⟨tx.toArray⟩)) (h21 : A[21]? = some (.string ⟨#[]⟩)) (h22 : A[22]? = some (.bool false)) (hn : n ≤ 2147483647) :
  Calls Tryz.prog 127 #[.agg A] w fun e w' => (∃ v, e = .returned v ∧ bJ w.heap.size w' v [.mk 0 10 false (sgB n) [], .mk 0 4 false mt [], .mk 0 4 false tx []]) ∧ Below w.heap.size w w' := by
 have b1 := alb w A 28;have m1 := alz w A 28;have G24 := hid h24;have G25 := hid h25;have G26 := hid h26;have G21 := hid h21;have G22 := hid h22;clear h24 h25 h26 h21 h22
 go_enter Tryz.func127, Tryz.ntmps127
 go_upto_region 1 with fail
 generalize w.alloc (.cells A 28) = w1 at b1 m1 ⊢;refine aR (S := fun w' => w'.heap[w.heap.size]? = some (.cells A 28 (0, 0))) (by kernel_rfl) ?_;have T : w1.drew.heap[w.heap.size]? = some (.cells A 28 (0, 0)) := m1;have D : Below w.heap.size w w1.drew := b1.drew
 change wpAnyH _ _ _ _ _ _ _ _ w1.drew
 clear m1 b1;generalize w1.drew = w2 at T D ⊢;refine tp 0 ⟨w.heap.size, 24, none⟩ rfl T ?_;refine tn 1 (.int .i64 (n : Int)) rfl (fun w' hS => by have q := (ad hS 24).trans G24.out; go_simp) T ?_;refine tp 3 ⟨w.heap.size, 25, none⟩ rfl T ?_;refine tn 4 (.string ⟨mt.toArray⟩) rfl (fun w' hS => by have q := (ad hS 25).trans G25.out; go_simp) T ?_;refine tp 6 ⟨w.heap.size, 26, none⟩ rfl T ?_;refine tn 7 (.string ⟨tx.toArray⟩) rfl (fun w' hS => by have q := (ad hS 26).trans G26.out; go_simp) T ?_;have kc := eO 10 n hn w2;refine ao 2 rfl (fun K hK => ?_); go_simp; go_wp2_with fail
 refine ag kc ?_;rintro e w3 ⟨rfl, hb⟩;have T9 := (hb.block _ (gl T)).trans T;have D9 := D.trans (hb.mono D.size);clear kc hb T D;have T := T9;have D := D9;clear T9 D9;refine hK _ _ T ?_; clear hK K
 have kc := bz mt w3;refine ao 5 rfl (fun K hK => ?_); go_simp; go_wp2_with fail
 refine ag kc ?_;rintro e w4 ⟨rfl, hb⟩;have T9 := (hb.block _ (gl T)).trans T;have D9 := D.trans (hb.mono D.size);clear kc hb T D;have T := T9;have D := D9;clear T9 D9;refine hK _ _ T ?_; clear hK K
 have kc := bz tx w4;refine ao 8 rfl (fun K hK => ?_); go_simp; go_wp2_with fail
 refine ag kc ?_;rintro e w5 ⟨rfl, hb⟩;have T9 := (hb.block _ (gl T)).trans T;have D9 := D.trans (hb.mono D.size);clear kc hb T D;have T := T9;have D := D9;clear T9 D9;refine hK _ _ T ?_; clear hK K
 simp only [elA, El.cls, El.tag, El.cons, El.bytes];have hb := alb w5 #[I0, .int .i64 10, Bf, .string ⟨((sgB n)).toArray⟩, Sn, I0, .int .i64 4, Bf, .string ⟨mt.toArray⟩, Sn, I0, .int .i64 4, Bf, .string ⟨tx.toArray⟩, Sn] 45;have x := alz w5 #[I0, .int .i64 10, Bf, .string ⟨((sgB n)).toArray⟩, Sn, I0, .int .i64 4, Bf, .string ⟨mt.toArray⟩, Sn, I0, .int .i64 4, Bf, .string ⟨tx.toArray⟩, Sn] 45;have z : w.heap.size + 1 ≤ w5.heap.size := (gl T);have o6 : bJ (w.heap.size + 1) (w5.alloc (.cells #[I0, .int .i64 10, Bf, .string ⟨((sgB n)).toArray⟩, Sn, I0, .int .i64 4, Bf, .string ⟨mt.toArray⟩, Sn, I0, .int .i64 4, Bf, .string ⟨tx.toArray⟩, Sn] 45)) (.slice (some ⟨w5.heap.size, 0, none⟩) 3 3) [.mk 0 10 false (sgB n) [], .mk 0 4 false mt [], .mk 0 4 false tx []] :=
  bJ.flat (l := [.mk 0 10 false (sgB n) [], .mk 0 4 false mt [], .mk 0 4 false tx []]) (us := [Sn, Sn, Sn]) x (by simp [cx, El.cls, El.tag, El.cons, El.bytes]) rfl z (by simp) (fun j e u q1 q2 => by
   have h3 : j = 0 ∨ j = 1 ∨ j = 2 := by have h9 := (List.getElem?_eq_some_iff.1 q1).1; simp at h9; omega
   rcases h3 with rfl | rfl | rfl
   all_goals (simp at q1 q2; subst q1; subst q2; exact bf.no _ _ _ _))
 have T9 := (hb.block _ (gl T)).trans T;have D9 := D.trans (hb.mono D.size);clear hb x z T D;refine ao 9 rfl (fun K hK => ?_); go_simp; refine hK _ _ T9 ?_; clear hK K
 generalize (w5.alloc (.cells #[I0, .int .i64 10, Bf, .string ⟨((sgB n)).toArray⟩, Sn, I0, .int .i64 4, Bf, .string ⟨mt.toArray⟩, Sn, I0, .int .i64 4, Bf, .string ⟨tx.toArray⟩, Sn] 45)) = w6 at T9 D9 o6 ⊢;generalize w5.heap.size = y at o6 ⊢;refine ao 10 rfl (fun K hK => ?_); go_simp; refine hK _ _ T9 ?_; clear hK K
 refine aV (by kernel_rfl) ?_ _;simp only [Exit.then];refine ‹∀ (a : Act) (w : World), Code.wp _ _ _ a w → _› _ _ ?_;have m6 := T9;have b6 := D9;clear T9 D9;have q21 := (ad m6 21).trans G21.out
 go_upto_region 4 with fail
 clear q21;have q22 := (ad m6 22).trans G22.out;have O := hid o6;clear o6
 go_wp2_with fail
 go_ret
 exact ⟨⟨_, rfl, O.out.mono (by omega)⟩, b6⟩
theorem pS (A : Array Value) (n : Nat) (mt tx val : List UInt8) (w : World) (h24 : A[24]? = some (.int .i64 (n : Int))) (h25 : A[25]? = some (.string ⟨mt.toArray⟩)) (h26 : A[26]? = some (.string ⟨tx.toArray⟩)) (h21 : A[21]? = some (.string ⟨#[]⟩)) (h22 : A[22]? = some (.bool true)) (h20 : A[20]? = some (.string ⟨val.toArray⟩)) (hn : n ≤ 2147483647) (hval : val.length ≤ 1000000000) :
  Calls Tryz.prog 127 #[.agg A] w fun e w' => (∃ v, e = .returned v ∧ bJ w.heap.size w' v [.mk 0 10 false (sgB n) [], .mk 0 4 false mt [], .mk 0 4 false tx [], .mk 2 11 false val []]) ∧ Below w.heap.size w w' := by
 have b1 := alb w A 28;have m1 := alz w A 28;have G24 := hid h24;have G25 := hid h25;have G26 := hid h26;have G21 := hid h21;have G22 := hid h22;have G20 := hid h20;clear h24 h25 h26 h21 h22 h20
 go_enter Tryz.func127, Tryz.ntmps127
 go_upto_region 1 with fail
 generalize w.alloc (.cells A 28) = w1 at b1 m1 ⊢;refine aR (S := fun w' => w'.heap[w.heap.size]? = some (.cells A 28 (0, 0))) (by kernel_rfl) ?_;have T : w1.drew.heap[w.heap.size]? = some (.cells A 28 (0, 0)) := m1;have D : Below w.heap.size w w1.drew := b1.drew
 change wpAnyH _ _ _ _ _ _ _ _ w1.drew
 clear m1 b1;generalize w1.drew = w2 at T D ⊢;refine tp 0 ⟨w.heap.size, 24, none⟩ rfl T ?_;refine tn 1 (.int .i64 (n : Int)) rfl (fun w' hS => by have q := (ad hS 24).trans G24.out; go_simp) T ?_;refine tp 3 ⟨w.heap.size, 25, none⟩ rfl T ?_;refine tn 4 (.string ⟨mt.toArray⟩) rfl (fun w' hS => by have q := (ad hS 25).trans G25.out; go_simp) T ?_;refine tp 6 ⟨w.heap.size, 26, none⟩ rfl T ?_;refine tn 7 (.string ⟨tx.toArray⟩) rfl (fun w' hS => by have q := (ad hS 26).trans G26.out; go_simp) T ?_;have kc := eO 10 n hn w2;refine ao 2 rfl (fun K hK => ?_); go_simp; go_wp2_with fail
 refine ag kc ?_;rintro e w3 ⟨rfl, hb⟩;have T9 := (hb.block _ (gl T)).trans T;have D9 := D.trans (hb.mono D.size);clear kc hb T D;have T := T9;have D := D9;clear T9 D9;refine hK _ _ T ?_; clear hK K
 have kc := bz mt w3;refine ao 5 rfl (fun K hK => ?_); go_simp; go_wp2_with fail
 refine ag kc ?_;rintro e w4 ⟨rfl, hb⟩;have T9 := (hb.block _ (gl T)).trans T;have D9 := D.trans (hb.mono D.size);clear kc hb T D;have T := T9;have D := D9;clear T9 D9;refine hK _ _ T ?_; clear hK K
 have kc := bz tx w4;refine ao 8 rfl (fun K hK => ?_); go_simp; go_wp2_with fail
 refine ag kc ?_;rintro e w5 ⟨rfl, hb⟩;have T9 := (hb.block _ (gl T)).trans T;have D9 := D.trans (hb.mono D.size);clear kc hb T D;have T := T9;have D := D9;clear T9 D9;refine hK _ _ T ?_; clear hK K
 simp only [elA, El.cls, El.tag, El.cons, El.bytes];have hb := alb w5 #[.int .i64 0, .int .i64 10, .bool false, .string ⟨((sgB n)).toArray⟩, .slice none 0 0, .int .i64 0, .int .i64 4, .bool false, .string ⟨mt.toArray⟩, .slice none 0 0, .int .i64 0, .int .i64 4, .bool false, .string ⟨tx.toArray⟩, .slice none 0 0] 45;have x := alz w5 #[.int .i64 0, .int .i64 10, .bool false, .string ⟨((sgB n)).toArray⟩, .slice none 0 0, .int .i64 0, .int .i64 4, .bool false, .string ⟨mt.toArray⟩, .slice none 0 0, .int .i64 0, .int .i64 4, .bool false, .string ⟨tx.toArray⟩, .slice none 0 0] 45;have z : w.heap.size + 1 ≤ w5.heap.size := (gl T);have o6 : bJ (w.heap.size + 1) (w5.alloc (.cells #[.int .i64 0, .int .i64 10, .bool false, .string ⟨((sgB n)).toArray⟩, .slice none 0 0, .int .i64 0, .int .i64 4, .bool false, .string ⟨mt.toArray⟩, .slice none 0 0, .int .i64 0, .int .i64 4, .bool false, .string ⟨tx.toArray⟩, .slice none 0 0] 45)) (.slice (some ⟨w5.heap.size, 0, none⟩) 3 3) [.mk 0 10 false (sgB n) [], .mk 0 4 false mt [], .mk 0 4 false tx []] :=
  bJ.flat (l := [.mk 0 10 false (sgB n) [], .mk 0 4 false mt [], .mk 0 4 false tx []]) (us := [.slice none 0 0, .slice none 0 0, .slice none 0 0]) x (by simp [cx, El.cls, El.tag, El.cons, El.bytes]) rfl z (by simp) (fun j e u q1 q2 => by
   have h3 : j = 0 ∨ j = 1 ∨ j = 2 := by have h9 := (List.getElem?_eq_some_iff.1 q1).1; simp at h9; omega
   rcases h3 with rfl | rfl | rfl
   all_goals (simp at q1 q2; subst q1; subst q2; exact bf.no _ _ _ _))
 have T9 := (hb.block _ (gl T)).trans T;have D9 := D.trans (hb.mono D.size);clear hb x z T D;refine ao 9 rfl (fun K hK => ?_); go_simp; refine hK _ _ T9 ?_; clear hK K
 generalize (w5.alloc (.cells #[.int .i64 0, .int .i64 10, .bool false, .string ⟨((sgB n)).toArray⟩, .slice none 0 0, .int .i64 0, .int .i64 4, .bool false, .string ⟨mt.toArray⟩, .slice none 0 0, .int .i64 0, .int .i64 4, .bool false, .string ⟨tx.toArray⟩, .slice none 0 0] 45)) = w6 at T9 D9 o6 ⊢;generalize w5.heap.size = y at o6 ⊢;refine ao 10 rfl (fun K hK => ?_); go_simp; refine hK _ _ T9 ?_; clear hK K
 refine aV (by kernel_rfl) ?_ _;simp only [Exit.then];refine ‹∀ (a : Act) (w : World), Code.wp _ _ _ a w → _› _ _ ?_;have m6 := T9;have b6 := D9;clear T9 D9;have q21 := (ad m6 21).trans G21.out
 go_upto_region 4 with fail
 clear q21;have q22 := (ad m6 22).trans G22.out
 go_upto_region 5 with fail
 clear q22;have q := (ad m6 20).trans G20.out;have kc := bz val w6
 go_wp2_with fail
 refine ag kc ?_;rintro e w7 ⟨rfl, hb⟩;have m7 := (hb.block _ (gl m6)).trans m6;have b7 := b6.trans (hb.mono b6.size);have o7 := o6.below hb;clear hb m6 b6 o6 kc q;have kc := dt (.mk 0 4 false val []) (.slice none 0 0) 11 w7 (bf.nil _ _) (by simp [SmE, SmL]; exact hval)
 go_wp2_with fail
 refine ag kc ?_;rintro e w8 ⟨⟨u, rfl, hu⟩, hb⟩;obtain ⟨ae8, ce8, rfl⟩ := hu.empty;have m8 := (hb.block _ (gl m7)).trans m7;have b8 := b7.trans (hb.mono b7.size);have o8 := o7.below hb;clear hb m7 b7 o7 kc hu;simp only [elA, El.cls, El.tag, El.cons, El.bytes];have hb := alb w8 #[.int .i64 2, .int .i64 11, .bool false, .string ⟨val.toArray⟩, .slice ae8 0 ce8] 45;have x : (w8.alloc (.cells #[.int .i64 2, .int .i64 11, .bool false, .string ⟨val.toArray⟩, .slice ae8 0 ce8] 45)).heap[w8.heap.size]? = some (.cells (elA (.mk 2 11 false val []) (.slice ae8 0 ce8)) 45 (0, 0)) := bi _ _ _ rfl;have m9 := (hb.block _ (gl m8)).trans m8;have b9 := b8.trans (hb.mono b8.size);have o9 := o8.below hb;clear hb m8 b8 o8 ;have hs := b9.size;have z := (gl m9);have zm := (gl m9);have M9 := hid m9;have B9 := hid b9;have O9 := hid o9;have X := hid x;clear x m9 b9 o9
 go_wp2_with (at_builtin; refine bO rfl (.tmp 26) (.tmp 31) rfl (w.heap.size + 1) (.slice (some ⟨y, 0, none⟩) 3 3) [.mk 0 10 false (sgB n) [], .mk 0 4 false mt [], .mk 0 4 false tx []] rfl O9.out (.mk 2 11 false val []) ae8 0 ce8 w8.heap.size rfl X.out (bf.no _ _ _ _) (by simp) (by omega) ?_; intro a10 c10 w10 o10 hg; have m10 := (hg.block w.heap.size zm (fun h => by have := (O9.out.lt h.symm).1; omega)).trans M9.out; have b10 := B9.out.grown hg hs (fun b hb => by have := (O9.out.lt hb).1; omega); clear hg hs z zm X M9 B9 O9; simp only [List.cons_append, List.nil_append, aG, aU, Nat.zero_add, Nat.reduceAdd] at o10 ⊢)
 have O := hid o10;clear o10
 go_wp2_with fail
 go_ret
 exact ⟨⟨_, rfl, O.out.mono (by omega)⟩, b10⟩
theorem pT (A : Array Value) (n : Nat) (mt tx oid : List UInt8) (w : World) (h24 : A[24]? = some (.int .i64 (n : Int))) (h25 : A[25]? = some (.string ⟨mt.toArray⟩)) (h26 : A[26]? = some (.string ⟨tx.toArray⟩)) (h21 : A[21]? = some (.string ⟨oid.toArray⟩)) (h22 : A[22]? = some (.bool false)) (hn : n ≤ 2147483647) (hne : oid ≠ []) (hoid : oid.length ≤ 1000000000) :
  Calls Tryz.prog 127 #[.agg A] w fun e w' => (∃ v, e = .returned v ∧ bJ w.heap.size w' v [.mk 0 10 false (sgB n) [], .mk 0 4 false mt [], .mk 0 4 false tx [], .mk 2 10 false oid []]) ∧ Below w.heap.size w w' := by
 have b1 := alb w A 28;have m1 := alz w A 28;have i1 : oid.isEmpty = false := by simpa using hne
 clear hne;have G24 := hid h24;have G25 := hid h25;have G26 := hid h26;have G21 := hid h21;have G22 := hid h22;clear h24 h25 h26 h21 h22
 go_enter Tryz.func127, Tryz.ntmps127
 go_upto_region 1 with fail
 generalize w.alloc (.cells A 28) = w1 at b1 m1 ⊢;refine aR (S := fun w' => w'.heap[w.heap.size]? = some (.cells A 28 (0, 0))) (by kernel_rfl) ?_;have T : w1.drew.heap[w.heap.size]? = some (.cells A 28 (0, 0)) := m1;have D : Below w.heap.size w w1.drew := b1.drew
 change wpAnyH _ _ _ _ _ _ _ _ w1.drew
 clear m1 b1;generalize w1.drew = w2 at T D ⊢;refine tp 0 ⟨w.heap.size, 24, none⟩ rfl T ?_;refine tn 1 (.int .i64 (n : Int)) rfl (fun w' hS => by have q := (ad hS 24).trans G24.out; go_simp) T ?_;refine tp 3 ⟨w.heap.size, 25, none⟩ rfl T ?_;refine tn 4 (.string ⟨mt.toArray⟩) rfl (fun w' hS => by have q := (ad hS 25).trans G25.out; go_simp) T ?_;refine tp 6 ⟨w.heap.size, 26, none⟩ rfl T ?_;refine tn 7 (.string ⟨tx.toArray⟩) rfl (fun w' hS => by have q := (ad hS 26).trans G26.out; go_simp) T ?_;have kc := eO 10 n hn w2;refine ao 2 rfl (fun K hK => ?_); go_simp; go_wp2_with fail
 refine ag kc ?_;rintro e w3 ⟨rfl, hb⟩;have T9 := (hb.block _ (gl T)).trans T;have D9 := D.trans (hb.mono D.size);clear kc hb T D;have T := T9;have D := D9;clear T9 D9;refine hK _ _ T ?_; clear hK K
 have kc := bz mt w3;refine ao 5 rfl (fun K hK => ?_); go_simp; go_wp2_with fail
 refine ag kc ?_;rintro e w4 ⟨rfl, hb⟩;have T9 := (hb.block _ (gl T)).trans T;have D9 := D.trans (hb.mono D.size);clear kc hb T D;have T := T9;have D := D9;clear T9 D9;refine hK _ _ T ?_; clear hK K
 have kc := bz tx w4;refine ao 8 rfl (fun K hK => ?_); go_simp; go_wp2_with fail
 refine ag kc ?_;rintro e w5 ⟨rfl, hb⟩;have T9 := (hb.block _ (gl T)).trans T;have D9 := D.trans (hb.mono D.size);clear kc hb T D;have T := T9;have D := D9;clear T9 D9;refine hK _ _ T ?_; clear hK K
 simp only [elA, El.cls, El.tag, El.cons, El.bytes];have hb := alb w5 #[.int .i64 0, .int .i64 10, .bool false, .string ⟨((sgB n)).toArray⟩, .slice none 0 0, .int .i64 0, .int .i64 4, .bool false, .string ⟨mt.toArray⟩, .slice none 0 0, .int .i64 0, .int .i64 4, .bool false, .string ⟨tx.toArray⟩, .slice none 0 0] 45;have x := alz w5 #[.int .i64 0, .int .i64 10, .bool false, .string ⟨((sgB n)).toArray⟩, .slice none 0 0, .int .i64 0, .int .i64 4, .bool false, .string ⟨mt.toArray⟩, .slice none 0 0, .int .i64 0, .int .i64 4, .bool false, .string ⟨tx.toArray⟩, .slice none 0 0] 45;have z : w.heap.size + 1 ≤ w5.heap.size := (gl T);have o6 : bJ (w.heap.size + 1) (w5.alloc (.cells #[.int .i64 0, .int .i64 10, .bool false, .string ⟨((sgB n)).toArray⟩, .slice none 0 0, .int .i64 0, .int .i64 4, .bool false, .string ⟨mt.toArray⟩, .slice none 0 0, .int .i64 0, .int .i64 4, .bool false, .string ⟨tx.toArray⟩, .slice none 0 0] 45)) (.slice (some ⟨w5.heap.size, 0, none⟩) 3 3) [.mk 0 10 false (sgB n) [], .mk 0 4 false mt [], .mk 0 4 false tx []] :=
  bJ.flat (l := [.mk 0 10 false (sgB n) [], .mk 0 4 false mt [], .mk 0 4 false tx []]) (us := [.slice none 0 0, .slice none 0 0, .slice none 0 0]) x (by simp [cx, El.cls, El.tag, El.cons, El.bytes]) rfl z (by simp) (fun j e u q1 q2 => by
   have h3 : j = 0 ∨ j = 1 ∨ j = 2 := by have h9 := (List.getElem?_eq_some_iff.1 q1).1; simp at h9; omega
   rcases h3 with rfl | rfl | rfl
   all_goals (simp at q1 q2; subst q1; subst q2; exact bf.no _ _ _ _))
 have T9 := (hb.block _ (gl T)).trans T;have D9 := D.trans (hb.mono D.size);clear hb x z T D;refine ao 9 rfl (fun K hK => ?_); go_simp; refine hK _ _ T9 ?_; clear hK K
 generalize (w5.alloc (.cells #[.int .i64 0, .int .i64 10, .bool false, .string ⟨((sgB n)).toArray⟩, .slice none 0 0, .int .i64 0, .int .i64 4, .bool false, .string ⟨mt.toArray⟩, .slice none 0 0, .int .i64 0, .int .i64 4, .bool false, .string ⟨tx.toArray⟩, .slice none 0 0] 45)) = w6 at T9 D9 o6 ⊢;generalize w5.heap.size = y at o6 ⊢;refine ao 10 rfl (fun K hK => ?_); go_simp; refine hK _ _ T9 ?_; clear hK K
 refine aV (by kernel_rfl) ?_ _;simp only [Exit.then];refine ‹∀ (a : Act) (w : World), Code.wp _ _ _ a w → _› _ _ ?_;have m6 := T9;have b6 := D9;clear T9 D9;have q21 := (ad m6 21).trans G21.out
 go_upto_region 3 with fail
 clear q21;have q := (ad m6 21).trans G21.out;have kc := bz oid w6
 go_wp2_with fail
 refine ag kc ?_;rintro e w7 ⟨rfl, hb⟩;have m7 := (hb.block _ (gl m6)).trans m6;have b7 := b6.trans (hb.mono b6.size);have o7 := o6.below hb;clear hb m6 b6 o6 kc q;have kc := dt (.mk 0 4 false oid []) (.slice none 0 0) 10 w7 (bf.nil _ _) (by simp [SmE, SmL]; exact hoid)
 go_wp2_with fail
 refine ag kc ?_;rintro e w8 ⟨⟨u, rfl, hu⟩, hb⟩;obtain ⟨ae8, ce8, rfl⟩ := hu.empty;have m8 := (hb.block _ (gl m7)).trans m7;have b8 := b7.trans (hb.mono b7.size);have o8 := o7.below hb;clear hb m7 b7 o7 kc hu;simp only [elA, El.cls, El.tag, El.cons, El.bytes];have hb := alb w8 #[.int .i64 2, .int .i64 10, .bool false, .string ⟨oid.toArray⟩, .slice ae8 0 ce8] 45;have x : (w8.alloc (.cells #[.int .i64 2, .int .i64 10, .bool false, .string ⟨oid.toArray⟩, .slice ae8 0 ce8] 45)).heap[w8.heap.size]? = some (.cells (elA (.mk 2 10 false oid []) (.slice ae8 0 ce8)) 45 (0, 0)) := bi _ _ _ rfl;have m9 := (hb.block _ (gl m8)).trans m8;have b9 := b8.trans (hb.mono b8.size);have o9 := o8.below hb;clear hb m8 b8 o8 ;have hs := b9.size;have z := (gl m9);have zm := (gl m9);have M9 := hid m9;have B9 := hid b9;have O9 := hid o9;have X := hid x;clear x m9 b9 o9
 go_upto_region 4 with (at_builtin; refine bO rfl (.tmp 17) (.tmp 22) rfl (w.heap.size + 1) (.slice (some ⟨y, 0, none⟩) 3 3) [.mk 0 10 false (sgB n) [], .mk 0 4 false mt [], .mk 0 4 false tx []] rfl O9.out (.mk 2 10 false oid []) ae8 0 ce8 w8.heap.size rfl X.out (bf.no _ _ _ _) (by simp) (by omega) ?_; intro a10 c10 w10 o10 hg; have m10 := (hg.block w.heap.size zm (fun h => by have := (O9.out.lt h.symm).1; omega)).trans M9.out; have b10 := B9.out.grown hg hs (fun b hb => by have := (O9.out.lt hb).1; omega); clear hg hs z zm X M9 B9 O9; simp only [List.cons_append, List.nil_append, aG, aU, Nat.zero_add, Nat.reduceAdd] at o10 ⊢)
 have q22 := (ad m10 22).trans G22.out;have O := hid o10;clear o10
 go_wp2_with fail
 go_ret
 exact ⟨⟨_, rfl, O.out.mono (by omega)⟩, b10⟩
theorem pU (A : Array Value) (n : Nat) (mt tx oid val : List UInt8) (w : World) (h24 : A[24]? = some (.int .i64 (n : Int))) (h25 : A[25]? = some (.string ⟨mt.toArray⟩)) (h26 : A[26]? = some (.string ⟨tx.toArray⟩)) (h21 : A[21]? = some (.string ⟨oid.toArray⟩)) (h22 : A[22]? = some (.bool true)) (h20 : A[20]? = some (.string ⟨val.toArray⟩)) (hn : n ≤ 2147483647) (hne : oid ≠ []) (hoid : oid.length ≤ 1000000000) (hval : val.length ≤ 1000000000) :
  Calls Tryz.prog 127 #[.agg A] w fun e w' => (∃ v, e = .returned v ∧ bJ w.heap.size w' v [.mk 0 10 false (sgB n) [], .mk 0 4 false mt [], .mk 0 4 false tx [], .mk 2 10 false oid [], .mk 2 11 false val []]) ∧ Below w.heap.size w w' := by
 have b1 := alb w A 28;have m1 := alz w A 28;have i1 : oid.isEmpty = false := by simpa using hne
 clear hne;have G24 := hid h24;have G25 := hid h25;have G26 := hid h26;have G21 := hid h21;have G22 := hid h22;have G20 := hid h20;clear h24 h25 h26 h21 h22 h20
 go_enter Tryz.func127, Tryz.ntmps127
 go_upto_region 1 with fail
 generalize w.alloc (.cells A 28) = w1 at b1 m1 ⊢;refine aR (S := fun w' => w'.heap[w.heap.size]? = some (.cells A 28 (0, 0))) (by kernel_rfl) ?_;have T : w1.drew.heap[w.heap.size]? = some (.cells A 28 (0, 0)) := m1;have D : Below w.heap.size w w1.drew := b1.drew
 change wpAnyH _ _ _ _ _ _ _ _ w1.drew
 clear m1 b1;generalize w1.drew = w2 at T D ⊢;refine tp 0 ⟨w.heap.size, 24, none⟩ rfl T ?_;refine tn 1 (.int .i64 (n : Int)) rfl (fun w' hS => by have q := (ad hS 24).trans G24.out; go_simp) T ?_;refine tp 3 ⟨w.heap.size, 25, none⟩ rfl T ?_;refine tn 4 (.string ⟨mt.toArray⟩) rfl (fun w' hS => by have q := (ad hS 25).trans G25.out; go_simp) T ?_;refine tp 6 ⟨w.heap.size, 26, none⟩ rfl T ?_;refine tn 7 (.string ⟨tx.toArray⟩) rfl (fun w' hS => by have q := (ad hS 26).trans G26.out; go_simp) T ?_;have kc := eO 10 n hn w2;refine ao 2 rfl (fun K hK => ?_); go_simp; go_wp2_with fail
 refine ag kc ?_;rintro e w3 ⟨rfl, hb⟩;have T9 := (hb.block _ (gl T)).trans T;have D9 := D.trans (hb.mono D.size);clear kc hb T D;have T := T9;have D := D9;clear T9 D9;refine hK _ _ T ?_; clear hK K
 have kc := bz mt w3;refine ao 5 rfl (fun K hK => ?_); go_simp; go_wp2_with fail
 refine ag kc ?_;rintro e w4 ⟨rfl, hb⟩;have T9 := (hb.block _ (gl T)).trans T;have D9 := D.trans (hb.mono D.size);clear kc hb T D;have T := T9;have D := D9;clear T9 D9;refine hK _ _ T ?_; clear hK K
 have kc := bz tx w4;refine ao 8 rfl (fun K hK => ?_); go_simp; go_wp2_with fail
 refine ag kc ?_;rintro e w5 ⟨rfl, hb⟩;have T9 := (hb.block _ (gl T)).trans T;have D9 := D.trans (hb.mono D.size);clear kc hb T D;have T := T9;have D := D9;clear T9 D9;refine hK _ _ T ?_; clear hK K
 simp only [elA, El.cls, El.tag, El.cons, El.bytes];have hb := alb w5 #[.int .i64 0, .int .i64 10, .bool false, .string ⟨((sgB n)).toArray⟩, .slice none 0 0, .int .i64 0, .int .i64 4, .bool false, .string ⟨mt.toArray⟩, .slice none 0 0, .int .i64 0, .int .i64 4, .bool false, .string ⟨tx.toArray⟩, .slice none 0 0] 45;have x := alz w5 #[.int .i64 0, .int .i64 10, .bool false, .string ⟨((sgB n)).toArray⟩, .slice none 0 0, .int .i64 0, .int .i64 4, .bool false, .string ⟨mt.toArray⟩, .slice none 0 0, .int .i64 0, .int .i64 4, .bool false, .string ⟨tx.toArray⟩, .slice none 0 0] 45;have z : w.heap.size + 1 ≤ w5.heap.size := (gl T);have o6 : bJ (w.heap.size + 1) (w5.alloc (.cells #[.int .i64 0, .int .i64 10, .bool false, .string ⟨((sgB n)).toArray⟩, .slice none 0 0, .int .i64 0, .int .i64 4, .bool false, .string ⟨mt.toArray⟩, .slice none 0 0, .int .i64 0, .int .i64 4, .bool false, .string ⟨tx.toArray⟩, .slice none 0 0] 45)) (.slice (some ⟨w5.heap.size, 0, none⟩) 3 3) [.mk 0 10 false (sgB n) [], .mk 0 4 false mt [], .mk 0 4 false tx []] :=
  bJ.flat (l := [.mk 0 10 false (sgB n) [], .mk 0 4 false mt [], .mk 0 4 false tx []]) (us := [.slice none 0 0, .slice none 0 0, .slice none 0 0]) x (by simp [cx, El.cls, El.tag, El.cons, El.bytes]) rfl z (by simp) (fun j e u q1 q2 => by
   have h3 : j = 0 ∨ j = 1 ∨ j = 2 := by have h9 := (List.getElem?_eq_some_iff.1 q1).1; simp at h9; omega
   rcases h3 with rfl | rfl | rfl
   all_goals (simp at q1 q2; subst q1; subst q2; exact bf.no _ _ _ _))
 have T9 := (hb.block _ (gl T)).trans T;have D9 := D.trans (hb.mono D.size);clear hb x z T D;refine ao 9 rfl (fun K hK => ?_); go_simp; refine hK _ _ T9 ?_; clear hK K
 generalize (w5.alloc (.cells #[.int .i64 0, .int .i64 10, .bool false, .string ⟨((sgB n)).toArray⟩, .slice none 0 0, .int .i64 0, .int .i64 4, .bool false, .string ⟨mt.toArray⟩, .slice none 0 0, .int .i64 0, .int .i64 4, .bool false, .string ⟨tx.toArray⟩, .slice none 0 0] 45)) = w6 at T9 D9 o6 ⊢;generalize w5.heap.size = y at o6 ⊢;refine ao 10 rfl (fun K hK => ?_); go_simp; refine hK _ _ T9 ?_; clear hK K
 refine aV (by kernel_rfl) ?_ _;simp only [Exit.then];refine ‹∀ (a : Act) (w : World), Code.wp _ _ _ a w → _› _ _ ?_;have m6 := T9;have b6 := D9;clear T9 D9;have q21 := (ad m6 21).trans G21.out
 go_upto_region 3 with fail
 clear q21;have q := (ad m6 21).trans G21.out;have kc := bz oid w6
 go_wp2_with fail
 refine ag kc ?_;rintro e w7 ⟨rfl, hb⟩;have m7 := (hb.block _ (gl m6)).trans m6;have b7 := b6.trans (hb.mono b6.size);have o7 := o6.below hb;clear hb m6 b6 o6 kc q;have kc := dt (.mk 0 4 false oid []) (.slice none 0 0) 10 w7 (bf.nil _ _) (by simp [SmE, SmL]; exact hoid)
 go_wp2_with fail
 refine ag kc ?_;rintro e w8 ⟨⟨u, rfl, hu⟩, hb⟩;obtain ⟨ae8, ce8, rfl⟩ := hu.empty;have m8 := (hb.block _ (gl m7)).trans m7;have b8 := b7.trans (hb.mono b7.size);have o8 := o7.below hb;clear hb m7 b7 o7 kc hu;simp only [elA, El.cls, El.tag, El.cons, El.bytes];have hb := alb w8 #[.int .i64 2, .int .i64 10, .bool false, .string ⟨oid.toArray⟩, .slice ae8 0 ce8] 45;have x : (w8.alloc (.cells #[.int .i64 2, .int .i64 10, .bool false, .string ⟨oid.toArray⟩, .slice ae8 0 ce8] 45)).heap[w8.heap.size]? = some (.cells (elA (.mk 2 10 false oid []) (.slice ae8 0 ce8)) 45 (0, 0)) := bi _ _ _ rfl;have m9 := (hb.block _ (gl m8)).trans m8;have b9 := b8.trans (hb.mono b8.size);have o9 := o8.below hb;clear hb m8 b8 o8 ;have hs := b9.size;have z := (gl m9);have zm := (gl m9);have M9 := hid m9;have B9 := hid b9;have O9 := hid o9;have X := hid x;clear x m9 b9 o9
 go_upto_region 4 with (at_builtin; refine bO rfl (.tmp 17) (.tmp 22) rfl (w.heap.size + 1) (.slice (some ⟨y, 0, none⟩) 3 3) [.mk 0 10 false (sgB n) [], .mk 0 4 false mt [], .mk 0 4 false tx []] rfl O9.out (.mk 2 10 false oid []) ae8 0 ce8 w8.heap.size rfl X.out (bf.no _ _ _ _) (by simp) (by omega) ?_; intro a10 c10 w10 o10 hg; have m10 := (hg.block w.heap.size zm (fun h => by have := (O9.out.lt h.symm).1; omega)).trans M9.out; have b10 := B9.out.grown hg hs (fun b hb => by have := (O9.out.lt hb).1; omega); clear hg hs z zm X M9 B9 O9; simp only [List.cons_append, List.nil_append, aG, aU, Nat.zero_add, Nat.reduceAdd] at o10 ⊢)
 have q22 := (ad m10 22).trans G22.out
 go_upto_region 5 with fail
 clear q22;have q := (ad m10 20).trans G20.out;have kc := bz val w10
 go_wp2_with fail
 refine ag kc ?_;rintro e w11 ⟨rfl, hb⟩;have m11 := (hb.block _ (gl m10)).trans m10;have b11 := b10.trans (hb.mono b10.size);have o11 := o10.below hb;clear hb m10 b10 o10 kc q;have kc := dt (.mk 0 4 false val []) (.slice none 0 0) 11 w11 (bf.nil _ _) (by simp [SmE, SmL]; exact hval)
 go_wp2_with fail
 refine ag kc ?_;rintro e w12 ⟨⟨u, rfl, hu⟩, hb⟩;obtain ⟨ae12, ce12, rfl⟩ := hu.empty;have m12 := (hb.block _ (gl m11)).trans m11;have b12 := b11.trans (hb.mono b11.size);have o12 := o11.below hb;clear hb m11 b11 o11 kc hu;simp only [elA, El.cls, El.tag, El.cons, El.bytes];have hb := alb w12 #[.int .i64 2, .int .i64 11, .bool false, .string ⟨val.toArray⟩, .slice ae12 0 ce12] 45;have x : (w12.alloc (.cells #[.int .i64 2, .int .i64 11, .bool false, .string ⟨val.toArray⟩, .slice ae12 0 ce12] 45)).heap[w12.heap.size]? = some (.cells (elA (.mk 2 11 false val []) (.slice ae12 0 ce12)) 45 (0, 0)) := bi _ _ _ rfl;have m13 := (hb.block _ (gl m12)).trans m12;have b13 := b12.trans (hb.mono b12.size);have o13 := o12.below hb;clear hb m12 b12 o12 ;have hs := b13.size;have z := (gl m13);have zm := (gl m13);have M13 := hid m13;have B13 := hid b13;have O13 := hid o13;have X := hid x;clear x m13 b13 o13
 go_wp2_with (at_builtin; refine bO rfl (.tmp 26) (.tmp 31) rfl (w.heap.size + 1) (.slice a10 4 c10) [.mk 0 10 false (sgB n) [], .mk 0 4 false mt [], .mk 0 4 false tx [], .mk 2 10 false oid []] rfl O13.out (.mk 2 11 false val []) ae12 0 ce12 w12.heap.size rfl X.out (bf.no _ _ _ _) (by simp) (by omega) ?_; intro a14 c14 w14 o14 hg; have m14 := (hg.block w.heap.size zm (fun h => by have := (O13.out.lt h.symm).1; omega)).trans M13.out; have b14 := B13.out.grown hg hs (fun b hb => by have := (O13.out.lt hb).1; omega); clear hg hs z zm X M13 B13 O13; simp only [List.cons_append, List.nil_append, aG, aU, Nat.zero_add, Nat.reduceAdd] at o14 ⊢)
 have O := hid o14;clear o14
 go_wp2_with fail
 go_ret
 exact ⟨⟨_, rfl, O.out.mono (by omega)⟩, b14⟩
abbrev Md := Int × List UInt8 × List (List UInt8)
structure Ct where
 oid : List UInt8
 crit : Bool
 has : Bool
 value : List UInt8
def eY (w : World) (v : Value) (ml : List Md) : Prop :=
 ∃ a cap, v = .slice a ml.length cap ∧ ml.length ≤ cap ∧ (ml ≠ [] → ∃ g o, a = some ⟨g, o, none⟩ ∧ ∀ (j : Nat) (x : Md), ml[j]? = some x → w.cell? ⟨g, o + j * 3, none⟩ = some (.int .i64 x.1) ∧ w.cell? ⟨g, o + j * 3 + 1, none⟩ = some (.string ⟨x.2.1.toArray⟩) ∧ ∃ u, w.cell? ⟨g, o + j * 3 + 2, none⟩ = some u ∧ ct w u x.2.2)
theorem eY.below {w w' : World} {v : Value} {ml : List Md} (h : eY w v ml) (hb : Below w.heap.size w w') : eY w' v ml := by
 obtain ⟨a, cap, hv, hc, hr⟩ := h;refine ⟨a, cap, hv, hc, fun h0 => ?_⟩;obtain ⟨g, o, ha, hcell⟩ := hr h0;refine ⟨g, o, ha, fun j x hj => ?_⟩;obtain ⟨h1, h2, u, h3, h4⟩ := hcell j x hj;exact ⟨(hb.cell (bj h1)).trans h1, (hb.cell (bj h2)).trans h2, u, (hb.cell (bj h3)).trans h3, h4.below hb⟩
def ig (w : World) (v : Value) (cl : List Ct) : Prop :=
 ∃ a cap, v = .slice a cl.length cap ∧ cl.length ≤ cap ∧ (cl ≠ [] → ∃ g o, a = some ⟨g, o, none⟩ ∧ ∀ (j : Nat) (x : Ct), cl[j]? = some x → w.cell? ⟨g, o + j * 4, none⟩ = some (.string ⟨x.oid.toArray⟩) ∧ w.cell? ⟨g, o + j * 4 + 1, none⟩ = some (.bool x.crit) ∧ w.cell? ⟨g, o + j * 4 + 2, none⟩ = some (.bool x.has) ∧ w.cell? ⟨g, o + j * 4 + 3, none⟩ = some (.string ⟨x.value.toArray⟩))
theorem ig.below {w w' : World} {v : Value} {cl : List Ct} (h : ig w v cl) (hb : Below w.heap.size w w') : ig w' v cl := by
 obtain ⟨a, cap, hv, hc, hr⟩ := h;refine ⟨a, cap, hv, hc, fun h0 => ?_⟩;obtain ⟨g, o, ha, hcell⟩ := hr h0;refine ⟨g, o, ha, fun j x hj => ?_⟩;obtain ⟨h1, h2, h3, h4⟩ := hcell j x hj;exact ⟨(hb.cell (bj h1)).trans h1, (hb.cell (bj h2)).trans h2, (hb.cell (bj h3)).trans h3, (hb.cell (bj h4)).trans h4⟩
structure Ls where
 filt : List Fl := []
 sel : List (List UInt8) := []
 mods : List Md := []
 attrs : List (List UInt8 × List (List UInt8)) := []
 ctl : List Ct := []
structure MgM (w : World) (m : Mg) (l : Ls) : Prop where
 filt : de w m.filt l.filt
 sel : ct w m.sel l.sel
 mods : eY w m.mods l.mods
 attrs : eG w m.attrs l.attrs
 ctl : ig w m.ctl l.ctl
theorem MgM.below {w w' : World} {m : Mg} {l : Ls} (h : MgM w m l) (hb : Below w.heap.size w w') : MgM w' m l :=
 ⟨h.filt.below hb, h.sel.below hb, h.mods.below hb, h.attrs.below hb, h.ctl.below hb⟩
def bo (m : Mg) : Mg :=
 if m.op = 0 then { id := m.id, op := m.op, ctl := m.ctl, ver := m.ver, dn := m.dn, sasl := m.sasl, secret := m.secret }
 else if m.op = 3 then { id := m.id, op := m.op, ctl := m.ctl, dn := m.dn, scope := m.scope, deref := m.deref, size := m.size, time := m.time, types := m.types, filt := m.filt, sel := m.sel }
 else if m.op = 6 then { id := m.id, op := m.op, ctl := m.ctl, dn := m.dn, mods := m.mods }
 else if m.op = 8 ∨ m.op = 4 then { id := m.id, op := m.op, ctl := m.ctl, dn := m.dn, attrs := m.attrs }
 else if m.op = 10 then { id := m.id, op := m.op, ctl := m.ctl, dn := m.dn }
 else if m.op = 12 then { id := m.id, op := m.op, ctl := m.ctl, dn := m.dn, newRdn := m.newRdn, delOld := m.delOld, hasSup := m.hasSup, newSup := m.newSup }
 else if m.op = 14 then { id := m.id, op := m.op, ctl := m.ctl, dn := m.dn, typ := m.typ, value := m.value }
 else if m.op = 16 then { id := m.id, op := m.op, ctl := m.ctl, target := m.target }
 else if m.op = 23 then { id := m.id, op := m.op, ctl := m.ctl, oid := m.oid, has := m.has, value := m.value }
 else if m.op = 24 then { id := m.id, op := m.op, ctl := m.ctl, code := m.code, matched := m.matched, text := m.text, oid := m.oid, has := m.has, value := m.value }
 else if ez.contains m.op then { id := m.id, op := m.op, ctl := m.ctl, code := m.code, matched := m.matched, text := m.text }
 else { id := m.id, op := m.op, ctl := m.ctl }
def bB (n most : Int) : Bool := decide (0 ≤ n) && decide (n ≤ most)
def br (m : Mg) (l : Ls) : Bool :=
 if m.op = 0 then decide (1 ≤ m.ver) && decide (m.ver ≤ 127)
 else if m.op = 2 then true
 else if m.op = 3 then bB m.scope 2 && bB m.deref 3 && bB m.size 2147483647 && bB m.time 2147483647 && dz l.filt
 else if m.op = 6 then l.mods.all (fun x => bB x.1 2)
 else if m.op = 8 ∨ m.op = 4 then true
 else if m.op = 10 then true
 else if m.op = 12 then m.hasSup || decide (m.newSup = [])
 else if m.op = 14 then true
 else if m.op = 16 then bB m.target 2147483647
 else if m.op = 23 then m.has || decide (m.value = [])
 else if m.op = 24 then bB m.code 2147483647 && (m.has || decide (m.value = []))
 else if ez.contains m.op then bB m.code 2147483647
 else false
theorem cM (n most : Int) (w : World) : Calls Tryz.prog 40 #[.int .i64 n, .int .i64 most] w fun e w' => e = .returned (.bool (bB n most)) ∧ w' = w := by
 by_cases h0 : 0 ≤ n
 ·by_cases h1 : n ≤ most
  ·rw [show bB n most = true by simp [bB, h0, h1]]
   exact pB n most h0 h1 w
  ·rw [show bB n most = false by simp [bB, h1]]
   have f0 : decide (n ≥ 0) = true := aA h0;have f2 : decide (0 ≤ n) = true := aA h0;have f1 : decide (n ≤ most) = false := an h1
   go_enter Tryz.func40, Tryz.ntmps40
   go_wp2_with fail
   go_ret
   exact ⟨rfl, rfl⟩
 ·rw [show bB n most = false by simp [bB, h0]]
  have f0 : decide (n ≥ 0) = false := an h0;have f2 : decide (0 ≤ n) = false := an h0
  go_enter Tryz.func40, Tryz.ntmps40
  go_wp2_with fail
  go_ret
  exact ⟨rfl, rfl⟩
theorem oG (x : Md) (u : Value) (w : World) : Cr 92 #[.agg #[.int .i64 x.1, .string ⟨x.2.1.toArray⟩, u]] w (.bool (!bB x.1 2)) := by
 have b1 := alb w #[.int .i64 x.1, .string ⟨x.2.1.toArray⟩, u] 58;have m1 := alz w #[.int .i64 x.1, .string ⟨x.2.1.toArray⟩, u] 58
 go_enter Tryz.func92, Tryz.ntmps92
 go_upto_region 1 with fail
 generalize w.alloc (.cells #[.int .i64 x.1, .string ⟨x.2.1.toArray⟩, u] 58) = w1 at b1 m1 ⊢;have q0 : w1.cell? ⟨w.heap.size, 0, none⟩ = some (.int .i64 x.1) := (ad m1 0).trans rfl;have kr := cM x.1 2 w1
 go_wp2_with fail
 refine ag kr ?_;rintro e w2 ⟨rfl, hw⟩;rw [hw];clear hw kr
 go_wp2_with fail
 go_ret
 exact ⟨rfl, b1⟩
def eL (x : Ct) : Bool := !x.has && !x.value.isEmpty
theorem oH (x : Ct) (w : World) : Cr 43 #[.agg #[.string ⟨x.oid.toArray⟩, .bool x.crit, .bool x.has, .string ⟨x.value.toArray⟩]] w (.bool (eL x)) := by
 obtain ⟨oid, crit, has, value⟩ := x;unfold eL;simp only;obtain ⟨B, hB⟩ : ∃ B, value.isEmpty = B := ⟨_, rfl⟩;have b1 := alb w #[.string ⟨oid.toArray⟩, .bool crit, .bool has, .string ⟨value.toArray⟩] 62;have m1 := alz w #[.string ⟨oid.toArray⟩, .bool crit, .bool has, .string ⟨value.toArray⟩] 62;rw [hB];cases has
 ·go_enter Tryz.func43, Tryz.ntmps43
  go_upto_region 1 with fail
  generalize w.alloc (.cells #[.string ⟨oid.toArray⟩, .bool crit, Bf, .string ⟨value.toArray⟩] 62) = w1 at b1 m1 ⊢;have q2 : w1.cell? ⟨w.heap.size, 2, none⟩ = some (Bf) := (ad m1 2).trans rfl;have q3 : w1.cell? ⟨w.heap.size, 3, none⟩ = some (.string ⟨value.toArray⟩) := (ad m1 3).trans rfl
  go_wp2_with fail
  go_ret
  exact ⟨by rw [← hB]; rfl, b1⟩
 ·go_enter Tryz.func43, Tryz.ntmps43
  go_upto_region 1 with fail
  generalize w.alloc (.cells #[.string ⟨oid.toArray⟩, .bool crit, .bool true, .string ⟨value.toArray⟩] 62) = w1 at b1 m1 ⊢;have q2 : w1.cell? ⟨w.heap.size, 2, none⟩ = some (.bool true) := (ad m1 2).trans rfl
  go_wp2_with fail
  go_ret
  exact ⟨rfl, b1⟩
def tH (w : World) (l : List Md) (i : Value) (wr : World) : Prop :=
 ∃ k : Nat, i = .int .i64 (k : Int) ∧ k ≤ l.length ∧ (l.take k).any (fun x => !bB x.1 2) = false ∧ Below w.heap.size w wr
theorem oI (v : Value) (l : List Md) (w : World) (h : eY w v l) (hl : l.length ≤ 1000000000) : Calls Tryz.prog 133 #[v, .func (.func 92) #[] #[]] w fun e w' => (∃ i : Int, e = .returned (.int .i64 i) ∧ decide (0 ≤ i) = l.any (fun x => !bB x.1 2)) ∧ Below w.heap.size w w' := by
 obtain ⟨a, cap, rfl, hcap, hcells⟩ := h;have HC := hid hcells;clear hcells
 go_enter Tryz.func133, Tryz.ntmps133
 go_wp2_with fail
 go_loopw [5, 8] (fun _ i wr => tH w l i wr) (fun _ i _ => l.length - (RowKit.intOf i).toNat)
 case atStart => exact ⟨0, rfl, Nat.zero_le _, by simp, aq _ _⟩
 case round =>
  obtain ⟨k, rfl, hk, hno, hbe⟩ := hrel
  by_cases hkl : k < l.length
  ·obtain ⟨x, hx⟩ : ∃ x, l[k]? = some x := ⟨_, by simp [hkl]; rfl⟩
   obtain ⟨g, o, ha, hc⟩ := HC.out (by intro h0; rw [h0] at hkl; simp at hkl);subst ha;obtain ⟨p0, p1, u, p2, -⟩ := hc k x hx;have q0 := (hbe.cell (bj p0)).trans p0;have q1 := (hbe.cell (bj p1)).trans p1;have q2 := (hbe.cell (bj p2)).trans p2;have i1 : decide ((k : Int) < (l.length : Int)) = true := aA (by omega);have i2 : (k : Int) < (l.length : Int) := by omega
   have hts : (l.take (k + 1)).any (fun x => !bB x.1 2) = (!bB x.1 2) := by rw [List.take_add_one, hx, List.any_append, hno]; simp
   have hmem : x ∈ l := List.mem_of_getElem? hx;have HTS := hid hts;have HNO := hid hno;clear hc hx hts hno;have kc := oG x u wr;obtain ⟨B, hB⟩ : ∃ B, (!bB x.1 2) = B := ⟨_, rfl⟩;rw [hB] at kc;have HBB := hid hB;clear hB
   go_wp2_with fail
   refine ag kc ?_;rintro e w2 ⟨rfl, hb2⟩;have b2 := hbe.trans (hb2.mono hbe.size);clear kc hb2 hbe;cases B
   ·go_wp2_with fail
    exact ⟨⟨k + 1, by go_num, by omega, by rw [HTS.out, HBB.out], b2⟩, by simp [RowKit.intOf]; omega⟩
   ·go_wp2_with fail
    go_ret
    exact ⟨⟨_, rfl, by rw [List.any_eq_true.2 ⟨x, hmem, HBB.out⟩]; exact aA (by omega)⟩, b2⟩
  ·obtain rfl : k = l.length := by omega
   rw [List.take_of_length_le (ah _)] at hno;have HNO := hid hno;clear hno
   go_wp2_with fail
   go_ret
   exact ⟨⟨_, rfl, by rw [HNO.out]; rfl⟩, hbe⟩
theorem eB (v : Value) (l : List Md) (w : World) (h : eY w v l) (hl : l.length ≤ 1000000000) : Cr 91 #[v, .func (.func 92) #[] #[]] w (.bool (l.any (fun x => !bB x.1 2))) := by
 have k := oI v l w h hl;clear h
 go_enter Tryz.func91, Tryz.ntmps91
 go_wp2_with fail
 refine ag k ?_;rintro e w1 ⟨⟨i, rfl, hi⟩, hb⟩;clear k;have HI := hid hi;clear hi
 go_wp2_with fail
 go_ret
 exact ⟨by rw [← HI.out]; try rfl, hb⟩
def tI (w : World) (l : List Ct) (i : Value) (wr : World) : Prop :=
 ∃ k : Nat, i = .int .i64 (k : Int) ∧ k ≤ l.length ∧ (l.take k).any (fun x => eL x) = false ∧ Below w.heap.size w wr
theorem oJ (v : Value) (l : List Ct) (w : World) (h : ig w v l) (hl : l.length ≤ 1000000000) : Calls Tryz.prog 94 #[v, .func (.func 43) #[] #[]] w fun e w' => (∃ i : Int, e = .returned (.int .i64 i) ∧ decide (0 ≤ i) = l.any (fun x => eL x)) ∧ Below w.heap.size w w' := by
 obtain ⟨a, cap, rfl, hcap, hcells⟩ := h;have HC := hid hcells;clear hcells
 go_enter Tryz.func94, Tryz.ntmps94
 go_wp2_with fail
 go_loopw [5, 8] (fun _ i wr => tI w l i wr) (fun _ i _ => l.length - (RowKit.intOf i).toNat)
 case atStart => exact ⟨0, rfl, Nat.zero_le _, by simp, aq _ _⟩
 case round =>
  obtain ⟨k, rfl, hk, hno, hbe⟩ := hrel
  by_cases hkl : k < l.length
  ·obtain ⟨x, hx⟩ : ∃ x, l[k]? = some x := ⟨_, by simp [hkl]; rfl⟩
   obtain ⟨g, o, ha, hc⟩ := HC.out (by intro h0; rw [h0] at hkl; simp at hkl);subst ha;obtain ⟨p0, p1, p2, p3⟩ := hc k x hx;have q0 := (hbe.cell (bj p0)).trans p0;have q1 := (hbe.cell (bj p1)).trans p1;have q2 := (hbe.cell (bj p2)).trans p2;have q3 := (hbe.cell (bj p3)).trans p3;have i1 : decide ((k : Int) < (l.length : Int)) = true := aA (by omega);have i2 : (k : Int) < (l.length : Int) := by omega
   have hts : (l.take (k + 1)).any (fun x => eL x) = (eL x) := by rw [List.take_add_one, hx, List.any_append, hno]; simp
   have hmem : x ∈ l := List.mem_of_getElem? hx;have HTS := hid hts;have HNO := hid hno;clear hc hx hts hno;have kc := oH x wr;obtain ⟨B, hB⟩ : ∃ B, (eL x) = B := ⟨_, rfl⟩;rw [hB] at kc;have HBB := hid hB;clear hB
   go_wp2_with fail
   refine ag kc ?_;rintro e w2 ⟨rfl, hb2⟩;have b2 := hbe.trans (hb2.mono hbe.size);clear kc hb2 hbe;cases B
   ·go_wp2_with fail
    exact ⟨⟨k + 1, by go_num, by omega, by rw [HTS.out, HBB.out], b2⟩, by simp [RowKit.intOf]; omega⟩
   ·go_wp2_with fail
    go_ret
    exact ⟨⟨_, rfl, by rw [List.any_eq_true.2 ⟨x, hmem, HBB.out⟩]; exact aA (by omega)⟩, b2⟩
  ·obtain rfl : k = l.length := by omega
   rw [List.take_of_length_le (ah _)] at hno;have HNO := hid hno;clear hno
   go_wp2_with fail
   go_ret
   exact ⟨⟨_, rfl, by rw [HNO.out]; rfl⟩, hbe⟩
theorem lP (v : Value) (l : List Ct) (w : World) (h : ig w v l) (hl : l.length ≤ 1000000000) : Cr 42 #[v, .func (.func 43) #[] #[]] w (.bool (l.any (fun x => eL x))) := by
 have k := oJ v l w h hl;clear h
 go_enter Tryz.func42, Tryz.ntmps42
 go_wp2_with fail
 refine ag k ?_;rintro e w1 ⟨⟨i, rfl, hi⟩, hb⟩;clear k;have HI := hid hi;clear hi
 go_wp2_with fail
 go_ret
 exact ⟨by rw [← HI.out]; try rfl, hb⟩
structure BaS (w : World) (m : Mg) (xs : Array Value) (g : Nat) (wx : World) : Prop where
 m : wx.heap[w.heap.size]? = some (.cells m.row 28 (0, 0))
 res : wx.heap[w.heap.size + 1]? = some (.cells (Mg.row {}) 28 (0, 0))
 x : wx.heap[g]? = some (.cells xs 28 (0, 0))
 bel : Below w.heap.size w wx
 lt : w.heap.size + 1 < g
theorem BaS.to {w wx wy : World} {m : Mg} {xs : Array Value} {g : Nat} (h : BaS w m xs g wx) (k : Below wx.heap.size wx wy) : BaS w m xs g wy := by
 have f : ∀ {j : Nat} {y : Obj}, wx.heap[j]? = some y → wy.heap[j]? = some y := fun q => (k.block _ (gl q)).trans q
 exact ⟨f h.m, f h.res, f h.x, h.bel.trans (k.mono h.bel.size), h.lt⟩
theorem BaS.set {w wx : World} {m : Mg} {xs : Array Value} {g : Nat} (h : BaS w m xs g wx) (k : Nat) (v : Value) : BaS w m (xs.setIfInBounds k v) g (wx.setCell ⟨g, k, none⟩ v) := by
 have l := h.lt;exact ⟨(aX wx ⟨g, k, none⟩ v w.heap.size (by show w.heap.size ≠ g; omega)).trans h.m, (aX wx ⟨g, k, none⟩ v (w.heap.size + 1) (by show w.heap.size + 1 ≠ g; omega)).trans h.res, bw (i := k) (u := v) h.x, h.bel.setCell (p := ⟨g, k, none⟩) (by show w.heap.size ≤ g; omega) v, l⟩
theorem BaS.as {w wx : World} {m : Mg} {xs ys : Array Value} {g : Nat} (h : BaS w m xs g wx) (e : xs = ys) : BaS w m ys g wx := e ▸ h
theorem BaS.drew {w wx : World} {m : Mg} {xs : Array Value} {g : Nat} (h : BaS w m xs g wx) : BaS w m xs g wx.drew := ⟨h.m, h.res, h.x, h.bel.drew, h.lt⟩
theorem Mg.row_one {w : World} {m : Mg} {l : Ls} (h : MgM w m l) : m.ctl.oneCell' = true ∧ m.filt.oneCell' = true ∧ m.sel.oneCell' = true ∧ m.mods.oneCell' = true ∧ m.attrs.oneCell' = true := by
 obtain ⟨a1, c1, e1⟩ := h.filt.shape;obtain ⟨a2, c2, e2, -, -⟩ := h.sel;obtain ⟨a3, c3, e3, -, -⟩ := h.mods;obtain ⟨a4, c4, e4, -, -⟩ := h.attrs;obtain ⟨a5, c5, e5, -, -⟩ := h.ctl;exact ⟨by rw [e5]; rfl, by rw [e1]; rfl, by rw [e2]; rfl, by rw [e3]; rfl, by rw [e4]; rfl⟩
theorem fF {m : Mg} (h : m.ctl.oneCell' = true ∧ m.filt.oneCell' = true ∧ m.sel.oneCell' = true ∧ m.mods.oneCell' = true ∧ m.attrs.oneCell' = true) : (Mg.row (bo m)).all (·.oneCell') = true := by
 have key : ∀ (p : Prop) [Decidable p] (a b : Mg), (Mg.row a).all (·.oneCell') = true → (Mg.row b).all (·.oneCell') = true → (Mg.row (if p then a else b)).all (·.oneCell') = true := fun p _ a b ha hb => by split <;> assumption
 unfold bo
 repeat' (first | apply key | (simp [Mg.row, h]; and_intros <;> rfl))
theorem rt (l : List Md) : l.all (fun x => bB x.1 2) = !(l.any fun x => !bB x.1 2) := by
 induction l with
 | nil => rfl
 | cons x r ih => simp only [List.any_cons, List.all_cons, ih]; cases bB x.1 2 <;> rfl
theorem sN (m : Mg) (l : Ls) (w : World) (hg : (m.op = 0) ∨ (m.op = 2)) (hm : MgM w m l) (hl : l.mods.length ≤ 1000000000)
  (kf : m.op = 3 → ∀ w' : World, Below w.heap.size w w' → Calls Tryz.prog 90 #[m.filt] w' fun e w2 => e = .returned (.bool (dz l.filt)) ∧ Below w'.heap.size w' w2) :
  Cr 39 #[.agg (Mg.row m)] w (.tuple #[.agg (Mg.row (bo m)), .bool (br m l)]) := by
 have H1 := hid (Mg.row_one hm);have km := fun w' (hb : Below w.heap.size w w') => eB m.mods l.mods w' (hm.mods.below hb) hl
 obtain ⟨af, cf, hf⟩ := hm.filt.shape;obtain ⟨az, cz, hs, -, -⟩ := hm.sel;obtain ⟨am, cm, hmo, -, -⟩ := hm.mods;obtain ⟨aa, ca, hat, -, -⟩ := hm.attrs;obtain ⟨ak, ck, hct, -, -⟩ := hm.ctl;obtain ⟨nf, hnf⟩ : ∃ n, l.filt.length = n := ⟨_, rfl⟩;obtain ⟨nz, hns⟩ : ∃ n, l.sel.length = n := ⟨_, rfl⟩;obtain ⟨nm, hnm⟩ : ∃ n, l.mods.length = n := ⟨_, rfl⟩;obtain ⟨na, hna⟩ : ∃ n, l.attrs.length = n := ⟨_, rfl⟩;obtain ⟨nk, hnk⟩ : ∃ n, l.ctl.length = n := ⟨_, rfl⟩;rw [hnf] at hf;rw [hns] at hs;rw [hnm] at hmo;rw [hna] at hat;rw [hnk] at hct;rw [hf] at kf;rw [hmo] at km;have KM := hid km;have KF := hid kf;have LF := hid hf;have LS := hid hs;have LM := hid hmo;have LA := hid hat;have LC := hid hct;clear km hf hs hmo hat hct hnf hns hnm hna hnk;have HG := hid hg;clear hg;have b1 : Below w.heap.size w ((w.alloc (.cells m.row 28)).alloc (.cells Zm 28)) := ((aq _ _).alloc (ah _) _).alloc (by simp) _;have m1 : ((w.alloc (.cells m.row 28)).alloc (.cells Zm 28)).heap[w.heap.size]? = some (.cells m.row 28 (0, 0)) := (alloc_old _ _ _ (by simp)).trans (bi _ _ _ rfl);have t1 : ((w.alloc (.cells m.row 28)).alloc (.cells Zm 28)).heap[w.heap.size + 1]? = some (.cells (Mg.row {}) 28 (0, 0)) := bi _ _ _ (by simp);clear hm hl kf
 go_enter Tryz.func39, Tryz.ntmps39
 refine wp_seq ?_;refine aQ ?_
 iterate 2 (refine aB rfl fun K hK => ?_; go_simp; refine hK _ _ ?_; clear hK K)
 generalize ((w.alloc (.cells m.row 28)).alloc (.cells Zm 28)) = w1 at b1 m1 t1 ⊢;have q0 := (ad m1 0).trans (show _ = some (Value.int .i64 m.id) from rfl);have q1 := (ad m1 1).trans (show _ = some (Value.int .i64 m.op) from rfl);have q27 := (ad m1 27).trans (show _ = some (Value.slice ak nk ck) from by rw [← LC.out]; rfl);obtain ⟨X0, hX⟩ : ∃ X : Array Value, #[.int .i64 m.id, .int .i64 m.op, Es, I0, Bf, Es, I0, I0, I0, I0, Bf, Sn, Sn, Sn, Sn, Es, Es, Bf, Bf, Es, Es, Es, Bf, I0, I0, Es, Es, .slice ak nk ck] = X := ⟨_, rfl⟩;have HX2 := hid (show X0.all (·.oneCell') = true by rw [← hX]; simp [Value.oneCell']);have HX3 := hid (show X0.size = 28 by rw [← hX]; rfl);have HX := hid hX;clear hX
 go_upto_region 1 with fail
 refine aQ ?_
 iterate 6 (refine aB rfl fun K hK => ?_; go_simp; refine hK _ _ ?_; clear hK K)
 refine aB rfl fun K hK => ?_
 go_simp;rw [HX.out];refine hK _ _ ?_; clear hK K
 clear q0 q1 q27;refine aB rfl fun K hK => ?_; go_simp; refine hK _ _ ?_; clear hK K
 have n2 := alb w1 Zm 28;have b2 := b1.trans (n2.mono b1.size);have m2 := (n2.block _ (gl m1)).trans m1;have t2 := (n2.block _ (gl t1)).trans t1;have x2 := alz w1 Zm 28;have hlt : w.heap.size + 1 < w1.heap.size := (gl t1);clear b1 m1 t1 n2;generalize w1.alloc (.cells Zm 28) = w2 at b2 m2 t2 x2 ⊢;generalize w1.heap.size = g at x2 hlt ⊢;refine bh rfl 28 (.tmp 4) (.tmp 12) rfl g 28 _ X0 (by rfl) (by rfl) x2 (by rw [HX3.out]; rfl) (by rw [HX3.out]; rfl) HX2.out ?_;have S : BaS w m X0 g (w2.setRow g X0) := ⟨(setRow_other w2 g w.heap.size X0 (by omega)).trans m2, (setRow_other w2 g (w.heap.size + 1) X0 (by omega)).trans t2, setRow_heap w2 g _ X0 _ _ x2, bm b2 (g := g) (by omega) X0, hlt⟩;clear b2 m2 t2 x2 HX2 HX3;generalize w2.setRow g X0 = wr at S ⊢;rw [← HX.out] at S;clear HX;replace S := S.as (show _ = Mg.row ({ id := m.id, op := m.op, ctl := .slice ak nk ck } : Mg) from rfl);have q1 := (ad S.m 1).trans (show _ = some (Value.int .i64 m.op) from rfl);go_simp;clear q1;refine if h0 : m.op = 0 then ?A13 else ?B13
 case' A13 =>
  have i0 : (m.op == 0) = true := by rw [h0]; rfl
  have q1 := (ad S.m 1).trans (show _ = some (.int .i64 m.op : Value) from rfl)
  go_upto_region 5 with fail
  clear q1;refine aR (S := fun w' => w'.heap[w.heap.size]? = some (.cells m.row 28 (0, 0))) (by kernel_rfl) ?_;replace S := S.drew
  change wpAnyH _ _ _ _ _ _ _ _ wr.drew
  generalize wr.drew = wr at S ⊢;refine tp 0 ⟨w.heap.size, 3, none⟩ rfl S.m ?_;refine tn 1 (.int .i64 m.ver) rfl (fun w' hS => by have q := (ad hS 3).trans (show _ = some (.int .i64 m.ver : Value) from rfl); go_simp) S.m ?_;refine tp 2 ⟨w.heap.size, 2, none⟩ rfl S.m ?_;refine tn 3 (.string ⟨m.dn.toArray⟩) rfl (fun w' hS => by have q := (ad hS 2).trans (show _ = some (.string ⟨m.dn.toArray⟩ : Value) from rfl); go_simp) S.m ?_;refine tp 4 ⟨w.heap.size, 4, none⟩ rfl S.m ?_;refine tn 5 (.bool m.sasl) rfl (fun w' hS => by have q := (ad hS 4).trans (show _ = some (.bool m.sasl : Value) from rfl); go_simp) S.m ?_;refine tp 6 ⟨w.heap.size, 5, none⟩ rfl S.m ?_;refine tn 7 (.string ⟨m.secret.toArray⟩) rfl (fun w' hS => by have q := (ad hS 5).trans (show _ = some (.string ⟨m.secret.toArray⟩ : Value) from rfl); go_simp) S.m ?_;refine tp 8 ⟨g, 3, none⟩ rfl S.m ?_;have s := (ad S.x 3).trans (show _ = some (.int .i64 0 : Value) from rfl);have z := aj S.x 3;replace S := (S.set 3 (.int .i64 m.ver)).as (show _ = Mg.row ({ id := m.id, op := m.op, ctl := .slice ak nk ck, ver := m.ver } : Mg) from rfl);refine ao 9 rfl (fun K hK => ?_); go_simp; refine hK _ _ S.m ?_; clear hK K
  clear s z;generalize wr.setCell ⟨g, 3, none⟩ (.int .i64 m.ver) = wr at S ⊢;refine tp 10 ⟨g, 2, none⟩ rfl S.m ?_;have s := (ad S.x 2).trans (show _ = some (Es : Value) from rfl);have z := aj S.x 2;replace S := (S.set 2 (.string ⟨m.dn.toArray⟩)).as (show _ = Mg.row ({ id := m.id, op := m.op, ctl := .slice ak nk ck, ver := m.ver, dn := m.dn } : Mg) from rfl);refine ao 11 rfl (fun K hK => ?_); go_simp; refine hK _ _ S.m ?_; clear hK K
  clear s z;generalize wr.setCell ⟨g, 2, none⟩ (.string ⟨m.dn.toArray⟩) = wr at S ⊢;refine tp 12 ⟨g, 4, none⟩ rfl S.m ?_;have s := (ad S.x 4).trans (show _ = some (Bf : Value) from rfl);have z := aj S.x 4;replace S := (S.set 4 (.bool m.sasl)).as (show _ = Mg.row ({ id := m.id, op := m.op, ctl := .slice ak nk ck, ver := m.ver, dn := m.dn, sasl := m.sasl } : Mg) from rfl);refine ao 13 rfl (fun K hK => ?_); go_simp; refine hK _ _ S.m ?_; clear hK K
  clear s z;generalize wr.setCell ⟨g, 4, none⟩ (.bool m.sasl) = wr at S ⊢;refine tp 14 ⟨g, 5, none⟩ rfl S.m ?_;have s := (ad S.x 5).trans (show _ = some (Es : Value) from rfl);have z := aj S.x 5;replace S := (S.set 5 (.string ⟨m.secret.toArray⟩)).as (show _ = Mg.row ({ id := m.id, op := m.op, ctl := .slice ak nk ck, ver := m.ver, dn := m.dn, sasl := m.sasl, secret := m.secret } : Mg) from rfl);refine ao 15 rfl (fun K hK => ?_); go_simp; refine hK _ _ S.m ?_; clear hK K
  clear s z;generalize wr.setCell ⟨g, 5, none⟩ (.string ⟨m.secret.toArray⟩) = wr at S ⊢;refine aV (by kernel_rfl) ?_ _
  try simp only [Exit.then]
  refine ‹∀ (a : Act) (w : World), Code.wp _ _ _ a w → _› _ _ ?_;refine if k1 : 1 ≤ m.ver then ?A12 else ?B12
  case' A12 =>
   refine if k2 : m.ver ≤ 127 then ?A11 else ?B11
   case' A11 =>
    have f0 : decide (m.ver ≥ 1) = true := aA k1;have f2 : decide (1 ≤ m.ver) = true := aA k1;have f1 : decide (m.ver ≤ 127) = true := aA k2;have q3 := (ad S.m 3).trans (show _ = some (.int .i64 m.ver : Value) from rfl)
    go_upto_region 36 with fail
    clear q3;replace S := S.as (show _ = Mg.row (bo m) from by rw [bo, if_pos h0]; simp only [Mg.row, LC.out]);have HK := hid (show br m l = true from by rw [br, if_pos h0]; simp [k1, k2])
   case' B11 =>
    have f0 : decide (m.ver ≥ 1) = true := aA k1;have f2 : decide (1 ≤ m.ver) = true := aA k1;have f1 : decide (m.ver ≤ 127) = false := an k2;have q3 := (ad S.m 3).trans (show _ = some (.int .i64 m.ver : Value) from rfl)
    go_upto_region 36 with fail
    clear q3;replace S := S.as (show _ = Mg.row (bo m) from by rw [bo, if_pos h0]; simp only [Mg.row, LC.out]);have HK := hid (show br m l = false from by rw [br, if_pos h0]; simp [k1, k2])
  case' B12 =>
   have f0 : decide (m.ver ≥ 1) = false := an k1;have f2 : decide (1 ≤ m.ver) = false := an k1;have q3 := (ad S.m 3).trans (show _ = some (.int .i64 m.ver : Value) from rfl)
   go_upto_region 36 with fail
   clear q3;replace S := S.as (show _ = Mg.row (bo m) from by rw [bo, if_pos h0]; simp only [Mg.row, LC.out]);have HK := hid (show br m l = false from by rw [br, if_pos h0]; simp [k1])
 case' B13 =>
  have i0 : (m.op == 0) = false := aE h0;have h2 : m.op = 2 := by have := HG.out; omega
  clear HG;have i2 : (m.op == 2) = true := by rw [h2]; rfl
  have q1 := (ad S.m 1).trans (show _ = some (.int .i64 m.op : Value) from rfl)
  go_upto_region 36 with fail
  clear q1;have h3 : ¬ m.op = 3 := by omega
  have h6 : ¬ m.op = 6 := by omega
  have h8 : ¬ (m.op = 8 ∨ m.op = 4) := by omega
  have h10 : ¬ m.op = 10 := by omega
  have h12 : ¬ m.op = 12 := by omega
  have h14 : ¬ m.op = 14 := by omega
  have h16 : ¬ m.op = 16 := by omega
  have h23 : ¬ m.op = 23 := by omega
  have h24 : ¬ m.op = 24 := by omega
  have hc : ¬ ez.contains m.op = true := by rw [h2]; decide
  replace S := S.as (show _ = Mg.row (bo m) from by rw [bo, if_neg h0, if_neg h3, if_neg h6, if_neg h8, if_neg h10, if_neg h12, if_neg h14, if_neg h16, if_neg h23, if_neg h24, if_neg hc]; simp only [Mg.row, LC.out]);have HK := hid (show br m l = true from by rw [br, if_neg h0, if_pos h2])
 all_goals
  have one := fF H1.out;obtain ⟨X, hX⟩ : ∃ X, Mg.row (bo m) = X := ⟨_, rfl⟩;have hX2 : X.size = 28 := by rw [← hX]; rfl
  rw [hX] at S one;have HX := hid hX;have HX2 := hid hX2;have ONE := hid one;have x := S.x;have t := S.res;have b60 := hid (bm S.bel (g := w.heap.size + 1) (by omega) X);have t60 := hid (setRow_heap wr (w.heap.size + 1) _ X _ _ S.res);clear hX hX2 one S H1 KM KF;refine aQ ?_;refine bg rfl 28 (.tmp 4) rfl g 28 _ (0, 0) (by rfl) x _ Tryz.underlying28 rfl (by rw [HX2.out]; rfl) ?_;refine aB rfl fun K hK => ?_; go_simp; refine hK _ _ ?_; clear hK K
  refine bh rfl 28 (.tmp 2) (.tmp 231) rfl (w.heap.size + 1) 28 _ X (by rfl) (by rfl) t (by rw [HX2.out]; rfl) (by rw [HX2.out]; rfl) ONE.out ?_;have b60 := b60.out;have t60 := t60.out;generalize wr.setRow (w.heap.size + 1) X = w60 at b60 t60 ⊢;clear x t;go_simp
  go_wp2_with fail
  refine aH (v := .tuple #[.agg X, .bool (br m l)]) ?_ rfl ⟨by rw [HX.out], b60⟩;have hr := aJ (P := Tryz.prog) w60 (w.heap.size + 1) 28 28 X (0, 0) _ t60 (show Tryz.prog.underlying 28 = _ from Tryz.underlying28) (by rfl) (by rw [HX2.out]; rfl);rw [HK.out]
  simp [results, Tryz.f39]
  show ((Sem.run Tryz.prog (loadVar 28 ⟨w.heap.size + 1, 0, none⟩) w60).andThen _) = _;rw [hr]
  simp
end Go.Proofs.YthjaiigijbjloaaGreatDoor
