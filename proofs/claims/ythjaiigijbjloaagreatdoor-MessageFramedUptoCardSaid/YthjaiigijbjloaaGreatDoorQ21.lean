/- ElG. -/
import Derived.Test.YthjaiigijbjloaaGreatDoorQ20
namespace Go.Proofs.YthjaiigijbjloaaGreatDoor
open Go.RowKit Go.Lib
set_option maxRecDepth 100000 in
set_option maxHeartbeats 4000000 in
theorem moveop_none (b : Nat) (A : Array Value) (dn rdn : List UInt8) (dl : Bool) (w : World) (h0 : w.heap[b]? = some (.cells A 28 (0, 0))) (h2 : A[2]? = some (.string ⟨dn.toArray⟩)) (h15 : A[15]? = some (.string ⟨rdn.toArray⟩)) (h17 : A[17]? = some (.bool dl)) (h18 : A[18]? = some (.bool false)) (hd : dn.length ≤ 1000000000) (hr : rdn.length ≤ 1000000000) :
  Calls Tryz.prog 124 #[.pointer (some ⟨b, 0, none⟩)] w fun e w' => (∃ u, e = .returned (.agg (elA (.mk 0 16 true [] [.mk 0 4 false dn [], .mk 0 4 false rdn [], .mk 0 1 false (blB dl) []]) u)) ∧ KidsAt (fun g => w.heap.size ≤ g) w' u [.mk 0 4 false dn [], .mk 0 4 false rdn [], .mk 0 1 false (blB dl) []]) ∧ Below w.heap.size w w' := by
 have b1 : Below w.heap.size w (w.alloc (.cells Ze 45)) := (Below.refl _ _).alloc (Nat.le_refl _) _
 have t1 : (w.alloc (.cells Ze 45)).heap[w.heap.size]? = some (.cells Ze 45 (0, 0)) := alloc_at _ _ _ rfl
 have m1 := (b1.block _ (gl h0)).trans h0
 have hbl := (gl h0)
 have G2 := hid h2
 have G15 := hid h15
 have G17 := hid h17
 have G18 := hid h18
 clear h0 h2 h15 h17 h18
 go_enter Tryz.func124, Tryz.ntmps124
 go_upto_region 1 with fail
 generalize w.alloc (.cells Ze 45) = w1 at b1 t1 m1 ⊢
 refine wp_region_held (S := fun w' => w'.heap[b]? = some (.cells A 28 (0, 0))) (by kernel_rfl) ?_
 have T : w1.drew.heap[b]? = some (.cells A 28 (0, 0)) := m1
 have D : Below w.heap.size w w1.drew := b1.drew
 have R : w1.drew.heap[w.heap.size]? = some (.cells Ze 45 (0, 0)) := t1
 change wpAnyH _ _ _ _ _ _ _ _ w1.drew
 clear m1 b1 t1
 generalize w1.drew = w2 at T D R ⊢
 refine tk 0 (.pointer (some ⟨b, 2, none⟩)) rfl (fun w' hS => by go_simp) T (fun K hK => ?_); go_simp; refine hK _ _ ?_; clear hK K
 refine tk 1 (.string ⟨dn.toArray⟩) rfl (fun w' hS => by have q := (cell_of_heap hS 2).trans G2.out; go_simp) T (fun K hK => ?_); go_simp; refine hK _ _ ?_; clear hK K
 refine tk 3 (.pointer (some ⟨b, 15, none⟩)) rfl (fun w' hS => by go_simp) T (fun K hK => ?_); go_simp; refine hK _ _ ?_; clear hK K
 refine tk 4 (.string ⟨rdn.toArray⟩) rfl (fun w' hS => by have q := (cell_of_heap hS 15).trans G15.out; go_simp) T (fun K hK => ?_); go_simp; refine hK _ _ ?_; clear hK K
 refine tk 6 (.pointer (some ⟨b, 17, none⟩)) rfl (fun w' hS => by go_simp) T (fun K hK => ?_); go_simp; refine hK _ _ ?_; clear hK K
 refine tk 7 (.bool dl) rfl (fun w' hS => by have q := (cell_of_heap hS 17).trans G17.out; go_simp) T (fun K hK => ?_); go_simp; refine hK _ _ ?_; clear hK K
 have kc := mstr_any dn w2
 refine anyH_one 2 (by kernel_rfl) rfl (by rfl) (fun K hK => ?_); go_simp; go_wp2_with fail
 refine Calls.mono kc ?_
 rintro e w3 ⟨rfl, hb⟩
 have T9 := (hb.block _ (gl T)).trans T
 have D9 := D.trans (hb.mono D.size)
 have R9 := (hb.block _ (gl R)).trans R
 clear kc hb T D R
 have T := T9
 have D := D9
 have R := R9
 clear T9 D9 R9
 refine hK _ _ T ?_; clear hK K
 have kc := mstr_any rdn w3
 refine anyH_one 5 (by kernel_rfl) rfl (by rfl) (fun K hK => ?_); go_simp; go_wp2_with fail
 refine Calls.mono kc ?_
 rintro e w4 ⟨rfl, hb⟩
 have T9 := (hb.block _ (gl T)).trans T
 have D9 := D.trans (hb.mono D.size)
 have R9 := (hb.block _ (gl R)).trans R
 clear kc hb T D R
 have T := T9
 have D := D9
 have R := R9
 clear T9 D9 R9
 refine hK _ _ T ?_; clear hK K
 have kc := Bool_any 1 dl w4
 refine anyH_one 8 (by kernel_rfl) rfl (by rfl) (fun K hK => ?_); go_simp; go_wp2_with fail
 refine Calls.mono kc ?_
 rintro e w5 ⟨⟨u5, rfl, hu5⟩, hb⟩
 obtain ⟨a5, c5, rfl⟩ := hu5.empty
 clear hu5
 have T9 := (hb.block _ (gl T)).trans T
 have D9 := D.trans (hb.mono D.size)
 have R9 := (hb.block _ (gl R)).trans R
 clear kc hb T D R
 have T := T9
 have D := D9
 have R := R9
 clear T9 D9 R9
 refine hK _ _ T ?_; clear hK K
 simp only [elA, El.cls, El.tag, El.cons, El.bytes]
 have hb : Below w5.heap.size w5 (w5.alloc (.cells #[.int .i64 0, .int .i64 4, .bool false, .string ⟨dn.toArray⟩, .slice none 0 0, .int .i64 0, .int .i64 4, .bool false, .string ⟨rdn.toArray⟩, .slice none 0 0, .int .i64 0, .int .i64 1, .bool false, .string ⟨((blB dl)).toArray⟩, .slice a5 0 c5] 45)) := (Below.refl _ _).alloc (Nat.le_refl _) _
 have x : (w5.alloc (.cells #[.int .i64 0, .int .i64 4, .bool false, .string ⟨dn.toArray⟩, .slice none 0 0, .int .i64 0, .int .i64 4, .bool false, .string ⟨rdn.toArray⟩, .slice none 0 0, .int .i64 0, .int .i64 1, .bool false, .string ⟨((blB dl)).toArray⟩, .slice a5 0 c5] 45)).heap[w5.heap.size]? = some (.cells #[.int .i64 0, .int .i64 4, .bool false, .string ⟨dn.toArray⟩, .slice none 0 0, .int .i64 0, .int .i64 4, .bool false, .string ⟨rdn.toArray⟩, .slice none 0 0, .int .i64 0, .int .i64 1, .bool false, .string ⟨((blB dl)).toArray⟩, .slice a5 0 c5] 45 (0, 0)) := alloc_at _ _ _ rfl
 have z : w.heap.size + 1 ≤ w5.heap.size := (gl R)
 have o6 : OwnK (w.heap.size + 1) (w5.alloc (.cells #[.int .i64 0, .int .i64 4, .bool false, .string ⟨dn.toArray⟩, .slice none 0 0, .int .i64 0, .int .i64 4, .bool false, .string ⟨rdn.toArray⟩, .slice none 0 0, .int .i64 0, .int .i64 1, .bool false, .string ⟨((blB dl)).toArray⟩, .slice a5 0 c5] 45)) (.slice (some ⟨w5.heap.size, 0, none⟩) 3 3) [.mk 0 4 false dn [], .mk 0 4 false rdn [], .mk 0 1 false (blB dl) []] :=
  OwnK.flat (l := [.mk 0 4 false dn [], .mk 0 4 false rdn [], .mk 0 1 false (blB dl) []]) (us := [.slice none 0 0, .slice none 0 0, .slice a5 0 c5]) x (by simp [flatE, El.cls, El.tag, El.cons, El.bytes]) rfl z (by simp) (fun j e u q1 q2 => by
   have h3 : j = 0 ∨ j = 1 ∨ j = 2 := by have h9 := (List.getElem?_eq_some_iff.1 q1).1; simp at h9; omega
   rcases h3 with rfl | rfl | rfl
   all_goals (simp at q1 q2; subst q1; subst q2; exact KidsAt.no _ _ _ _))
 have T9 := (hb.block _ (gl T)).trans T
 have D9 := D.trans (hb.mono D.size)
 have R9 := (hb.block _ (gl R)).trans R
 clear hb x z T D R
 refine anyH_one 9 (by kernel_rfl) rfl (by rfl) (fun K hK => ?_); go_simp; refine hK _ _ T9 ?_; clear hK K
 generalize (w5.alloc (.cells #[.int .i64 0, .int .i64 4, .bool false, .string ⟨dn.toArray⟩, .slice none 0 0, .int .i64 0, .int .i64 4, .bool false, .string ⟨rdn.toArray⟩, .slice none 0 0, .int .i64 0, .int .i64 1, .bool false, .string ⟨((blB dl)).toArray⟩, .slice a5 0 c5] 45)) = w6 at T9 D9 R9 o6 ⊢
 generalize w5.heap.size = y at o6 ⊢
 refine anyH_one 10 (by kernel_rfl) rfl (by rfl) (fun K hK => ?_); go_simp; refine hK _ _ T9 ?_; clear hK K
 refine wpAnyH_done (by kernel_rfl) ?_ _
 simp only [Exit.then]
 refine ‹∀ (a : Act) (w : World), Code.wp _ _ _ a w → _› _ _ ?_
 have m6 := T9
 have b6 := D9
 have t6 := R9
 clear T9 D9 R9
 have q18 := (cell_of_heap m6 18).trans G18.out
 have kc := Seq_any [.mk 0 4 false dn [], .mk 0 4 false rdn [], .mk 0 1 false (blB dl) []] _ w6 o6.kids (by simp [SmE, SmL]; exact ⟨hd, hr, by cases dl <;> simp [blB]⟩) (by simp)
 clear o6
 go_wp2_with fail
 refine Calls.mono kc ?_
 rintro e w7 ⟨⟨u, rfl, hu⟩, hb⟩
 have z := (gl t6)
 have t7 := (hb.block _ (gl t6)).trans t6
 have m7 := (hb.block _ (gl m6)).trans m6
 have b7 := b6.trans (hb.mono b6.size)
 clear hb t6 m6 b6 kc q18
 obtain ⟨E, hE⟩ : ∃ E, elA (El.mk 0 16 true [] [.mk 0 4 false dn [], .mk 0 4 false rdn [], .mk 0 1 false (blB dl) []]) u = E := ⟨_, rfl⟩
 have hE1 : E.all (·.oneCell') = true := by
  obtain ⟨a, c, hsl⟩ := hu.shape
  subst hsl
  rw [← hE]; simp [elA, Value.oneCell']
 have hE2 : E.size = 5 := by rw [← hE]; rfl
 rw [hE]
 have hsz := (gl t7)
 have bF := below_row b7 (g := w.heap.size) (Nat.le_refl _) E
 have tF := setRow_heap w7 w.heap.size _ E _ _ t7
 have uF : KidsAt (fun g => w.heap.size ≤ g) (w7.setRow w.heap.size E) u (El.mk 0 16 true [] [.mk 0 4 false dn [], .mk 0 4 false rdn [], .mk 0 1 false (blB dl) []]).kids := hu.kept fun g hg hl => ⟨setRow_other w7 w.heap.size g E (by omega), by omega⟩
 have HE := hid hE
 have HE1 := hid hE1
 have HE2 := hid hE2
 have UF := hid uF
 clear hu hE hE1 hE2 uF b7
 go_wp2_with (refine wpList_storeRow rfl 45 (.tmp 1) (.tmp 23) rfl w.heap.size 45 _ E (by rfl) (by rfl) t7 (by rw [HE2.out]; rfl) (by rw [HE2.out]; rfl) HE1.out ?_)
 refine bodyPost_ret (v := .agg E) ?_ rfl ⟨⟨u, by rw [← HE.out] <;> rfl, UF.out⟩, bF⟩
 have hr := run_loadVar_row (P := Tryz.prog) (w7.setRow w.heap.size E) w.heap.size 45 45 E (0, 0) _ tF (show Tryz.prog.underlying 45 = _ from Tryz.underlying45) (by rfl) (by rw [HE2.out]; rfl)
 simp [results, Tryz.f124]
 exact hr
set_option maxRecDepth 100000 in
set_option maxHeartbeats 4000000 in
theorem moveop_some (b : Nat) (A : Array Value) (dn rdn sup : List UInt8) (dl : Bool) (w : World) (h0 : w.heap[b]? = some (.cells A 28 (0, 0))) (h2 : A[2]? = some (.string ⟨dn.toArray⟩)) (h15 : A[15]? = some (.string ⟨rdn.toArray⟩)) (h17 : A[17]? = some (.bool dl)) (h18 : A[18]? = some (.bool true)) (h16 : A[16]? = some (.string ⟨sup.toArray⟩)) (hd : dn.length ≤ 1000000000) (hr : rdn.length ≤ 1000000000) (hp : sup.length ≤ 1000000000) :
  Calls Tryz.prog 124 #[.pointer (some ⟨b, 0, none⟩)] w fun e w' => (∃ u, e = .returned (.agg (elA (.mk 0 16 true [] [.mk 0 4 false dn [], .mk 0 4 false rdn [], .mk 0 1 false (blB dl) [], .mk 2 0 false sup []]) u)) ∧ KidsAt (fun g => w.heap.size ≤ g) w' u [.mk 0 4 false dn [], .mk 0 4 false rdn [], .mk 0 1 false (blB dl) [], .mk 2 0 false sup []]) ∧ Below w.heap.size w w' := by
 have b1 : Below w.heap.size w (w.alloc (.cells Ze 45)) := (Below.refl _ _).alloc (Nat.le_refl _) _
 have t1 : (w.alloc (.cells Ze 45)).heap[w.heap.size]? = some (.cells Ze 45 (0, 0)) := alloc_at _ _ _ rfl
 have m1 := (b1.block _ (gl h0)).trans h0
 have hbl := (gl h0)
 have G2 := hid h2
 have G15 := hid h15
 have G17 := hid h17
 have G18 := hid h18
 have G16 := hid h16
 clear h0 h2 h15 h17 h18 h16
 go_enter Tryz.func124, Tryz.ntmps124
 go_upto_region 1 with fail
 generalize w.alloc (.cells Ze 45) = w1 at b1 t1 m1 ⊢
 refine wp_region_held (S := fun w' => w'.heap[b]? = some (.cells A 28 (0, 0))) (by kernel_rfl) ?_
 have T : w1.drew.heap[b]? = some (.cells A 28 (0, 0)) := m1
 have D : Below w.heap.size w w1.drew := b1.drew
 have R : w1.drew.heap[w.heap.size]? = some (.cells Ze 45 (0, 0)) := t1
 change wpAnyH _ _ _ _ _ _ _ _ w1.drew
 clear m1 b1 t1
 generalize w1.drew = w2 at T D R ⊢
 refine tk 0 (.pointer (some ⟨b, 2, none⟩)) rfl (fun w' hS => by go_simp) T (fun K hK => ?_); go_simp; refine hK _ _ ?_; clear hK K
 refine tk 1 (.string ⟨dn.toArray⟩) rfl (fun w' hS => by have q := (cell_of_heap hS 2).trans G2.out; go_simp) T (fun K hK => ?_); go_simp; refine hK _ _ ?_; clear hK K
 refine tk 3 (.pointer (some ⟨b, 15, none⟩)) rfl (fun w' hS => by go_simp) T (fun K hK => ?_); go_simp; refine hK _ _ ?_; clear hK K
 refine tk 4 (.string ⟨rdn.toArray⟩) rfl (fun w' hS => by have q := (cell_of_heap hS 15).trans G15.out; go_simp) T (fun K hK => ?_); go_simp; refine hK _ _ ?_; clear hK K
 refine tk 6 (.pointer (some ⟨b, 17, none⟩)) rfl (fun w' hS => by go_simp) T (fun K hK => ?_); go_simp; refine hK _ _ ?_; clear hK K
 refine tk 7 (.bool dl) rfl (fun w' hS => by have q := (cell_of_heap hS 17).trans G17.out; go_simp) T (fun K hK => ?_); go_simp; refine hK _ _ ?_; clear hK K
 have kc := mstr_any dn w2
 refine anyH_one 2 (by kernel_rfl) rfl (by rfl) (fun K hK => ?_); go_simp; go_wp2_with fail
 refine Calls.mono kc ?_
 rintro e w3 ⟨rfl, hb⟩
 have T9 := (hb.block _ (gl T)).trans T
 have D9 := D.trans (hb.mono D.size)
 have R9 := (hb.block _ (gl R)).trans R
 clear kc hb T D R
 have T := T9
 have D := D9
 have R := R9
 clear T9 D9 R9
 refine hK _ _ T ?_; clear hK K
 have kc := mstr_any rdn w3
 refine anyH_one 5 (by kernel_rfl) rfl (by rfl) (fun K hK => ?_); go_simp; go_wp2_with fail
 refine Calls.mono kc ?_
 rintro e w4 ⟨rfl, hb⟩
 have T9 := (hb.block _ (gl T)).trans T
 have D9 := D.trans (hb.mono D.size)
 have R9 := (hb.block _ (gl R)).trans R
 clear kc hb T D R
 have T := T9
 have D := D9
 have R := R9
 clear T9 D9 R9
 refine hK _ _ T ?_; clear hK K
 have kc := Bool_any 1 dl w4
 refine anyH_one 8 (by kernel_rfl) rfl (by rfl) (fun K hK => ?_); go_simp; go_wp2_with fail
 refine Calls.mono kc ?_
 rintro e w5 ⟨⟨u5, rfl, hu5⟩, hb⟩
 obtain ⟨a5, c5, rfl⟩ := hu5.empty
 clear hu5
 have T9 := (hb.block _ (gl T)).trans T
 have D9 := D.trans (hb.mono D.size)
 have R9 := (hb.block _ (gl R)).trans R
 clear kc hb T D R
 have T := T9
 have D := D9
 have R := R9
 clear T9 D9 R9
 refine hK _ _ T ?_; clear hK K
 simp only [elA, El.cls, El.tag, El.cons, El.bytes]
 have hb : Below w5.heap.size w5 (w5.alloc (.cells #[.int .i64 0, .int .i64 4, .bool false, .string ⟨dn.toArray⟩, .slice none 0 0, .int .i64 0, .int .i64 4, .bool false, .string ⟨rdn.toArray⟩, .slice none 0 0, .int .i64 0, .int .i64 1, .bool false, .string ⟨((blB dl)).toArray⟩, .slice a5 0 c5] 45)) := (Below.refl _ _).alloc (Nat.le_refl _) _
 have x : (w5.alloc (.cells #[.int .i64 0, .int .i64 4, .bool false, .string ⟨dn.toArray⟩, .slice none 0 0, .int .i64 0, .int .i64 4, .bool false, .string ⟨rdn.toArray⟩, .slice none 0 0, .int .i64 0, .int .i64 1, .bool false, .string ⟨((blB dl)).toArray⟩, .slice a5 0 c5] 45)).heap[w5.heap.size]? = some (.cells #[.int .i64 0, .int .i64 4, .bool false, .string ⟨dn.toArray⟩, .slice none 0 0, .int .i64 0, .int .i64 4, .bool false, .string ⟨rdn.toArray⟩, .slice none 0 0, .int .i64 0, .int .i64 1, .bool false, .string ⟨((blB dl)).toArray⟩, .slice a5 0 c5] 45 (0, 0)) := alloc_at _ _ _ rfl
 have z : w.heap.size + 1 ≤ w5.heap.size := (gl R)
 have o6 : OwnK (w.heap.size + 1) (w5.alloc (.cells #[.int .i64 0, .int .i64 4, .bool false, .string ⟨dn.toArray⟩, .slice none 0 0, .int .i64 0, .int .i64 4, .bool false, .string ⟨rdn.toArray⟩, .slice none 0 0, .int .i64 0, .int .i64 1, .bool false, .string ⟨((blB dl)).toArray⟩, .slice a5 0 c5] 45)) (.slice (some ⟨w5.heap.size, 0, none⟩) 3 3) [.mk 0 4 false dn [], .mk 0 4 false rdn [], .mk 0 1 false (blB dl) []] :=
  OwnK.flat (l := [.mk 0 4 false dn [], .mk 0 4 false rdn [], .mk 0 1 false (blB dl) []]) (us := [.slice none 0 0, .slice none 0 0, .slice a5 0 c5]) x (by simp [flatE, El.cls, El.tag, El.cons, El.bytes]) rfl z (by simp) (fun j e u q1 q2 => by
   have h3 : j = 0 ∨ j = 1 ∨ j = 2 := by have h9 := (List.getElem?_eq_some_iff.1 q1).1; simp at h9; omega
   rcases h3 with rfl | rfl | rfl
   all_goals (simp at q1 q2; subst q1; subst q2; exact KidsAt.no _ _ _ _))
 have T9 := (hb.block _ (gl T)).trans T
 have D9 := D.trans (hb.mono D.size)
 have R9 := (hb.block _ (gl R)).trans R
 clear hb x z T D R
 refine anyH_one 9 (by kernel_rfl) rfl (by rfl) (fun K hK => ?_); go_simp; refine hK _ _ T9 ?_; clear hK K
 generalize (w5.alloc (.cells #[.int .i64 0, .int .i64 4, .bool false, .string ⟨dn.toArray⟩, .slice none 0 0, .int .i64 0, .int .i64 4, .bool false, .string ⟨rdn.toArray⟩, .slice none 0 0, .int .i64 0, .int .i64 1, .bool false, .string ⟨((blB dl)).toArray⟩, .slice a5 0 c5] 45)) = w6 at T9 D9 R9 o6 ⊢
 generalize w5.heap.size = y at o6 ⊢
 refine anyH_one 10 (by kernel_rfl) rfl (by rfl) (fun K hK => ?_); go_simp; refine hK _ _ T9 ?_; clear hK K
 refine wpAnyH_done (by kernel_rfl) ?_ _
 simp only [Exit.then]
 refine ‹∀ (a : Act) (w : World), Code.wp _ _ _ a w → _› _ _ ?_
 have m6 := T9
 have b6 := D9
 have t6 := R9
 clear T9 D9 R9
 have q18 := (cell_of_heap m6 18).trans G18.out
 go_upto_region 3 with fail
 clear q18
 have q := (cell_of_heap m6 16).trans G16.out
 have kc := mstr_any sup w6
 go_wp2_with fail
 refine Calls.mono kc ?_
 rintro e w7 ⟨rfl, hb⟩
 have t7 := (hb.block _ (gl t6)).trans t6
 have m7 := (hb.block _ (gl m6)).trans m6
 have b7 := b6.trans (hb.mono b6.size)
 have o7 := o6.below hb
 clear hb t6 m6 b6 o6 kc q
 have kc := ctx_any (.mk 0 4 false sup []) (.slice none 0 0) 0 w7 (KidsAt.nil _ _) (by simp [SmE, SmL]; exact hp)
 go_wp2_with fail
 refine Calls.mono kc ?_
 rintro e w8 ⟨⟨u, rfl, hu⟩, hb⟩
 obtain ⟨ae8, ce8, rfl⟩ := hu.empty
 have t8 := (hb.block _ (gl t7)).trans t7
 have m8 := (hb.block _ (gl m7)).trans m7
 have b8 := b7.trans (hb.mono b7.size)
 have o8 := o7.below hb
 clear hb t7 m7 b7 o7 kc hu
 simp only [elA, El.cls, El.tag, El.cons, El.bytes]
 have hb : Below w8.heap.size w8 (w8.alloc (.cells #[.int .i64 2, .int .i64 0, .bool false, .string ⟨sup.toArray⟩, .slice ae8 0 ce8] 45)) := (Below.refl _ _).alloc (Nat.le_refl _) _
 have x : (w8.alloc (.cells #[.int .i64 2, .int .i64 0, .bool false, .string ⟨sup.toArray⟩, .slice ae8 0 ce8] 45)).heap[w8.heap.size]? = some (.cells (elA (.mk 2 0 false sup []) (.slice ae8 0 ce8)) 45 (0, 0)) := alloc_at _ _ _ rfl
 have t9 := (hb.block _ (gl t8)).trans t8
 have m9 := (hb.block _ (gl m8)).trans m8
 have b9 := b8.trans (hb.mono b8.size)
 have o9 := o8.below hb
 clear hb t8 m8 b8 o8 
 have hs := b9.size
 have z := (gl t9)
 have zm := (gl m9)
 have T9 := hid t9
 have M9 := hid m9
 have B9 := hid b9
 have O9 := hid o9
 have X := hid x
 clear x t9 m9 b9 o9
 go_wp2_with (at_builtin; refine wpList_append_el rfl (.tmp 15) (.tmp 20) rfl (w.heap.size + 1) (.slice (some ⟨y, 0, none⟩) 3 3) [.mk 0 4 false dn [], .mk 0 4 false rdn [], .mk 0 1 false (blB dl) []] rfl O9.out (.mk 2 0 false sup []) ae8 0 ce8 w8.heap.size rfl X.out (KidsAt.no _ _ _ _) (by simp) (by omega) ?_; intro a10 c10 w10 o10 hg; have m10 := (hg.block b zm (fun h => by have := (O9.out.lt h.symm).1; omega)).trans M9.out; have t10 := (hg.block w.heap.size z (fun h => by have := (O9.out.lt h.symm).1; omega)).trans T9.out; have b10 := B9.out.grown hg hs (fun b hb => by have := (O9.out.lt hb).1; omega); clear hg hs z zm X T9 M9 B9 O9; simp only [List.cons_append, List.nil_append, List.length_cons, List.length_nil, Nat.zero_add, Nat.reduceAdd] at o10 ⊢)
 have kc := Seq_any [.mk 0 4 false dn [], .mk 0 4 false rdn [], .mk 0 1 false (blB dl) [], .mk 2 0 false sup []] _ w10 o10.kids (by simp [SmE, SmL]; exact ⟨hd, hr, by cases dl <;> simp [blB], hp⟩) (by simp)
 clear o10
 go_wp2_with fail
 refine Calls.mono kc ?_
 rintro e w11 ⟨⟨u, rfl, hu⟩, hb⟩
 have z := (gl t10)
 have t11 := (hb.block _ (gl t10)).trans t10
 have m11 := (hb.block _ (gl m10)).trans m10
 have b11 := b10.trans (hb.mono b10.size)
 clear hb t10 m10 b10 kc
 obtain ⟨E, hE⟩ : ∃ E, elA (El.mk 0 16 true [] [.mk 0 4 false dn [], .mk 0 4 false rdn [], .mk 0 1 false (blB dl) [], .mk 2 0 false sup []]) u = E := ⟨_, rfl⟩
 have hE1 : E.all (·.oneCell') = true := by
  obtain ⟨a, c, hsl⟩ := hu.shape
  subst hsl
  rw [← hE]; simp [elA, Value.oneCell']
 have hE2 : E.size = 5 := by rw [← hE]; rfl
 rw [hE]
 have hsz := (gl t11)
 have bF := below_row b11 (g := w.heap.size) (Nat.le_refl _) E
 have tF := setRow_heap w11 w.heap.size _ E _ _ t11
 have uF : KidsAt (fun g => w.heap.size ≤ g) (w11.setRow w.heap.size E) u (El.mk 0 16 true [] [.mk 0 4 false dn [], .mk 0 4 false rdn [], .mk 0 1 false (blB dl) [], .mk 2 0 false sup []]).kids := hu.kept fun g hg hl => ⟨setRow_other w11 w.heap.size g E (by omega), by omega⟩
 have HE := hid hE
 have HE1 := hid hE1
 have HE2 := hid hE2
 have UF := hid uF
 clear hu hE hE1 hE2 uF b11
 go_wp2_with (refine wpList_storeRow rfl 45 (.tmp 1) (.tmp 23) rfl w.heap.size 45 _ E (by rfl) (by rfl) t11 (by rw [HE2.out]; rfl) (by rw [HE2.out]; rfl) HE1.out ?_)
 refine bodyPost_ret (v := .agg E) ?_ rfl ⟨⟨u, by rw [← HE.out] <;> rfl, UF.out⟩, bF⟩
 have hr := run_loadVar_row (P := Tryz.prog) (w11.setRow w.heap.size E) w.heap.size 45 45 E (0, 0) _ tF (show Tryz.prog.underlying 45 = _ from Tryz.underlying45) (by rfl) (by rw [HE2.out]; rfl)
 simp [results, Tryz.f124]
 exact hr
end Go.Proofs.YthjaiigijbjloaaGreatDoor
