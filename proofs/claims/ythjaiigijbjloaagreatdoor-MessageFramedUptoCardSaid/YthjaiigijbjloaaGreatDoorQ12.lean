/- MsR, OpR. -/
import Derived.Deep.Cut
import Derived.Test.YthjaiigijbjloaaGreatDoorQ11
namespace Go.Proofs.YthjaiigijbjloaaGreatDoor
open Go.RowKit Go.Lib
theorem slots_list (t : Array Value) : t.toList = (List.range t.size).map fun i => t.getD i undef := by
 refine List.ext_getElem? fun i => ?_
 rcases Nat.lt_or_ge i t.size with h | h
 ·simp [h]
 ·simp [h]
theorem slots74 {t : Array Value} (h : t.size = 74) : ∃ x0 x1 x2 x3 x4 x5 x6 x7 x8 x9 x10 x11 x12 x13 x14 x15 x16 x17 x18 x19 x20 x21 x22 x23 x24 x25 x26 x27 x28 x29 x30 x31 x32 x33 x34 x35 x36 x37 x38 x39 x40 x41 x42 x43 x44 x45 x46 x47 x48 x49 x50 x51 x52 x53 x54 x55 x56 x57 x58 x59 x60 x61 x62 x63 x64 x65 x66 x67 x68 x69 x70 x71 x72 x73, t = #[x0, x1, x2, x3, x4, x5, x6, x7, x8, x9, x10, x11, x12, x13, x14, x15, x16, x17, x18, x19, x20, x21, x22, x23, x24, x25, x26, x27, x28, x29, x30, x31, x32, x33, x34, x35, x36, x37, x38, x39, x40, x41, x42, x43, x44, x45, x46, x47, x48, x49, x50, x51, x52, x53, x54, x55, x56, x57, x58, x59, x60, x61, x62, x63, x64, x65, x66, x67, x68, x69, x70, x71, x72, x73] := by
 have q := slots_list t
 rw [h] at q
 exact ⟨_, _, _, _, _, _, _, _, _, _, _, _, _, _, _, _, _, _, _, _, _, _, _, _, _, _, _, _, _, _, _, _, _, _, _, _, _, _, _, _, _, _, _, _, _, _, _, _, _, _, _, _, _, _, _, _, _, _, _, _, _, _, _, _, _, _, _, _, _, _, _, _, _, _, by rw [← Array.toArray_toList (xs := t), q]; rfl⟩
set_option maxRecDepth 100000 in
set_option maxHeartbeats 4000000 in
theorem op_known (x : OpX) (A : Array Value) (w : World) (i : Nat) (k : Int) (hL : (i, k) ∈ opL) (el : El) (hs : SmE el) (hx : x.M = w.heap.size)
  (h1 : A[1]? = some (.int .i64 k)) (h2 : A[2]? = some (.string ⟨x.dn.toArray⟩)) (h13 : A[13]? = some x.vm) (h14 : A[14]? = some x.va) (h19 : A[19]? = some (.string ⟨x.typ.toArray⟩)) (h20 : A[20]? = some (.string ⟨x.value.toArray⟩))
  (styp : x.typ.length ≤ 1000000000) (sval : x.value.length ≤ 1000000000)
  (hmods : ∀ w', Below w.heap.size w w' → Calls Tryz.prog 121 #[x.vm] w' fun e w'' => (∃ v, e = .returned v ∧ SeqV x.lm v w'') ∧ Below w'.heap.size w' w'')
  (hattrs : ∀ w', Below w.heap.size w w' → Calls Tryz.prog 122 #[x.va] w' fun e w'' => (∃ v, e = .returned v ∧ SeqV x.la v w'') ∧ Below w'.heap.size w' w'')
  (hc : ∀ v w', opV x i v w' → Below w.heap.size w w' → w'.heap[w.heap.size]? = some (.cells A 28 (0, 0)) → ∃ fn cap, v = .func (.func fn) #[] cap ∧ (∀ args W, (callFunc fn args).run Tryz.prog W = .ok (.enter fn args) W) ∧
   Calls Tryz.prog fn cap w' fun e w'' => (∃ u, e = .returned (.agg (elA el u)) ∧ KidsAt (fun _ => True) w'' u el.kids) ∧ Below w'.heap.size w' w'') :
  Calls Tryz.prog 73 #[.agg A] w fun e w' => (∃ u, e = .returned (.agg (elA (.mk 1 k el.cons el.bytes el.kids) u)) ∧ KidsAt (fun g => w.heap.size ≤ g) w' u el.kids) ∧ Below w.heap.size w w' := by
 obtain ⟨PR, hPR⟩ : ∃ PR : Ending → World → Prop, PR = fun e w' => (∃ u, e = .returned (.agg (elA (.mk 1 k el.cons el.bytes el.kids) u)) ∧ KidsAt (fun g => w.heap.size ≤ g) w' u el.kids) ∧ Below w.heap.size w w' := ⟨_, rfl⟩
 rw [← hPR]
 have HPR := hid hPR
 clear hPR
 have b1 : Below w.heap.size w ((w.alloc (.cells A 28)).alloc (.cells Ze 45)) := ((Below.refl _ _).alloc (Nat.le_refl _) _).alloc (by simp) _
 have m1 : ((w.alloc (.cells A 28)).alloc (.cells Ze 45)).heap[w.heap.size]? = some (.cells A 28 (0, 0)) := (alloc_old _ _ _ (by simp)).trans (alloc_at _ _ _ rfl)
 have t1 : ((w.alloc (.cells A 28)).alloc (.cells Ze 45)).heap[w.heap.size + 1]? = some (.cells Ze 45 (0, 0)) := alloc_at _ _ _ (by simp)
 have z1 : ((w.alloc (.cells A 28)).alloc (.cells Ze 45)).heap.size = w.heap.size + 2 := by simp
 have Z1 := hid z1
 clear z1
 have G1 := hid h1
 clear h1
 have HC := hid hc
 clear hc
 have M : OpM x ((w.alloc (.cells A 28)).alloc (.cells Ze 45)) := by
  have hcell : ∀ j, ((w.alloc (.cells A 28)).alloc (.cells Ze 45)).cell? ⟨x.M, j, none⟩ = A[j]? := fun j => by rw [hx]; exact cell_of_heap m1 j
  refine ⟨(hcell 2).trans h2, (hcell 13).trans h13, (hcell 14).trans h14, (hcell 19).trans h19, (hcell 20).trans h20, fun w' hb => hmods w' (b1.trans (hb.mono b1.size)), fun w' hb => hattrs w' (b1.trans (hb.mono b1.size)), styp, sval⟩
 clear h2 h13 h14 h19 h20 styp sval hmods hattrs
 go_enter Tryz.func73, Tryz.ntmps73
 go_upto_region 1 with fail
 generalize (w.alloc (.cells A 28)).alloc (.cells Ze 45) = w1 at b1 m1 t1 Z1 M ⊢
 go_upto_region 2 with fail
 refine wp_region_any (by kernel_rfl) ?_
 refine op_region (x := x) (E := .pointer (some ⟨w.heap.size + 1, 0, none⟩)) (w0 := w1) M (by kernel_rfl) (by kernel_rfl) (by kernel_rfl) _ _ rfl (by rw [hx]; rfl) rfl rfl rfl (show Below w1.heap.size w1 w1.drew from (Below.refl _ _).drew) ?_
 intro a2 w2 r hn s1 s2 s3 s4 hd b2 hm
 obtain ⟨tmps, defers⟩ := a2
 simp only at hn s1 s2 s3 s4 hd
 subst hd
 obtain ⟨x0, x1, x2, x3, x4, x5, x6, x7, x8, x9, x10, x11, x12, x13, x14, x15, x16, x17, x18, x19, x20, x21, x22, x23, x24, x25, x26, x27, x28, x29, x30, x31, x32, x33, x34, x35, x36, x37, x38, x39, x40, x41, x42, x43, x44, x45, x46, x47, x48, x49, x50, x51, x52, x53, x54, x55, x56, x57, x58, x59, x60, x61, x62, x63, x64, x65, x66, x67, x68, x69, x70, x71, x72, x73, rfl⟩ := slots74 hn
 clear hn
 simp only [List.getElem?_toArray, List.getElem?_cons_succ, List.getElem?_cons_zero, Option.some.injEq] at s1 s2 s3 s4
 subst s1 s2 s3 s4
 clear M
 rw [hx]
 have m2 := (b2.block _ (gl m1)).trans m1
 have t2 := (b2.block _ (gl t1)).trans t1
 have b3 := b1.trans (b2.mono b1.size)
 clear m1 t1 b1 b2
 have q1 : w2.cell? ⟨w.heap.size, 1, none⟩ = some (.int .i64 k) := (cell_of_heap m2 1).trans G1.out
 obtain ⟨es, c, hb, hq1, hq2⟩ := hm
 have hz : (zeroValue 127).run Tryz.prog w2 = .ok .nilFunc w2 := by go_simp
 have hlk := run_look (P := Tryz.prog) w2 148 3 127 r c es k .nilFunc (by kernel_rfl) (by kernel_rfl) hb (fun z hz => by obtain ⟨p, _, _, e, _⟩ := hq1 z hz; exact ⟨_, e⟩) hz
 rcases hlk with ⟨z, hz1, hz2, hrun⟩ | ⟨hno, _⟩
 rotate_left
 ·exfalso
  obtain ⟨z, hz1, hz2⟩ := hq2 (i, k) hL rfl
  exact hno z hz1 hz2
 obtain ⟨p, hp, _, hp2, hv⟩ := hq1 z hz1
 rw [hz2] at hp2
 injection hp2 with _ hp2
 have hpi : p.1 = i := by
  have : ∀ p ∈ opL, ∀ q ∈ opL, p.2 = q.2 → p.1 = q.1 := by decide
  exact this p hp (i, k) hL hp2.symm
 rw [hpi] at hv
 have HV := hid hv
 obtain ⟨v, hvz⟩ : ∃ v, z.val = v := ⟨_, rfl⟩
 rw [hvz] at hrun HV
 clear hb hq1 hq2 hz hz1 hz2 hp hp2 hpi hvz hv hL
 clear es c
 simp only [Exit.then]
 refine ‹∀ (a : Act) (w : World), Code.wp _ _ _ a w → _› _ _ ?_
 go_upto_region 6 with fail
 clear q1 hrun
 obtain ⟨fn, cap, rfl, hcf, hcall⟩ := HC.out v w2.drew (opV_hk x i v _ _ (Hk.below (Below.refl _ _).drew) HV.out) b3.drew m2
 clear HV HC
 refine wp_region_held (S := fun w' => w'.heap[w.heap.size]? = some (.cells A 28 (0, 0))) (by kernel_rfl) ?_
 have T : w2.drew.heap[w.heap.size]? = some (.cells A 28 (0, 0)) := m2
 have D : Below w.heap.size w w2.drew := b3.drew
 have R : w2.drew.heap[w.heap.size + 1]? = some (.cells Ze 45 (0, 0)) := t2
 change wpAnyH _ _ _ _ _ _ _ _ w2.drew
 clear m2 t2 b3
 generalize w2.drew = w5 at T D R hcall ⊢
 have HS := hid hs
 have HX := hid hx
 clear hs hx
 refine tk 0 (.func (.func fn) #[] cap) rfl (fun w' hS => by go_simp) T (fun K hK => ?_); go_simp; refine hK _ _ ?_; clear hK K
 refine tk 2 (.pointer (some ⟨w.heap.size, 1, none⟩)) rfl (fun w' hS => by go_simp) T (fun K hK => ?_); go_simp; refine hK _ _ ?_; clear hK K
 refine tk 3 (.int .i64 k) rfl (fun w' hS => by have q := (cell_of_heap hS 1).trans G1.out; go_simp) T (fun K hK => ?_); go_simp; refine hK _ _ ?_; clear hK K
 refine anyH_one 1 (by kernel_rfl) rfl (by rfl) (fun K hK => ?_); go_simp; go_wp2_with fail
 refine Calls.mono hcall ?_
 rintro e w6 ⟨⟨u, rfl, hu⟩, hb6⟩
 have T6 := (hb6.block _ (gl T)).trans T
 have R6 := (hb6.block _ (gl R)).trans R
 have D6 := D.trans (hb6.mono D.size)
 clear hcall hcf hb6 T R D
 refine hK _ _ T6 ?_; clear hK K
 have kc := As_any el u 1 k w6 hu HS.out
 have hs6 := (gl R6)
 refine anyH_one 4 (by kernel_rfl) rfl (by rfl) (fun K hK => ?_); go_simp; go_wp2_with fail
 refine Calls.mono kc ?_
 rintro e w7 ⟨⟨u7, rfl, hu7⟩, hb7⟩
 have T7 := (hb7.block _ (gl T6)).trans T6
 have R7 := (hb7.block _ (gl R6)).trans R6
 have D7 := D6.trans (hb7.mono D6.size)
 clear kc hb7 T6 R6 D6 hu
 refine hK _ _ T7 ?_; clear hK K
 obtain ⟨E, hE⟩ : ∃ E, elA (.mk 1 k el.cons el.bytes el.kids) u7 = E := ⟨_, rfl⟩
 have hE1 : E.all (·.oneCell') = true := by
  obtain ⟨a, c, hsl⟩ := hu7.shape
  subst hsl
  rw [← hE]; simp [elA, Value.oneCell']
 have hE2 : E.size = 5 := by rw [← hE]; rfl
 rw [hE]
 have HE := hid hE
 have HE1 := hid hE1
 have HE2 := hid hE2
 clear hE hE1 hE2
 have TF : (w7.setRow (w.heap.size + 1) E).heap[w.heap.size]? = some (.cells A 28 (0, 0)) := (setRow_other w7 (w.heap.size + 1) w.heap.size E (by omega)).trans T7
 have bF := below_row D7 (g := w.heap.size + 1) (by omega) E
 have tF := setRow_heap w7 (w.heap.size + 1) _ E _ _ R7
 have uF : KidsAt (fun g => w.heap.size ≤ g) (w7.setRow (w.heap.size + 1) E) u7 el.kids := hu7.kept fun g hg hl => ⟨setRow_other w7 (w.heap.size + 1) g E (by omega), by omega⟩
 refine anyH_one 5 (by kernel_rfl) rfl (by rfl) (fun K hK => ?_)
 refine op_storeRow 45 (.tmp 2) (.tmp 73) rfl (w.heap.size + 1) 45 _ E (by rfl) (by rfl) R7 (by rw [HE2.out]; rfl) (by rw [HE2.out]; rfl) HE1.out ?_
 refine hK _ _ TF ?_; clear hK K
 refine wpAnyH_done (by kernel_rfl) ?_ _
 simp only [Exit.then]
 refine ‹∀ (a : Act) (w : World), Code.wp _ _ _ a w → _› _ _ ?_
 clear T7 R7 D7 TF hu7
 generalize w7.setRow (w.heap.size + 1) E = wF at bF tF uF ⊢
 have UF := hid uF
 clear uF
 go_simp
 go_wp2_with fail
 refine bodyPost_ret (v := .agg E) ?_ rfl (by rw [HPR.out]; exact ⟨⟨u7, by rw [HE.out], UF.out⟩, bF⟩)
 have hr := run_loadVar_row (P := Tryz.prog) wF (w.heap.size + 1) 45 45 E (0, 0) _ tF (show Tryz.prog.underlying 45 = _ from Tryz.underlying45) (by rfl) (by rw [HE2.out]; rfl)
 simp [results, Tryz.f73]
 exact hr
set_option maxRecDepth 100000 in
set_option maxHeartbeats 4000000 in
theorem op_resp (x : OpX) (A : Array Value) (w : World) (k : Int) (hL : ∀ p ∈ opL, p.2 ≠ k) (els : List El) (hs : SmL els) (hl : els.length ≤ 1000000000) (hx : x.M = w.heap.size) (hA28 : A.size = 28)
  (h1 : A[1]? = some (.int .i64 k)) (h2 : A[2]? = some (.string ⟨x.dn.toArray⟩)) (h13 : A[13]? = some x.vm) (h14 : A[14]? = some x.va) (h19 : A[19]? = some (.string ⟨x.typ.toArray⟩)) (h20 : A[20]? = some (.string ⟨x.value.toArray⟩))
  (styp : x.typ.length ≤ 1000000000) (sval : x.value.length ≤ 1000000000)
  (hmods : ∀ w', Below w.heap.size w w' → Calls Tryz.prog 121 #[x.vm] w' fun e w'' => (∃ v, e = .returned v ∧ SeqV x.lm v w'') ∧ Below w'.heap.size w' w'')
  (hattrs : ∀ w', Below w.heap.size w w' → Calls Tryz.prog 122 #[x.va] w' fun e w'' => (∃ v, e = .returned v ∧ SeqV x.la v w'') ∧ Below w'.heap.size w' w'')
  (hans : ∀ w', Below w.heap.size w w' → Calls Tryz.prog 127 #[.agg A] w' fun e w'' => (∃ v a n c, e = .returned v ∧ v = .slice a n c ∧ KidsAt (fun _ => True) w'' v els) ∧ Below w'.heap.size w' w'') :
  Calls Tryz.prog 73 #[.agg A] w fun e w' => (∃ u, e = .returned (.agg (elA (.mk 1 k true [] els) u)) ∧ KidsAt (fun g => w.heap.size ≤ g) w' u els) ∧ Below w.heap.size w w' := by
 obtain ⟨PR, hPR⟩ : ∃ PR : Ending → World → Prop, PR = fun e w' => (∃ u, e = .returned (.agg (elA (.mk 1 k true [] els) u)) ∧ KidsAt (fun g => w.heap.size ≤ g) w' u els) ∧ Below w.heap.size w w' := ⟨_, rfl⟩
 rw [← hPR]
 have HPR := hid hPR
 clear hPR
 have b1 : Below w.heap.size w ((w.alloc (.cells A 28)).alloc (.cells Ze 45)) := ((Below.refl _ _).alloc (Nat.le_refl _) _).alloc (by simp) _
 have m1 : ((w.alloc (.cells A 28)).alloc (.cells Ze 45)).heap[w.heap.size]? = some (.cells A 28 (0, 0)) := (alloc_old _ _ _ (by simp)).trans (alloc_at _ _ _ rfl)
 have t1 : ((w.alloc (.cells A 28)).alloc (.cells Ze 45)).heap[w.heap.size + 1]? = some (.cells Ze 45 (0, 0)) := alloc_at _ _ _ (by simp)
 have z1 : ((w.alloc (.cells A 28)).alloc (.cells Ze 45)).heap.size = w.heap.size + 2 := by simp
 have Z1 := hid z1
 clear z1
 have G1 := hid h1
 clear h1
 have HC := hid hans
 clear hans
 have M : OpM x ((w.alloc (.cells A 28)).alloc (.cells Ze 45)) := by
  have hcell : ∀ j, ((w.alloc (.cells A 28)).alloc (.cells Ze 45)).cell? ⟨x.M, j, none⟩ = A[j]? := fun j => by rw [hx]; exact cell_of_heap m1 j
  refine ⟨(hcell 2).trans h2, (hcell 13).trans h13, (hcell 14).trans h14, (hcell 19).trans h19, (hcell 20).trans h20, fun w' hb => hmods w' (b1.trans (hb.mono b1.size)), fun w' hb => hattrs w' (b1.trans (hb.mono b1.size)), styp, sval⟩
 clear h2 h13 h14 h19 h20 styp sval hmods hattrs
 go_enter Tryz.func73, Tryz.ntmps73
 go_upto_region 1 with fail
 generalize (w.alloc (.cells A 28)).alloc (.cells Ze 45) = w1 at b1 m1 t1 Z1 M ⊢
 go_upto_region 2 with fail
 refine wp_region_any (by kernel_rfl) ?_
 refine op_region (x := x) (E := .pointer (some ⟨w.heap.size + 1, 0, none⟩)) (w0 := w1) M (by kernel_rfl) (by kernel_rfl) (by kernel_rfl) _ _ rfl (by rw [hx]; rfl) rfl rfl rfl (show Below w1.heap.size w1 w1.drew from (Below.refl _ _).drew) ?_
 intro a2 w2 r hn s1 s2 s3 s4 hd b2 hm
 obtain ⟨tmps, defers⟩ := a2
 simp only at hn s1 s2 s3 s4 hd
 subst hd
 obtain ⟨x0, x1, x2, x3, x4, x5, x6, x7, x8, x9, x10, x11, x12, x13, x14, x15, x16, x17, x18, x19, x20, x21, x22, x23, x24, x25, x26, x27, x28, x29, x30, x31, x32, x33, x34, x35, x36, x37, x38, x39, x40, x41, x42, x43, x44, x45, x46, x47, x48, x49, x50, x51, x52, x53, x54, x55, x56, x57, x58, x59, x60, x61, x62, x63, x64, x65, x66, x67, x68, x69, x70, x71, x72, x73, rfl⟩ := slots74 hn
 clear hn
 simp only [List.getElem?_toArray, List.getElem?_cons_succ, List.getElem?_cons_zero, Option.some.injEq] at s1 s2 s3 s4
 subst s1 s2 s3 s4
 clear M
 rw [hx]
 have m2 := (b2.block _ (gl m1)).trans m1
 have t2 := (b2.block _ (gl t1)).trans t1
 have b3 := b1.trans (b2.mono b1.size)
 clear m1 t1 b1 b2
 have q1 : w2.cell? ⟨w.heap.size, 1, none⟩ = some (.int .i64 k) := (cell_of_heap m2 1).trans G1.out
 obtain ⟨es, c, hb, hq1, hq2⟩ := hm
 have hz : (zeroValue 127).run Tryz.prog w2 = .ok .nilFunc w2 := by go_simp
 have hlk := run_look (P := Tryz.prog) w2 148 3 127 r c es k .nilFunc (by kernel_rfl) (by kernel_rfl) hb (fun z hz => by obtain ⟨p, _, _, e, _⟩ := hq1 z hz; exact ⟨_, e⟩) hz
 rcases hlk with ⟨z, hz1, hz2, hrun⟩ | ⟨-, hrun⟩
 ·exfalso
  obtain ⟨p, hp, _, hp2, _⟩ := hq1 z hz1
  rw [hz2] at hp2
  injection hp2 with _ hp2
  exact hL p hp hp2.symm
 clear hb hq1 hq2 hz hL
 clear es c
 simp only [Exit.then]
 refine ‹∀ (a : Act) (w : World), Code.wp _ _ _ a w → _› _ _ ?_
 go_upto_region 5 with fail
 clear q1 hrun
 have kc := HC.out w2 b3
 clear HC
 have HA28 := hid hA28
 clear hA28
 go_wp2_with (refine wpList_loadRow rfl 28 (.tmp 1) rfl w.heap.size 28 _ (0, 0) (by rfl) m2 _ Tryz.underlying28 rfl (by rw [HA28.out]; rfl) ?_)
 refine Calls.mono kc ?_
 rintro e w6 ⟨⟨v, av, nv, cv, rfl, hv, hkv⟩, hb6⟩
 subst hv
 have m6 := (hb6.block _ (gl m2)).trans m2
 have t6 := (hb6.block _ (gl t2)).trans t2
 have b6 := b3.trans (hb6.mono b3.size)
 clear kc hb6 m2 t2 b3
 have kc := clos_any (.slice av nv cv) w6 ⟨_, _, _, rfl⟩
 go_wp2_with fail
 refine Calls.mono kc ?_
 rintro e w8 ⟨⟨bc, rfl, hcc⟩, hb8⟩
 have m8 := (hb8.block _ (gl m6)).trans m6
 have t8 := (hb8.block _ (gl t6)).trans t6
 have b8 := b6.trans (hb8.mono b6.size)
 have hkv8 := hkv.below hb8
 clear kc hb8 m6 t6 b6 hkv
 go_upto_region 6 with fail
 have hcall := clos1_any bc (.slice av nv cv) els w8.drew (by exact hcc) (hkv8.kept fun g hg _ => ⟨rfl, trivial⟩) hs hl
 clear hcc hkv8
 refine wp_region_held (S := fun w' => w'.heap[w.heap.size]? = some (.cells A 28 (0, 0))) (by kernel_rfl) ?_
 have T : w8.drew.heap[w.heap.size]? = some (.cells A 28 (0, 0)) := m8
 have D : Below w.heap.size w w8.drew := b8.drew
 have R : w8.drew.heap[w.heap.size + 1]? = some (.cells Ze 45 (0, 0)) := t8
 change wpAnyH _ _ _ _ _ _ _ _ w8.drew
 clear m8 t8 b8
 generalize w8.drew = w5 at T D R hcall ⊢
 have HS : Hid (SmE (.mk 0 16 true [] els)) := hid (by simp only [SmE]; exact ⟨by simp, hl, hs⟩)
 have HX := hid hx
 clear hs hx hl
 refine tk 0 (.func (.func 115) #[] #[.pointer (some ⟨bc, 0, none⟩)]) rfl (fun w' hS => by go_simp) T (fun K hK => ?_); go_simp; refine hK _ _ ?_; clear hK K
 refine tk 2 (.pointer (some ⟨w.heap.size, 1, none⟩)) rfl (fun w' hS => by go_simp) T (fun K hK => ?_); go_simp; refine hK _ _ ?_; clear hK K
 refine tk 3 (.int .i64 k) rfl (fun w' hS => by have q := (cell_of_heap hS 1).trans G1.out; go_simp) T (fun K hK => ?_); go_simp; refine hK _ _ ?_; clear hK K
 refine anyH_one 1 (by kernel_rfl) rfl (by rfl) (fun K hK => ?_); go_simp; go_wp2_with fail
 refine Calls.mono hcall ?_
 rintro e w6 ⟨⟨u, rfl, hu⟩, hb6⟩
 have T6 := (hb6.block _ (gl T)).trans T
 have R6 := (hb6.block _ (gl R)).trans R
 have D6 := D.trans (hb6.mono D.size)
 clear hcall hb6 T R D
 refine hK _ _ T6 ?_; clear hK K
 have kc := As_any (.mk 0 16 true [] els) u 1 k w6 (hu.mono (fun _ _ _ => trivial)) HS.out
 simp only [El.cons, El.bytes, El.kids] at kc
 have hs6 := (gl R6)
 refine anyH_one 4 (by kernel_rfl) rfl (by rfl) (fun K hK => ?_); go_simp; go_wp2_with fail
 refine Calls.mono kc ?_
 rintro e w7 ⟨⟨u7, rfl, hu7⟩, hb7⟩
 have T7 := (hb7.block _ (gl T6)).trans T6
 have R7 := (hb7.block _ (gl R6)).trans R6
 have D7 := D6.trans (hb7.mono D6.size)
 clear kc hb7 T6 R6 D6 hu
 refine hK _ _ T7 ?_; clear hK K
 obtain ⟨E, hE⟩ : ∃ E, elA (.mk 1 k true [] els) u7 = E := ⟨_, rfl⟩
 have hE1 : E.all (·.oneCell') = true := by
  obtain ⟨a, c, hsl⟩ := hu7.shape
  subst hsl
  rw [← hE]; simp [elA, Value.oneCell']
 have hE2 : E.size = 5 := by rw [← hE]; rfl
 rw [hE]
 have HE := hid hE
 have HE1 := hid hE1
 have HE2 := hid hE2
 clear hE hE1 hE2
 have TF : (w7.setRow (w.heap.size + 1) E).heap[w.heap.size]? = some (.cells A 28 (0, 0)) := (setRow_other w7 (w.heap.size + 1) w.heap.size E (by omega)).trans T7
 have bF := below_row D7 (g := w.heap.size + 1) (by omega) E
 have tF := setRow_heap w7 (w.heap.size + 1) _ E _ _ R7
 have uF : KidsAt (fun g => w.heap.size ≤ g) (w7.setRow (w.heap.size + 1) E) u7 els := hu7.kept fun g hg hl => ⟨setRow_other w7 (w.heap.size + 1) g E (by omega), by omega⟩
 refine anyH_one 5 (by kernel_rfl) rfl (by rfl) (fun K hK => ?_)
 refine op_storeRow 45 (.tmp 2) (.tmp 73) rfl (w.heap.size + 1) 45 _ E (by rfl) (by rfl) R7 (by rw [HE2.out]; rfl) (by rw [HE2.out]; rfl) HE1.out ?_
 refine hK _ _ TF ?_; clear hK K
 refine wpAnyH_done (by kernel_rfl) ?_ _
 simp only [Exit.then]
 refine ‹∀ (a : Act) (w : World), Code.wp _ _ _ a w → _› _ _ ?_
 clear T7 R7 D7 TF hu7
 generalize w7.setRow (w.heap.size + 1) E = wF at bF tF uF ⊢
 have UF := hid uF
 clear uF
 go_simp
 go_wp2_with fail
 refine bodyPost_ret (v := .agg E) ?_ rfl (by rw [HPR.out]; exact ⟨⟨u7, by rw [HE.out], UF.out⟩, bF⟩)
 have hr := run_loadVar_row (P := Tryz.prog) wF (w.heap.size + 1) 45 45 E (0, 0) _ tF (show Tryz.prog.underlying 45 = _ from Tryz.underlying45) (by rfl) (by rw [HE2.out]; rfl)
 simp [results, Tryz.f73]
 exact hr
end Go.Proofs.YthjaiigijbjloaaGreatDoor
