/- MsR, OpR, OpS, MsC, MsD, MsF, MsG, MsJ. -/
import Derived.Deep.Cut
import Derived.Deep.CutRange
import Derived.Deep.CutBlock
import Derived.Test.YthjaiigijbjloaaGreatDoorT3
namespace Go.Proofs.YthjaiigijbjloaaGreatDoor
open Go.RowKit Go.Lib
set_option maxRecDepth 100000
set_option maxHeartbeats 16000000
theorem pz (t : Array Value) : t.toList = (List.range t.size).map fun i => t.getD i undef := by
 refine List.ext_getElem? fun i => ?_
 rcases Nat.lt_or_ge i t.size with h | h
 ·simp [h]
 ·simp [h]
theorem oy {t : Array Value} (h : t.size = 74) : ∃ x0 x1 x2 x3 x4 x5 x6 x7 x8 x9 x10 x11 x12 x13 x14 x15 x16 x17 x18 x19 x20 x21 x22 x23 x24 x25 x26 x27 x28 x29 x30 x31 x32 x33 x34 x35 x36 x37 x38 x39 x40 x41 x42 x43 x44 x45 x46 x47 x48 x49 x50 x51 x52 x53 x54 x55 x56 x57 x58 x59 x60 x61 x62 x63 x64 x65 x66 x67 x68 x69 x70 x71 x72 x73, t = #[x0, x1, x2, x3, x4, x5, x6, x7, x8, x9, x10, x11, x12, x13, x14, x15, x16, x17, x18, x19, x20, x21, x22, x23, x24, x25, x26, x27, x28, x29, x30, x31, x32, x33, x34, x35, x36, x37, x38, x39, x40, x41, x42, x43, x44, x45, x46, x47, x48, x49, x50, x51, x52, x53, x54, x55, x56, x57, x58, x59, x60, x61, x62, x63, x64, x65, x66, x67, x68, x69, x70, x71, x72, x73] := by
 have q := pz t;rw [h] at q;exact ⟨_, _, _, _, _, _, _, _, _, _, _, _, _, _, _, _, _, _, _, _, _, _, _, _, _, _, _, _, _, _, _, _, _, _, _, _, _, _, _, _, _, _, _, _, _, _, _, _, _, _, _, _, _, _, _, _, _, _, _, _, _, _, _, _, _, _, _, _, _, _, _, _, _, _, by rw [← Array.toArray_toList (xs := t), q]; rfl⟩
theorem dG (x : OpX) (A : Array Value) (w : World) (i : Nat) (k : Int) (hL : (i, k) ∈ opL) (el : El) (hs : SmE el) (hx : x.M = w.heap.size)
  (h1 : A[1]? = some (.int .i64 k)) (h2 : A[2]? = some (.string ⟨x.dn.toArray⟩)) (h13 : A[13]? = some x.vm) (h14 : A[14]? = some x.va) (h19 : A[19]? = some (.string ⟨x.typ.toArray⟩)) (h20 : A[20]? = some (.string ⟨x.value.toArray⟩))
  (styp : x.typ.length ≤ 1000000000) (sval : x.value.length ≤ 1000000000)
  (hmods : ∀ w', Below w.heap.size w w' → Calls Tryz.prog 121 #[x.vm] w' fun e w'' => (∃ v, e = .returned v ∧ eM x.lm v w'') ∧ Below w'.heap.size w' w'')
  (hattrs : ∀ w', Below w.heap.size w w' → Calls Tryz.prog 122 #[x.va] w' fun e w'' => (∃ v, e = .returned v ∧ eM x.la v w'') ∧ Below w'.heap.size w' w'')
  (hc : ∀ v w', opV x i v w' → Below w.heap.size w w' → w'.heap[w.heap.size]? = some (.cells A 28 (0, 0)) → ∃ fn cap, v = .func (.func fn) #[] cap ∧ (∀ args W, (callFunc fn args).run Tryz.prog W = .ok (.enter fn args) W) ∧
   Calls Tryz.prog fn cap w' fun e w'' => (∃ u, e = .returned (.agg (elA el u)) ∧ bf (fun _ => True) w'' u el.kids) ∧ Below w'.heap.size w' w'') :
  Calls Tryz.prog 73 #[.agg A] w fun e w' => (∃ u, e = .returned (.agg (elA (.mk 1 k el.cons el.bytes el.kids) u)) ∧ bf (fun g => w.heap.size ≤ g) w' u el.kids) ∧ Below w.heap.size w w' := by
 obtain ⟨PR, hPR⟩ : ∃ PR : Ending → World → Prop, PR = fun e w' => (∃ u, e = .returned (.agg (elA (.mk 1 k el.cons el.bytes el.kids) u)) ∧ bf (fun g => w.heap.size ≤ g) w' u el.kids) ∧ Below w.heap.size w w' := ⟨_, rfl⟩
 rw [← hPR];have HPR := hid hPR;clear hPR;have b1 : Below w.heap.size w ((w.alloc (.cells A 28)).alloc (.cells Ze 45)) := ((aq _ _).alloc (ah _) _).alloc (by simp) _;have m1 : ((w.alloc (.cells A 28)).alloc (.cells Ze 45)).heap[w.heap.size]? = some (.cells A 28 (0, 0)) := (alloc_old _ _ _ (by simp)).trans (bi _ _ _ rfl);have t1 : ((w.alloc (.cells A 28)).alloc (.cells Ze 45)).heap[w.heap.size + 1]? = some (.cells Ze 45 (0, 0)) := bi _ _ _ (by simp);have z1 : ((w.alloc (.cells A 28)).alloc (.cells Ze 45)).heap.size = w.heap.size + 2 := by simp
 have Z1 := hid z1;clear z1;have G1 := hid h1;clear h1;have HC := hid hc;clear hc;have M : OpM x ((w.alloc (.cells A 28)).alloc (.cells Ze 45)) := by
  have hcell : ∀ j, ((w.alloc (.cells A 28)).alloc (.cells Ze 45)).cell? ⟨x.M, j, none⟩ = A[j]? := fun j => by rw [hx]; exact ad m1 j
  refine ⟨(hcell 2).trans h2, (hcell 13).trans h13, (hcell 14).trans h14, (hcell 19).trans h19, (hcell 20).trans h20, fun w' hb => hmods w' (b1.trans (hb.mono b1.size)), fun w' hb => hattrs w' (b1.trans (hb.mono b1.size)), styp, sval⟩
 clear h2 h13 h14 h19 h20 styp sval hmods hattrs
 go_enter Tryz.func73, Tryz.ntmps73
 go_upto_region 1 with fail
 generalize (w.alloc (.cells A 28)).alloc (.cells Ze 45) = w1 at b1 m1 t1 Z1 M ⊢
 go_upto_region 2 with fail
 refine wp_region_any (by kernel_rfl) ?_;refine lJ (x := x) (E := .pointer (some ⟨w.heap.size + 1, 0, none⟩)) (w0 := w1) M (by kernel_rfl) (by kernel_rfl) (by kernel_rfl) _ _ rfl (by rw [hx]; rfl) rfl rfl rfl (show Below w1.heap.size w1 w1.drew from (aq _ _).drew) ?_;intro a2 w2 r hn s1 s2 s3 s4 hd b2 hm;obtain ⟨tmps, defers⟩ := a2;simp only at hn s1 s2 s3 s4 hd;subst hd;obtain ⟨x0, x1, x2, x3, x4, x5, x6, x7, x8, x9, x10, x11, x12, x13, x14, x15, x16, x17, x18, x19, x20, x21, x22, x23, x24, x25, x26, x27, x28, x29, x30, x31, x32, x33, x34, x35, x36, x37, x38, x39, x40, x41, x42, x43, x44, x45, x46, x47, x48, x49, x50, x51, x52, x53, x54, x55, x56, x57, x58, x59, x60, x61, x62, x63, x64, x65, x66, x67, x68, x69, x70, x71, x72, x73, rfl⟩ := oy hn;clear hn;simp only [List.getElem?_toArray, List.getElem?_cons_succ, List.getElem?_cons_zero, Option.some.injEq] at s1 s2 s3 s4;subst s1 s2 s3 s4;clear M;rw [hx];have m2 := (b2.block _ (gl m1)).trans m1;have t2 := (b2.block _ (gl t1)).trans t1;have b3 := b1.trans (b2.mono b1.size);clear m1 t1 b1 b2;have q1 : w2.cell? ⟨w.heap.size, 1, none⟩ = some (.int .i64 k) := (ad m2 1).trans G1.out;obtain ⟨es, c, hb, hq1, hq2⟩ := hm;have hz : (zeroValue 127).run Tryz.prog w2 = .ok .nilFunc w2 := by go_simp
 have hlk := jT (P := Tryz.prog) w2 148 3 127 r c es k .nilFunc (by kernel_rfl) (by kernel_rfl) hb (fun z hz => by obtain ⟨p, _, _, e, _⟩ := hq1 z hz; exact ⟨_, e⟩) hz;rcases hlk with ⟨z, hz1, hz2, hrun⟩ | ⟨hno, _⟩;rotate_left
 ·exfalso
  obtain ⟨z, hz1, hz2⟩ := hq2 (i, k) hL rfl;exact hno z hz1 hz2
 obtain ⟨p, hp, _, hp2, hv⟩ := hq1 z hz1;rw [hz2] at hp2
 injection hp2 with _ hp2
 have hpi : p.1 = i := by
  have : ∀ p ∈ opL, ∀ q ∈ opL, p.2 = q.2 → p.1 = q.1 := by decide
  exact this p hp (i, k) hL hp2.symm
 rw [hpi] at hv;have HV := hid hv;obtain ⟨v, hvz⟩ : ∃ v, z.val = v := ⟨_, rfl⟩;rw [hvz] at hrun HV;clear hb hq1 hq2 hz hz1 hz2 hp hp2 hpi hvz hv hL;clear es c;simp only [Exit.then];refine ‹∀ (a : Act) (w : World), Code.wp _ _ _ a w → _› _ _ ?_
 go_upto_region 6 with fail
 clear q1 hrun;obtain ⟨fn, cap, rfl, hcf, hcall⟩ := HC.out v w2.drew (jn x i v _ _ (Hk.below (aq _ _).drew) HV.out) b3.drew m2;clear HV HC;refine aR (S := fun w' => w'.heap[w.heap.size]? = some (.cells A 28 (0, 0))) (by kernel_rfl) ?_;have T : w2.drew.heap[w.heap.size]? = some (.cells A 28 (0, 0)) := m2;have D : Below w.heap.size w w2.drew := b3.drew;have R : w2.drew.heap[w.heap.size + 1]? = some (.cells Ze 45 (0, 0)) := t2
 change wpAnyH _ _ _ _ _ _ _ _ w2.drew
 clear m2 t2 b3;generalize w2.drew = w5 at T D R hcall ⊢;have HS := hid hs;have HX := hid hx;clear hs hx;refine tn 0 (.func (.func fn) #[] cap) rfl (fun w' hS => by go_simp) T ?_;refine tp 2 ⟨w.heap.size, 1, none⟩ rfl T ?_;refine tn 3 (.int .i64 k) rfl (fun w' hS => by have q := (ad hS 1).trans G1.out; go_simp) T ?_;refine ao 1 rfl (fun K hK => ?_); go_simp; go_wp2_with fail
 refine ag hcall ?_;rintro e w6 ⟨⟨u, rfl, hu⟩, hb6⟩;have T6 := (hb6.block _ (gl T)).trans T;have R6 := (hb6.block _ (gl R)).trans R;have D6 := D.trans (hb6.mono D.size);clear hcall hcf hb6 T R D;refine hK _ _ T6 ?_; clear hK K
 have kc := jV el u 1 k w6 hu HS.out;have hs6 := (gl R6);refine ao 4 rfl (fun K hK => ?_); go_simp; go_wp2_with fail
 refine ag kc ?_;rintro e w7 ⟨⟨u7, rfl, hu7⟩, hb7⟩;have T7 := (hb7.block _ (gl T6)).trans T6;have R7 := (hb7.block _ (gl R6)).trans R6;have D7 := D6.trans (hb7.mono D6.size);clear kc hb7 T6 R6 D6 hu;refine hK _ _ T7 ?_; clear hK K
 obtain ⟨E, hE⟩ : ∃ E, elA (.mk 1 k el.cons el.bytes el.kids) u7 = E := ⟨_, rfl⟩;have hE1 : E.all (·.oneCell') = true := by
  obtain ⟨a, c, hsl⟩ := hu7.shape;subst hsl;rw [← hE]; simp [elA, Value.oneCell']
 have hE2 : E.size = 5 := by rw [← hE]; rfl
 rw [hE];have HE := hid hE;have HE1 := hid hE1;have HE2 := hid hE2;clear hE hE1 hE2;have TF : (w7.setRow (w.heap.size + 1) E).heap[w.heap.size]? = some (.cells A 28 (0, 0)) := (setRow_other w7 (w.heap.size + 1) w.heap.size E (by omega)).trans T7;have bF := bm D7 (g := w.heap.size + 1) (by omega) E;have tF := setRow_heap w7 (w.heap.size + 1) _ E _ _ R7;have uF : bf (fun g => w.heap.size ≤ g) (w7.setRow (w.heap.size + 1) E) u7 el.kids := hu7.kept fun g hg hl => ⟨setRow_other w7 (w.heap.size + 1) g E (by omega), by omega⟩
 refine ao 5 rfl (fun K hK => ?_);refine db 45 (.tmp 2) (.tmp 73) rfl (w.heap.size + 1) 45 _ E (by rfl) (by rfl) R7 (by rw [HE2.out]; rfl) (by rw [HE2.out]; rfl) HE1.out ?_;refine hK _ _ TF ?_; clear hK K
 refine aV (by kernel_rfl) ?_ _;simp only [Exit.then];refine ‹∀ (a : Act) (w : World), Code.wp _ _ _ a w → _› _ _ ?_;clear T7 R7 D7 TF hu7;generalize w7.setRow (w.heap.size + 1) E = wF at bF tF uF ⊢;have UF := hid uF;clear uF;go_simp
 go_wp2_with fail
 refine aH (v := .agg E) ?_ rfl (by rw [HPR.out]; exact ⟨⟨u7, by rw [HE.out], UF.out⟩, bF⟩);have hr := aJ (P := Tryz.prog) wF (w.heap.size + 1) 45 45 E (0, 0) _ tF (show Tryz.prog.underlying 45 = _ from Tryz.underlying45) (by rfl) (by rw [HE2.out]; rfl)
 simp [results, Tryz.f73]
 exact hr
theorem tr (x : OpX) (A : Array Value) (w : World) (k : Int) (hL : ∀ p ∈ opL, p.2 ≠ k) (els : List El) (hs : SmL els) (hl : els.length ≤ 1000000000) (hx : x.M = w.heap.size) (hA28 : A.size = 28)
  (h1 : A[1]? = some (.int .i64 k)) (h2 : A[2]? = some (.string ⟨x.dn.toArray⟩)) (h13 : A[13]? = some x.vm) (h14 : A[14]? = some x.va) (h19 : A[19]? = some (.string ⟨x.typ.toArray⟩)) (h20 : A[20]? = some (.string ⟨x.value.toArray⟩))
  (styp : x.typ.length ≤ 1000000000) (sval : x.value.length ≤ 1000000000)
  (hmods : ∀ w', Below w.heap.size w w' → Calls Tryz.prog 121 #[x.vm] w' fun e w'' => (∃ v, e = .returned v ∧ eM x.lm v w'') ∧ Below w'.heap.size w' w'')
  (hattrs : ∀ w', Below w.heap.size w w' → Calls Tryz.prog 122 #[x.va] w' fun e w'' => (∃ v, e = .returned v ∧ eM x.la v w'') ∧ Below w'.heap.size w' w'')
  (hans : ∀ w', Below w.heap.size w w' → Calls Tryz.prog 127 #[.agg A] w' fun e w'' => (∃ v a n c, e = .returned v ∧ v = .slice a n c ∧ bf (fun _ => True) w'' v els) ∧ Below w'.heap.size w' w'') :
  Calls Tryz.prog 73 #[.agg A] w fun e w' => (∃ u, e = .returned (.agg (elA (.mk 1 k true [] els) u)) ∧ bf (fun g => w.heap.size ≤ g) w' u els) ∧ Below w.heap.size w w' := by
 obtain ⟨PR, hPR⟩ : ∃ PR : Ending → World → Prop, PR = fun e w' => (∃ u, e = .returned (.agg (elA (.mk 1 k true [] els) u)) ∧ bf (fun g => w.heap.size ≤ g) w' u els) ∧ Below w.heap.size w w' := ⟨_, rfl⟩
 rw [← hPR];have HPR := hid hPR;clear hPR;have b1 : Below w.heap.size w ((w.alloc (.cells A 28)).alloc (.cells Ze 45)) := ((aq _ _).alloc (ah _) _).alloc (by simp) _;have m1 : ((w.alloc (.cells A 28)).alloc (.cells Ze 45)).heap[w.heap.size]? = some (.cells A 28 (0, 0)) := (alloc_old _ _ _ (by simp)).trans (bi _ _ _ rfl);have t1 : ((w.alloc (.cells A 28)).alloc (.cells Ze 45)).heap[w.heap.size + 1]? = some (.cells Ze 45 (0, 0)) := bi _ _ _ (by simp);have z1 : ((w.alloc (.cells A 28)).alloc (.cells Ze 45)).heap.size = w.heap.size + 2 := by simp
 have Z1 := hid z1;clear z1;have G1 := hid h1;clear h1;have HC := hid hans;clear hans;have M : OpM x ((w.alloc (.cells A 28)).alloc (.cells Ze 45)) := by
  have hcell : ∀ j, ((w.alloc (.cells A 28)).alloc (.cells Ze 45)).cell? ⟨x.M, j, none⟩ = A[j]? := fun j => by rw [hx]; exact ad m1 j
  refine ⟨(hcell 2).trans h2, (hcell 13).trans h13, (hcell 14).trans h14, (hcell 19).trans h19, (hcell 20).trans h20, fun w' hb => hmods w' (b1.trans (hb.mono b1.size)), fun w' hb => hattrs w' (b1.trans (hb.mono b1.size)), styp, sval⟩
 clear h2 h13 h14 h19 h20 styp sval hmods hattrs
 go_enter Tryz.func73, Tryz.ntmps73
 go_upto_region 1 with fail
 generalize (w.alloc (.cells A 28)).alloc (.cells Ze 45) = w1 at b1 m1 t1 Z1 M ⊢
 go_upto_region 2 with fail
 refine wp_region_any (by kernel_rfl) ?_;refine lJ (x := x) (E := .pointer (some ⟨w.heap.size + 1, 0, none⟩)) (w0 := w1) M (by kernel_rfl) (by kernel_rfl) (by kernel_rfl) _ _ rfl (by rw [hx]; rfl) rfl rfl rfl (show Below w1.heap.size w1 w1.drew from (aq _ _).drew) ?_;intro a2 w2 r hn s1 s2 s3 s4 hd b2 hm;obtain ⟨tmps, defers⟩ := a2;simp only at hn s1 s2 s3 s4 hd;subst hd;obtain ⟨x0, x1, x2, x3, x4, x5, x6, x7, x8, x9, x10, x11, x12, x13, x14, x15, x16, x17, x18, x19, x20, x21, x22, x23, x24, x25, x26, x27, x28, x29, x30, x31, x32, x33, x34, x35, x36, x37, x38, x39, x40, x41, x42, x43, x44, x45, x46, x47, x48, x49, x50, x51, x52, x53, x54, x55, x56, x57, x58, x59, x60, x61, x62, x63, x64, x65, x66, x67, x68, x69, x70, x71, x72, x73, rfl⟩ := oy hn;clear hn;simp only [List.getElem?_toArray, List.getElem?_cons_succ, List.getElem?_cons_zero, Option.some.injEq] at s1 s2 s3 s4;subst s1 s2 s3 s4;clear M;rw [hx];have m2 := (b2.block _ (gl m1)).trans m1;have t2 := (b2.block _ (gl t1)).trans t1;have b3 := b1.trans (b2.mono b1.size);clear m1 t1 b1 b2;have q1 : w2.cell? ⟨w.heap.size, 1, none⟩ = some (.int .i64 k) := (ad m2 1).trans G1.out;obtain ⟨es, c, hb, hq1, hq2⟩ := hm;have hz : (zeroValue 127).run Tryz.prog w2 = .ok .nilFunc w2 := by go_simp
 have hlk := jT (P := Tryz.prog) w2 148 3 127 r c es k .nilFunc (by kernel_rfl) (by kernel_rfl) hb (fun z hz => by obtain ⟨p, _, _, e, _⟩ := hq1 z hz; exact ⟨_, e⟩) hz;rcases hlk with ⟨z, hz1, hz2, hrun⟩ | ⟨-, hrun⟩
 ·exfalso
  obtain ⟨p, hp, _, hp2, _⟩ := hq1 z hz1;rw [hz2] at hp2
  injection hp2 with _ hp2
  exact hL p hp hp2.symm
 clear hb hq1 hq2 hz hL;clear es c;simp only [Exit.then];refine ‹∀ (a : Act) (w : World), Code.wp _ _ _ a w → _› _ _ ?_
 go_upto_region 5 with fail
 clear q1 hrun;have kc := HC.out w2 b3;clear HC;have HA28 := hid hA28;clear hA28
 go_wp2_with (refine bg rfl 28 (.tmp 1) rfl w.heap.size 28 _ (0, 0) (by rfl) m2 _ Tryz.underlying28 rfl (by rw [HA28.out]; rfl) ?_)
 refine ag kc ?_;rintro e w6 ⟨⟨v, av, nv, cv, rfl, hv, hkv⟩, hb6⟩;subst hv;have m6 := (hb6.block _ (gl m2)).trans m2;have t6 := (hb6.block _ (gl t2)).trans t2;have b6 := b3.trans (hb6.mono b3.size);clear kc hb6 m2 t2 b3;have kc := gK (.slice av nv cv) w6 ⟨_, _, _, rfl⟩
 go_wp2_with fail
 refine ag kc ?_;rintro e w8 ⟨⟨bc, rfl, hcc⟩, hb8⟩;have m8 := (hb8.block _ (gl m6)).trans m6;have t8 := (hb8.block _ (gl t6)).trans t6;have b8 := b6.trans (hb8.mono b6.size);have hkv8 := hkv.below hb8;clear kc hb8 m6 t6 b6 hkv
 go_upto_region 6 with fail
 have hcall := gh bc (.slice av nv cv) els w8.drew (by exact hcc) (hkv8.kept fun g hg _ => ⟨rfl, trivial⟩) hs hl;clear hcc hkv8;refine aR (S := fun w' => w'.heap[w.heap.size]? = some (.cells A 28 (0, 0))) (by kernel_rfl) ?_;have T : w8.drew.heap[w.heap.size]? = some (.cells A 28 (0, 0)) := m8;have D : Below w.heap.size w w8.drew := b8.drew;have R : w8.drew.heap[w.heap.size + 1]? = some (.cells Ze 45 (0, 0)) := t8
 change wpAnyH _ _ _ _ _ _ _ _ w8.drew
 clear m8 t8 b8;generalize w8.drew = w5 at T D R hcall ⊢;have HS : Hid (SmE (.mk 0 16 true [] els)) := hid (by simp only [SmE]; exact ⟨by simp, hl, hs⟩);have HX := hid hx;clear hs hx hl;refine tn 0 (.func (.func 115) #[] #[.pointer (some ⟨bc, 0, none⟩)]) rfl (fun w' hS => by go_simp) T ?_;refine tp 2 ⟨w.heap.size, 1, none⟩ rfl T ?_;refine tn 3 (.int .i64 k) rfl (fun w' hS => by have q := (ad hS 1).trans G1.out; go_simp) T ?_;refine ao 1 rfl (fun K hK => ?_); go_simp; go_wp2_with fail
 refine ag hcall ?_;rintro e w6 ⟨⟨u, rfl, hu⟩, hb6⟩;have T6 := (hb6.block _ (gl T)).trans T;have R6 := (hb6.block _ (gl R)).trans R;have D6 := D.trans (hb6.mono D.size);clear hcall hb6 T R D;refine hK _ _ T6 ?_; clear hK K
 have kc := jV (.mk 0 16 true [] els) u 1 k w6 (hu.mono (fun _ _ _ => trivial)) HS.out;simp only [El.cons, El.bytes, El.kids] at kc;have hs6 := (gl R6);refine ao 4 rfl (fun K hK => ?_); go_simp; go_wp2_with fail
 refine ag kc ?_;rintro e w7 ⟨⟨u7, rfl, hu7⟩, hb7⟩;have T7 := (hb7.block _ (gl T6)).trans T6;have R7 := (hb7.block _ (gl R6)).trans R6;have D7 := D6.trans (hb7.mono D6.size);clear kc hb7 T6 R6 D6 hu;refine hK _ _ T7 ?_; clear hK K
 obtain ⟨E, hE⟩ : ∃ E, elA (.mk 1 k true [] els) u7 = E := ⟨_, rfl⟩;have hE1 : E.all (·.oneCell') = true := by
  obtain ⟨a, c, hsl⟩ := hu7.shape;subst hsl;rw [← hE]; simp [elA, Value.oneCell']
 have hE2 : E.size = 5 := by rw [← hE]; rfl
 rw [hE];have HE := hid hE;have HE1 := hid hE1;have HE2 := hid hE2;clear hE hE1 hE2;have TF : (w7.setRow (w.heap.size + 1) E).heap[w.heap.size]? = some (.cells A 28 (0, 0)) := (setRow_other w7 (w.heap.size + 1) w.heap.size E (by omega)).trans T7;have bF := bm D7 (g := w.heap.size + 1) (by omega) E;have tF := setRow_heap w7 (w.heap.size + 1) _ E _ _ R7;have uF : bf (fun g => w.heap.size ≤ g) (w7.setRow (w.heap.size + 1) E) u7 els := hu7.kept fun g hg hl => ⟨setRow_other w7 (w.heap.size + 1) g E (by omega), by omega⟩
 refine ao 5 rfl (fun K hK => ?_);refine db 45 (.tmp 2) (.tmp 73) rfl (w.heap.size + 1) 45 _ E (by rfl) (by rfl) R7 (by rw [HE2.out]; rfl) (by rw [HE2.out]; rfl) HE1.out ?_;refine hK _ _ TF ?_; clear hK K
 refine aV (by kernel_rfl) ?_ _;simp only [Exit.then];refine ‹∀ (a : Act) (w : World), Code.wp _ _ _ a w → _› _ _ ?_;clear T7 R7 D7 TF hu7;generalize w7.setRow (w.heap.size + 1) E = wF at bF tF uF ⊢;have UF := hid uF;clear uF;go_simp
 go_wp2_with fail
 refine aH (v := .agg E) ?_ rfl (by rw [HPR.out]; exact ⟨⟨u7, by rw [HE.out], UF.out⟩, bF⟩);have hr := aJ (P := Tryz.prog) wF (w.heap.size + 1) 45 45 E (0, 0) _ tF (show Tryz.prog.underlying 45 = _ from Tryz.underlying45) (by rfl) (by rw [HE2.out]; rfl)
 simp [results, Tryz.f73]
 exact hr
theorem nR (b v : Nat) (A : Array Value) (dn secret : List UInt8) (w : World) (hb : w.heap[b]? = some (.cells A 28 (0, 0))) (hv : v ≤ 127) (h2 : A[2]? = some (.string ⟨dn.toArray⟩)) (h3 : A[3]? = some (.int .i64 (v : Int))) (h4 : A[4]? = some (.bool true)) (h5 : A[5]? = some (.string ⟨secret.toArray⟩)) (hd : dn.length ≤ 1000000000) (hs : secret.length ≤ 1000000000) :
  Calls Tryz.prog 116 #[.pointer (some ⟨b, 0, none⟩)] w fun e w' => (∃ u, e = .returned (.agg (elA (.mk 0 16 true [] [.mk 0 2 false [UInt8.ofNat v] [], .mk 0 4 false dn [], .mk 2 3 true [] [.mk 0 4 false secret []]]) u)) ∧ bf (fun g => w.heap.size ≤ g) w' u [.mk 0 2 false [UInt8.ofNat v] [], .mk 0 4 false dn [], .mk 2 3 true [] [.mk 0 4 false secret []]]) ∧ Below w.heap.size w w' := by
 obtain ⟨PR, hPR⟩ : ∃ PR : Ending → World → Prop, PR = fun e w' => (∃ u, e = .returned (.agg (elA (.mk 0 16 true [] [.mk 0 2 false [UInt8.ofNat v] [], .mk 0 4 false dn [], .mk 2 3 true [] [.mk 0 4 false secret []]]) u)) ∧ bf (fun g => w.heap.size ≤ g) w' u [.mk 0 2 false [UInt8.ofNat v] [], .mk 0 4 false dn [], .mk 2 3 true [] [.mk 0 4 false secret []]]) ∧ Below w.heap.size w w' := ⟨_, rfl⟩
 rw [← hPR];have HPR := hid hPR;have G2 := hid h2;have G3 := hid h3;have G4 := hid h4;have G5 := hid h5;clear hPR h2 h3 h4 h5;have hbl := (gl hb);have b1 := alb w Ze 45;have t1 := alz w Ze 45;have m1 := (b1.block _ hbl).trans hb;clear hb
 go_enter Tryz.func116, Tryz.ntmps116
 go_upto_region 1 with fail
 generalize w.alloc (.cells Ze 45) = w1 at b1 t1 m1 ⊢;have q5 : w1.cell? ⟨b, 5, none⟩ = some (.string ⟨secret.toArray⟩) := (ad m1 5).trans G5.out;have k1 := bz secret w1
 go_wp2_with fail
 refine ag k1 ?_;rintro e w2 ⟨rfl, hb2⟩;have m2 := (hb2.block _ (gl m1)).trans m1;have t2 := (hb2.block _ (gl t1)).trans t1;have b2 := b1.trans (hb2.mono b1.size);clear k1 hb2 q5 b1 t1 m1;have k2 := dt (.mk 0 4 false secret []) (Sn) 0 w2 (bf.nil _ _) (by simp [SmE, SmL]; exact hs)
 go_wp2_with fail
 refine ag k2 ?_;rintro e w3 ⟨⟨u3, rfl, hu3⟩, hb3⟩;obtain ⟨a3, c3, rfl⟩ := hu3.empty;have m3 := (hb3.block _ (gl m2)).trans m2;have t3 := (hb3.block _ (gl t2)).trans t2;have b3 := b2.trans (hb3.mono b2.size);clear k2 hb3 hu3 b2 t2 m2;simp only [elA, El.cls, El.tag, El.cons, El.bytes];have g4 := alb w3 #[.int .i64 2, I0, Bf, .string ⟨secret.toArray⟩, .slice a3 0 c3] 45;have x4 := alz w3 #[.int .i64 2, I0, Bf, .string ⟨secret.toArray⟩, .slice a3 0 c3] 45;have m4 := (g4.block _ (gl m3)).trans m3;have t4 := (g4.block _ (gl t3)).trans t3;have b4 := b3.trans (g4.mono b3.size);have hs3 := (gl t3);clear m3 t3 b3 g4
 go_upto_region 2 with fail
 generalize w3.alloc (.cells #[.int .i64 2, I0, Bf, .string ⟨secret.toArray⟩, .slice a3 0 c3] 45) = w4 at x4 m4 t4 b4 ⊢;have q4 : w4.cell? ⟨b, 4, none⟩ = some (.bool true) := (ad m4 4).trans G4.out
 go_upto_region 3 with fail
 clear q4;generalize w3.heap.size = x at x4 hs3 ⊢;have q5 := (ad m4 5).trans G5.out;have kc := bz secret w4
 go_wp2_with fail
 refine ag kc ?_;rintro e w31 ⟨rfl, hb⟩;have t31 := (hb.block _ (gl t4)).trans t4;have m31 := (hb.block _ (gl m4)).trans m4;have x31 := (hb.block _ (gl x4)).trans x4;have b31 := b4.trans (hb.mono b4.size);clear kc hb t4 m4 x4 b4 q5;simp only [elA, El.cls, El.tag, El.cons, El.bytes];have hb := alb w31 #[I0, .int .i64 4, Bf, .string ⟨secret.toArray⟩, Sn] 45;have y32 := alz w31 #[I0, .int .i64 4, Bf, .string ⟨secret.toArray⟩, Sn] 45;have t32 := (hb.block _ (gl t31)).trans t31;have m32 := (hb.block _ (gl m31)).trans m31;have x32 := (hb.block _ (gl x31)).trans x31;have b32 := b31.trans (hb.mono b31.size);have hk1 : bf (fun _ => True) (w31.alloc (.cells #[I0, .int .i64 4, Bf, .string ⟨secret.toArray⟩, Sn] 45)) (.slice (some ⟨w31.heap.size, 0, none⟩) 1 1) [.mk 0 4 false secret []] :=
  ic (P := fun _ => True) (l := [.mk 0 4 false secret []]) (us := [Sn]) y32 rfl rfl (fun j e u hj hu => by
   have h3 : j = 0 := by have h9 := (List.getElem?_eq_some_iff.1 hj).1; simp at h9; omega
   subst h3
   simp at hj hu; subst hj; subst hu; exact bf.no _ _ _ _) trivial
 have kc := cH [.mk 0 4 false secret []] _ _ hk1 (by simp [SmL, SmE]; exact hs) (by simp);clear hb t31 m31 x31 b31 y32 hk1
 go_wp2_with fail
 generalize w31.alloc (.cells #[I0, .int .i64 4, Bf, .string ⟨secret.toArray⟩, Sn] 45) = w32 at t32 m32 x32 b32 kc ⊢;refine ag kc ?_;rintro e w33 ⟨⟨u3, rfl, hu3⟩, hb⟩;have t33 := (hb.block _ (gl t32)).trans t32;have m33 := (hb.block _ (gl m32)).trans m32;have x33 := (hb.block _ (gl x32)).trans x32;have b33 := b32.trans (hb.mono b32.size);clear kc hb t32 m32 x32 b32;have hx33 := (gl x33);have kc := dt (.mk 0 16 true [] [.mk 0 4 false secret []]) u3 3 w33 (hu3.mono (fun _ _ _ => trivial)) (by simp [SmL, SmE]; exact hs);simp only [El.cons, El.bytes, El.kids] at kc;clear hu3
 go_wp2_with fail
 refine ag kc ?_;rintro e w34 ⟨⟨u4, rfl, hu4⟩, hb⟩;obtain ⟨a9, c9, hsu⟩ := hu4.shape;simp only [aG, aU] at hsu;subst hsu;have t34 := (hb.block _ (gl t33)).trans t33;have m34 := (hb.block _ (gl m33)).trans m33;have x34 := (hb.block _ (gl x33)).trans x33;have b34 := b33.trans (hb.mono b33.size);clear kc hb t33 m33 x33 b33;simp only [elA, El.cls, El.tag, El.cons, El.bytes];have hxz : w.heap.size + 1 ≤ x := by omega
 have hbx : b < x := by omega
 have hz33 : x < w33.heap.size := by have := (gl x34); exact hx33
 have m35 := (setRow_other w34 x b #[.int .i64 2, .int .i64 3, .bool true, Es, .slice a9 1 c9] (by omega)).trans m34;have t35 := (setRow_other w34 x w.heap.size #[.int .i64 2, .int .i64 3, .bool true, Es, .slice a9 1 c9] (by omega)).trans t34;have x35 := setRow_heap w34 x _ #[.int .i64 2, .int .i64 3, .bool true, Es, .slice a9 1 c9] _ _ x34;have b35 := bm b34 (g := x) (by omega) #[.int .i64 2, .int .i64 3, .bool true, Es, .slice a9 1 c9];have U : bf (fun _ => True) (w34.setRow x #[.int .i64 2, .int .i64 3, .bool true, Es, .slice a9 1 c9]) (.slice a9 1 c9) [.mk 0 4 false secret []] := hu4.kept fun g hg hl => ⟨setRow_other w34 x g #[.int .i64 2, .int .i64 3, .bool true, Es, .slice a9 1 c9] (by omega), trivial⟩
 have X34 := hid x34;clear hu4
 go_upto_region 4 with (refine bh rfl 45 (.tmp 2) (.tmp 14) rfl x 45 _ #[.int .i64 2, .int .i64 3, .bool true, Es, .slice a9 1 c9] (by rfl) (by rfl) X34.out (by rfl) (by rfl) (by simp [Value.oneCell']) ?_)
 clear X34 t34 m34 x34 b34;generalize w34.setRow x #[.int .i64 2, .int .i64 3, .bool true, Es, .slice a9 1 c9] = w4 at m35 t35 x35 b35 U ⊢;obtain ⟨m4, t4, x4, b4⟩ : _ ∧ _ ∧ _ ∧ _ := ⟨m35, t35, x35, b35⟩;clear m35 t35 x35 b35;refine aR (S := fun w' => w'.heap[b]? = some (.cells A 28 (0, 0)) ∧ w'.heap[x]? = some (.cells #[.int .i64 2, .int .i64 3, .bool true, Es, .slice a9 1 c9] 45 (0, 0))) (by kernel_rfl) ?_;have T : w4.drew.heap[b]? = some (.cells A 28 (0, 0)) ∧ w4.drew.heap[x]? = some (.cells #[.int .i64 2, .int .i64 3, .bool true, Es, .slice a9 1 c9] 45 (0, 0)) := ⟨m4, x4⟩;have D : Below w.heap.size w w4.drew := b4.drew;have R : w4.drew.heap[w.heap.size]? = some (.cells Ze 45 (0, 0)) := t4
 change wpAnyH _ _ _ _ _ _ _ _ w4.drew
 clear m4 x4 t4 b4;have U := U.kept (w' := w4.drew) (Q := fun _ => True) (fun g hg _ => ⟨rfl, trivial⟩);generalize w4.drew = w5 at T D R U ⊢;refine tp 0 ⟨b, 3, none⟩ rfl T ?_;refine tn 1 (.int .i64 (v : Int)) rfl (fun w' hS => by have q := (ad hS.1 3).trans G3.out; go_simp) T ?_;refine tp 3 ⟨b, 2, none⟩ rfl T ?_;refine tn 4 (.string ⟨dn.toArray⟩) rfl (fun w' hS => by have q := (ad hS.1 2).trans G2.out; go_simp) T ?_;refine tn 6 (.agg #[.int .i64 2, .int .i64 3, .bool true, Es, .slice a9 1 c9]) rfl (fun w' hS => by exact cU 45 (.tmp 2) rfl x 45 _ (0, 0) (by rfl) hS.2 _ Tryz.underlying45 rfl (by rfl)) T ?_;have kc := ln 2 v hv w5;refine ao 2 rfl (fun K hK => ?_); go_simp; go_wp2_with fail
 refine ag kc ?_;rintro e w6 ⟨rfl, hbn⟩;have T9 : w6.heap[b]? = some (.cells A 28 (0, 0)) ∧ w6.heap[x]? = some (.cells #[.int .i64 2, .int .i64 3, .bool true, Es, .slice a9 1 c9] 45 (0, 0)) := ⟨(hbn.block _ (gl T.1)).trans T.1, (hbn.block _ (gl T.2)).trans T.2⟩;have R9 := (hbn.block _ (gl R)).trans R;have D9 := D.trans (hbn.mono D.size);have U := U.below hbn;clear kc hbn T R D;have T := T9;have R := R9;have D := D9;clear T9 R9 D9;refine hK _ _ T ?_; clear hK K
 have kc := bz dn w6;refine ao 5 rfl (fun K hK => ?_); go_simp; go_wp2_with fail
 refine ag kc ?_;rintro e w7 ⟨rfl, hbn⟩;have T9 : w7.heap[b]? = some (.cells A 28 (0, 0)) ∧ w7.heap[x]? = some (.cells #[.int .i64 2, .int .i64 3, .bool true, Es, .slice a9 1 c9] 45 (0, 0)) := ⟨(hbn.block _ (gl T.1)).trans T.1, (hbn.block _ (gl T.2)).trans T.2⟩;have R9 := (hbn.block _ (gl R)).trans R;have D9 := D.trans (hbn.mono D.size);have U := U.below hbn;clear kc hbn T R D;have T := T9;have R := R9;have D := D9;clear T9 R9 D9;refine hK _ _ T ?_; clear hK K
 simp only [elA, El.cls, El.tag, El.cons, El.bytes];have g8 := alb w7 #[I0, .int .i64 2, Bf, .string ⟨[UInt8.ofNat v].toArray⟩, Sn, I0, .int .i64 4, Bf, .string ⟨dn.toArray⟩, Sn, .int .i64 2, .int .i64 3, .bool true, Es, .slice a9 1 c9] 45;have y8 := alz w7 #[I0, .int .i64 2, Bf, .string ⟨[UInt8.ofNat v].toArray⟩, Sn, I0, .int .i64 4, Bf, .string ⟨dn.toArray⟩, Sn, .int .i64 2, .int .i64 3, .bool true, Es, .slice a9 1 c9] 45;have T8 : (w7.alloc (.cells #[I0, .int .i64 2, Bf, .string ⟨[UInt8.ofNat v].toArray⟩, Sn, I0, .int .i64 4, Bf, .string ⟨dn.toArray⟩, Sn, .int .i64 2, .int .i64 3, .bool true, Es, .slice a9 1 c9] 45)).heap[b]? = some (.cells A 28 (0, 0)) ∧ (w7.alloc (.cells #[I0, .int .i64 2, Bf, .string ⟨[UInt8.ofNat v].toArray⟩, Sn, I0, .int .i64 4, Bf, .string ⟨dn.toArray⟩, Sn, .int .i64 2, .int .i64 3, .bool true, Es, .slice a9 1 c9] 45)).heap[x]? = some (.cells #[.int .i64 2, .int .i64 3, .bool true, Es, .slice a9 1 c9] 45 (0, 0)) := ⟨(g8.block _ (gl T.1)).trans T.1, (g8.block _ (gl T.2)).trans T.2⟩;have R8 := (g8.block _ (gl R)).trans R;have D8 := D.trans (g8.mono D.size);have U := U.below g8;clear T R D g8;refine ao 7 rfl (fun K hK => ?_); go_simp; refine hK _ _ T8 ?_; clear hK K
 generalize w7.alloc (.cells #[I0, .int .i64 2, Bf, .string ⟨[UInt8.ofNat v].toArray⟩, Sn, I0, .int .i64 4, Bf, .string ⟨dn.toArray⟩, Sn, .int .i64 2, .int .i64 3, .bool true, Es, .slice a9 1 c9] 45) = w8 at y8 T8 R8 D8 U ⊢;have hk8 : bf (fun _ => True) w8 (.slice (some ⟨w7.heap.size, 0, none⟩) 3 3) [.mk 0 2 false [UInt8.ofNat v] [], .mk 0 4 false dn [], .mk 2 3 true [] [.mk 0 4 false secret []]] :=
  ic (P := fun _ => True) (l := [.mk 0 2 false [UInt8.ofNat v] [], .mk 0 4 false dn [], .mk 2 3 true [] [.mk 0 4 false secret []]]) (us := [Sn, Sn, .slice a9 1 c9]) y8 rfl rfl (fun j e u hj hu => by
   have h3 : j = 0 ∨ j = 1 ∨ j = 2 := by have h9 := (List.getElem?_eq_some_iff.1 hj).1; simp at h9; omega
   rcases h3 with rfl | rfl | rfl
   ·simp at hj hu; subst hj; subst hu; exact bf.no _ _ _ _
   ·simp at hj hu; subst hj; subst hu; exact bf.no _ _ _ _
   ·simp at hj hu; subst hj; subst hu; exact U) trivial
 have kc := cH [.mk 0 2 false [UInt8.ofNat v] [], .mk 0 4 false dn [], .mk 2 3 true [] [.mk 0 4 false secret []]] _ w8 hk8 (by simp [SmL, SmE]; exact ⟨hd, hs⟩) (by simp);refine ao 8 rfl (fun K hK => ?_); go_simp; go_wp2_with fail
 refine ag kc ?_;rintro e w9 ⟨⟨u9, rfl, hu9⟩, hb9⟩;have T9 : w9.heap[b]? = some (.cells A 28 (0, 0)) ∧ w9.heap[x]? = some (.cells #[.int .i64 2, .int .i64 3, .bool true, Es, .slice a9 1 c9] 45 (0, 0)) := ⟨(hb9.block _ (gl T8.1)).trans T8.1, (hb9.block _ (gl T8.2)).trans T8.2⟩;have R9 := (hb9.block _ (gl R8)).trans R8;have D9 := D8.trans (hb9.mono D8.size);have hs8 := (gl R8);clear kc hb9 T8 R8 D8 y8 hk8;refine hK _ _ T9 ?_; clear hK K
 obtain ⟨E, hE⟩ : ∃ E, elA (.mk 0 16 true [] [.mk 0 2 false [UInt8.ofNat v] [], .mk 0 4 false dn [], .mk 2 3 true [] [.mk 0 4 false secret []]]) u9 = E := ⟨_, rfl⟩;have hE1 : E.all (·.oneCell') = true := by
  obtain ⟨a, c, hsl⟩ := hu9.shape;subst hsl;rw [← hE]; simp [elA, Value.oneCell']
 have hE2 : E.size = 5 := by rw [← hE]; rfl
 rw [hE];have HE := hid hE;have HE1 := hid hE1;have HE2 := hid hE2;clear hE hE1 hE2;have hwb : b ≠ w.heap.size := by omega
 have hwx : x ≠ w.heap.size := by omega
 have TF : (w9.setRow w.heap.size E).heap[b]? = some (.cells A 28 (0, 0)) ∧ (w9.setRow w.heap.size E).heap[x]? = some (.cells #[.int .i64 2, .int .i64 3, .bool true, Es, .slice a9 1 c9] 45 (0, 0)) := ⟨(setRow_other w9 w.heap.size b E hwb).trans T9.1, (setRow_other w9 w.heap.size x E hwx).trans T9.2⟩;have bF := bm D9 (g := w.heap.size) (ah _) E;have tF := setRow_heap w9 w.heap.size _ E _ _ R9;have hwl : w.heap.size < w8.heap.size := by omega
 have uF : bf (fun g => w.heap.size ≤ g) (w9.setRow w.heap.size E) u9 [.mk 0 2 false [UInt8.ofNat v] [], .mk 0 4 false dn [], .mk 2 3 true [] [.mk 0 4 false secret []]] := hu9.kept fun g hg hl => ⟨setRow_other w9 w.heap.size g E (by omega), by omega⟩
 refine ao 9 rfl (fun K hK => ?_);refine db 45 (.tmp 1) (.tmp 23) rfl w.heap.size 45 _ E (by rfl) (by rfl) R9 (by rw [HE2.out]; rfl) (by rw [HE2.out]; rfl) HE1.out ?_;refine hK _ _ TF ?_; clear hK K
 refine aV (by kernel_rfl) ?_ _;simp only [Exit.then];refine ‹∀ (a : Act) (w : World), Code.wp _ _ _ a w → _› _ _ ?_;clear T9 R9 D9 TF hu9;generalize w9.setRow w.heap.size E = wF at bF tF uF ⊢;have UF := hid uF;clear uF;go_simp
 go_wp2_with fail
 refine aH (v := .agg E) ?_ rfl (by rw [HPR.out]; exact ⟨⟨u9, by rw [HE.out], UF.out⟩, bF⟩);have hr := aJ (P := Tryz.prog) wF w.heap.size 45 45 E (0, 0) _ tF (show Tryz.prog.underlying 45 = _ from Tryz.underlying45) (by rfl) (by rw [HE2.out]; rfl)
 simp [results, Tryz.f116]
 exact hr
theorem pA (po : Nat) (w : World) :
  CallsD Tryz.prog 98 #[.pointer (some ⟨po, 0, none⟩)] .returning w fun e u' w' => e = .returned (.tuple #[]) ∧ u' = .returning ∧ w' = w := by
 refine callsD_of_wpS Tryz.func98 rfl fun c₀ cs hu => ?_
 apply wpS_seq;apply wpS_region
 simp [wpOpsS, go_sem, recoverD, hu, Tryz.ntmps98, Exit.thenS]
 refine wpS_of_wp ?_;simp only [Array.replicate, List.replicate, List.setIfInBounds_toArray, List.set]
 go_wp2
 cases c₀
 simp_all [bodyPostS, results, Tryz.results98]
theorem gN (op : Int) (b : Nat) (zs : List Int) (w : World) (hl : zs.length ≤ 1000) (hc : ∀ j, j < zs.length → w.cell? ⟨b, 0 + j, none⟩ = some (.int .i64 (zs.getD j 0))) :
  Calls Tryz.prog 59 #[.int .i64 op, .slice (some ⟨b, 0, none⟩) zs.length zs.length] w fun e w' => e = .returned (.bool (zs.contains op)) ∧ w' = w := by
 have k := Tryz.slices_Contains_int b 0 zs.length zs.length zs op w (ah _) (by omega) hc;rw [List.take_of_length_le (ah _)] at k;obtain ⟨R, hR⟩ : ∃ R, zs.contains op = R := ⟨_, rfl⟩;rw [hR] at k ⊢;clear hR hc
 go_enter Tryz.func59, Tryz.ntmps59
 go_wp2_with fail
 refine ag k ?_;rintro e w1 ⟨rfl, rfl⟩
 go_wp2_with fail
 go_ret
 exact ⟨rfl, rfl⟩
theorem pB (n most : Int) (h0 : 0 ≤ n) (h1 : n ≤ most) (w : World) : Calls Tryz.prog 40 #[.int .i64 n, .int .i64 most] w fun e w' => e = .returned (.bool true) ∧ w' = w := by
 have g1 : decide ((0 : Int) ≤ n) = true := aA h0;have g2 : decide (n ≤ most) = true := aA h1
 go_enter Tryz.func40, Tryz.ntmps40
 go_wp2_with fail
 go_ret
 exact ⟨rfl, rfl⟩
def ez : List Int := [1, 5, 7, 9, 11, 13, 15, 24]
theorem jp (op : Int) (w : World) : Cr 93 #[.int .i64 op] w (.bool (ez.contains op)) := by
 have a1 := alz w #[.int .i64 1, .int .i64 5, .int .i64 7, .int .i64 9, .int .i64 11, .int .i64 13, .int .i64 15, .int .i64 24] 3;have b1 := alb w #[.int .i64 1, .int .i64 5, .int .i64 7, .int .i64 9, .int .i64 11, .int .i64 13, .int .i64 15, .int .i64 24] 3;have kc := gN op w.heap.size [1, 5, 7, 9, 11, 13, 15, 24] (w.alloc (.cells #[.int .i64 1, .int .i64 5, .int .i64 7, .int .i64 9, .int .i64 11, .int .i64 13, .int .i64 15, .int .i64 24] 3)) (by simp) (fun j hj => by
  have h2 : j < 8 := hj;have hcases : j = 0 ∨ j = 1 ∨ j = 2 ∨ j = 3 ∨ j = 4 ∨ j = 5 ∨ j = 6 ∨ j = 7 := by omega
  rcases hcases with rfl | rfl | rfl | rfl | rfl | rfl | rfl | rfl
  ·exact (ad a1 0).trans rfl
  ·exact (ad a1 1).trans rfl
  ·exact (ad a1 2).trans rfl
  ·exact (ad a1 3).trans rfl
  ·exact (ad a1 4).trans rfl
  ·exact (ad a1 5).trans rfl
  ·exact (ad a1 6).trans rfl
  ·exact (ad a1 7).trans rfl)
 obtain ⟨R, hR⟩ : ∃ R, ([1, 5, 7, 9, 11, 13, 15, 24] : List Int).contains op = R := ⟨_, rfl⟩;rw [show ez.contains op = R from hR];rw [hR] at kc;clear hR a1
 go_enter Tryz.func93, Tryz.ntmps93
 go_wp2_with fail
 generalize w.alloc (.cells #[.int .i64 1, .int .i64 5, .int .i64 7, .int .i64 9, .int .i64 11, .int .i64 13, .int .i64 15, .int .i64 24] 3) = w1 at b1 kc ⊢;refine ag kc ?_;rintro e w2 ⟨rfl, rfl⟩
 go_wp2_with fail
 go_ret
 exact ⟨rfl, b1⟩
structure Mg where
 id : Int := 0
 op : Int := 0
 dn : List UInt8 := []
 ver : Int := 0
 sasl : Bool := false
 secret : List UInt8 := []
 scope : Int := 0
 deref : Int := 0
 size : Int := 0
 time : Int := 0
 types : Bool := false
 filt : Value := Sn
 sel : Value := Sn
 mods : Value := Sn
 attrs : Value := Sn
 newRdn : List UInt8 := []
 newSup : List UInt8 := []
 delOld : Bool := false
 hasSup : Bool := false
 typ : List UInt8 := []
 value : List UInt8 := []
 oid : List UInt8 := []
 has : Bool := false
 target : Int := 0
 code : Int := 0
 matched : List UInt8 := []
 text : List UInt8 := []
 ctl : Value := Sn
def Mg.row (m : Mg) : Array Value := #[.int .i64 m.id, .int .i64 m.op, .string ⟨m.dn.toArray⟩, .int .i64 m.ver, .bool m.sasl, .string ⟨m.secret.toArray⟩, .int .i64 m.scope, .int .i64 m.deref, .int .i64 m.size, .int .i64 m.time, .bool m.types, m.filt, m.sel, m.mods, m.attrs, .string ⟨m.newRdn.toArray⟩, .string ⟨m.newSup.toArray⟩, .bool m.delOld, .bool m.hasSup, .string ⟨m.typ.toArray⟩, .string ⟨m.value.toArray⟩, .string ⟨m.oid.toArray⟩, .bool m.has, .int .i64 m.target, .int .i64 m.code, .string ⟨m.matched.toArray⟩, .string ⟨m.text.toArray⟩, m.ctl]
def Mg.pv (m : Mg) : Array Value := #[.iface 3 (.int .i64 m.ver), .iface 9 (.string ⟨m.dn.toArray⟩), .iface 4 (.bool m.sasl), .iface 9 (.string ⟨m.secret.toArray⟩), .iface 3 (.int .i64 m.scope), .iface 3 (.int .i64 m.deref), .iface 3 (.int .i64 m.size), .iface 3 (.int .i64 m.time), .iface 4 (.bool m.types), .iface 118 (.agg #[.string ⟨m.newRdn.toArray⟩, .string ⟨m.newSup.toArray⟩, .string ⟨m.typ.toArray⟩]), .iface 119 (.agg #[.bool m.delOld, .bool m.hasSup]), .iface 120 (.agg #[.string ⟨m.value.toArray⟩, .string ⟨m.oid.toArray⟩]), .iface 4 (.bool m.has), .iface 3 (.int .i64 m.target), .iface 3 (.int .i64 m.code), .iface 120 (.agg #[.string ⟨m.matched.toArray⟩, .string ⟨m.text.toArray⟩])]
theorem lK (m : Mg) (w : World) : Cr 41 #[.agg m.row] w (.agg m.pv) := by
 generalize hA : m.row = A;have HA := hid hA;clear hA;obtain ⟨P, hP⟩ : ∃ P, m.pv = P := ⟨_, rfl⟩;have hP1 : (#[.iface 3 (.int .i64 m.ver), .iface 9 (.string ⟨m.dn.toArray⟩), .iface 4 (.bool m.sasl), .iface 9 (.string ⟨m.secret.toArray⟩), .iface 3 (.int .i64 m.scope), .iface 3 (.int .i64 m.deref), .iface 3 (.int .i64 m.size), .iface 3 (.int .i64 m.time), .iface 4 (.bool m.types), .iface 118 (.agg #[.string ⟨m.newRdn.toArray⟩, .string ⟨m.newSup.toArray⟩, .string ⟨m.typ.toArray⟩]), .iface 119 (.agg #[.bool m.delOld, .bool m.hasSup]), .iface 120 (.agg #[.string ⟨m.value.toArray⟩, .string ⟨m.oid.toArray⟩]), .iface 4 (.bool m.has), .iface 3 (.int .i64 m.target), .iface 3 (.int .i64 m.code), .iface 120 (.agg #[.string ⟨m.matched.toArray⟩, .string ⟨m.text.toArray⟩])] : Array Value) = P := hP;have hP2 : P.size = 16 := by rw [← hP]; rfl
 have hP3 : P.all (·.oneCell') = true := by rw [← hP]; simp [Mg.pv, Value.oneCell']
 rw [hP];have HP1 := hid hP1;have HP2 := hid hP2;have HP3 := hid hP3;clear hP hP1 hP2 hP3;have b1 : Below w.heap.size w ((w.alloc (.cells A 28)).alloc (.cells #[.nilIface, .nilIface, .nilIface, .nilIface, .nilIface, .nilIface, .nilIface, .nilIface, .nilIface, .nilIface, .nilIface, .nilIface, .nilIface, .nilIface, .nilIface, .nilIface] 73)) := ((aq _ _).alloc (ah _) _).alloc (by simp) _;have m1 : ((w.alloc (.cells A 28)).alloc (.cells #[.nilIface, .nilIface, .nilIface, .nilIface, .nilIface, .nilIface, .nilIface, .nilIface, .nilIface, .nilIface, .nilIface, .nilIface, .nilIface, .nilIface, .nilIface, .nilIface] 73)).heap[w.heap.size]? = some (.cells A 28 (0, 0)) := (alloc_old _ _ _ (by simp)).trans (bi _ _ _ rfl);have t1 : ((w.alloc (.cells A 28)).alloc (.cells #[.nilIface, .nilIface, .nilIface, .nilIface, .nilIface, .nilIface, .nilIface, .nilIface, .nilIface, .nilIface, .nilIface, .nilIface, .nilIface, .nilIface, .nilIface, .nilIface] 73)).heap[w.heap.size + 1]? = some (.cells #[.nilIface, .nilIface, .nilIface, .nilIface, .nilIface, .nilIface, .nilIface, .nilIface, .nilIface, .nilIface, .nilIface, .nilIface, .nilIface, .nilIface, .nilIface, .nilIface] 73 (0, 0)) := bi _ _ _ (by simp)
 go_enter Tryz.func41, Tryz.ntmps41
 refine wp_seq ?_;refine aQ ?_
 iterate 2 (refine aB rfl fun K hK => ?_; go_simp; refine hK _ _ ?_; clear hK K)
 generalize ((w.alloc (.cells A 28)).alloc (.cells #[.nilIface, .nilIface, .nilIface, .nilIface, .nilIface, .nilIface, .nilIface, .nilIface, .nilIface, .nilIface, .nilIface, .nilIface, .nilIface, .nilIface, .nilIface, .nilIface] 73)) = w1 at b1 m1 t1 ⊢;have q3 : w1.cell? ⟨w.heap.size, 3, none⟩ = some (.int .i64 m.ver) := (ad m1 3).trans (by rw [← HA.out]; rfl);have q2 : w1.cell? ⟨w.heap.size, 2, none⟩ = some (.string ⟨m.dn.toArray⟩) := (ad m1 2).trans (by rw [← HA.out]; rfl);have q4 : w1.cell? ⟨w.heap.size, 4, none⟩ = some (.bool m.sasl) := (ad m1 4).trans (by rw [← HA.out]; rfl);have q5 : w1.cell? ⟨w.heap.size, 5, none⟩ = some (.string ⟨m.secret.toArray⟩) := (ad m1 5).trans (by rw [← HA.out]; rfl);have q6 : w1.cell? ⟨w.heap.size, 6, none⟩ = some (.int .i64 m.scope) := (ad m1 6).trans (by rw [← HA.out]; rfl);have q7 : w1.cell? ⟨w.heap.size, 7, none⟩ = some (.int .i64 m.deref) := (ad m1 7).trans (by rw [← HA.out]; rfl);have q8 : w1.cell? ⟨w.heap.size, 8, none⟩ = some (.int .i64 m.size) := (ad m1 8).trans (by rw [← HA.out]; rfl);have q9 : w1.cell? ⟨w.heap.size, 9, none⟩ = some (.int .i64 m.time) := (ad m1 9).trans (by rw [← HA.out]; rfl);have q10 : w1.cell? ⟨w.heap.size, 10, none⟩ = some (.bool m.types) := (ad m1 10).trans (by rw [← HA.out]; rfl);have q15 : w1.cell? ⟨w.heap.size, 15, none⟩ = some (.string ⟨m.newRdn.toArray⟩) := (ad m1 15).trans (by rw [← HA.out]; rfl);have q16 : w1.cell? ⟨w.heap.size, 16, none⟩ = some (.string ⟨m.newSup.toArray⟩) := (ad m1 16).trans (by rw [← HA.out]; rfl);have q19 : w1.cell? ⟨w.heap.size, 19, none⟩ = some (.string ⟨m.typ.toArray⟩) := (ad m1 19).trans (by rw [← HA.out]; rfl);have q17 : w1.cell? ⟨w.heap.size, 17, none⟩ = some (.bool m.delOld) := (ad m1 17).trans (by rw [← HA.out]; rfl);have q18 : w1.cell? ⟨w.heap.size, 18, none⟩ = some (.bool m.hasSup) := (ad m1 18).trans (by rw [← HA.out]; rfl);have q20 : w1.cell? ⟨w.heap.size, 20, none⟩ = some (.string ⟨m.value.toArray⟩) := (ad m1 20).trans (by rw [← HA.out]; rfl);have q21 : w1.cell? ⟨w.heap.size, 21, none⟩ = some (.string ⟨m.oid.toArray⟩) := (ad m1 21).trans (by rw [← HA.out]; rfl);have q22 : w1.cell? ⟨w.heap.size, 22, none⟩ = some (.bool m.has) := (ad m1 22).trans (by rw [← HA.out]; rfl);have q23 : w1.cell? ⟨w.heap.size, 23, none⟩ = some (.int .i64 m.target) := (ad m1 23).trans (by rw [← HA.out]; rfl);have q24 : w1.cell? ⟨w.heap.size, 24, none⟩ = some (.int .i64 m.code) := (ad m1 24).trans (by rw [← HA.out]; rfl);have q25 : w1.cell? ⟨w.heap.size, 25, none⟩ = some (.string ⟨m.matched.toArray⟩) := (ad m1 25).trans (by rw [← HA.out]; rfl);have q26 : w1.cell? ⟨w.heap.size, 26, none⟩ = some (.string ⟨m.text.toArray⟩) := (ad m1 26).trans (by rw [← HA.out]; rfl);clear m1
 go_upto_region 1 with fail
 refine aQ ?_
 iterate 62 (refine aB rfl fun K hK => ?_; go_simp; refine hK _ _ ?_; clear hK K)
 clear q3 q2 q4 q5 q6 q7 q8 q9 q10 q15 q16 q19 q17 q18 q20 q21 q22 q23 q24 q25 q26;refine aB rfl fun K hK => ?_
 go_simp;rw [HP1.out];refine hK _ _ ?_; clear hK K
 have b2 := bm b1 (g := w.heap.size + 1) (by omega) P;have t2 := setRow_heap w1 (w.heap.size + 1) _ P _ _ t1;refine bh rfl 73 (.tmp 2) (.tmp 65) rfl (w.heap.size + 1) 73 _ P (by rfl) (by rfl) t1 (by rw [HP2.out]; rfl) (by rw [HP2.out]; rfl) HP3.out ?_;generalize w1.setRow (w.heap.size + 1) P = w2 at b2 t2 ⊢;clear b1 t1;go_simp
 go_wp2_with fail
 refine aH (v := .agg P) ?_ rfl ⟨rfl, b2⟩;have hr := aJ (P := Tryz.prog) w2 (w.heap.size + 1) 73 73 P (0, 0) (.array 16 20) t2 (show Tryz.prog.underlying 73 = _ from by rfl) (by rfl) (by rw [HP2.out]; rfl)
 simp [results, Tryz.f41]
 exact hr
end Go.Proofs.YthjaiigijbjloaaGreatDoor
