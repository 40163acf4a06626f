/- ElL. -/
import Derived.Test.YthjaiigijbjloaaGreatDoorQ29
import Derived.Test.YthjaiigijbjloaaGreatDoorQ30
namespace Go.Proofs.YthjaiigijbjloaaGreatDoor
open Go.RowKit Go.Lib
theorem shape_cases {p : Fl} (h : shapeB p = true) : (0 ≤ p.n ∧ (p.op = 0 ∨ p.op = 1 ∨ p.op = 2)) ∨ p.n = 0 ∧ (p.op = 7 ∨ p.op = 4 ∨ p.op ∉ ([0, 1, 2, 4, 7] : List Int)) := by
 by_cases hc : p.op = 0 ∨ p.op = 1 ∨ p.op = 2
 ·left
  unfold shapeB at h
  rw [if_pos hc] at h
  simp only [Bool.and_eq_true, decide_eq_true_eq] at h
  exact ⟨h.1.2, hc⟩
 ·right
  refine ⟨shapeB_n h hc, ?_⟩
  by_cases h7 : p.op = 7
  ·exact .inl h7
  by_cases h4 : p.op = 4
  ·exact .inr (.inl h4)
  simp only [not_or] at hc
  exact .inr (.inr (by simp only [List.mem_cons, List.not_mem_nil, or_false, not_or]; exact ⟨hc.1, hc.2.1, hc.2.2, h4, h7⟩))
theorem filtered_any : ∀ (k : Nat) (f r : List Fl) (v : Value) (w0 w : World), Below w0.heap.size w0 w → FlsM w0 v f → FlOk f → f.length ≤ 100 → wholeB k f = some r → Calls Tryz.prog 119 #[v] w (FiP w0 w (fltE k f).1 r)
 | 0, _, _, _, _, _, _, _, _, _, h => by cases h
 | k + 1, [], _, _, _, _, _, _, _, _, h => by cases h
 | k + 1, p :: f, r, v, w0, w, h0, hv, hok, hl, h => by
  simp only [List.length_cons] at hl
  unfold wholeB at h
  by_cases hs : shapeB p = true
  ·rw [if_pos hs] at h
   unfold fltE
   rcases shape_cases hs with ⟨hn, hc⟩ | ⟨hn, hc⟩
   ·rw [if_pos hc]
    rcases hc with hc | hc | hc
    ·have := filtered_0 k (filtered_any k) p f v w0 w h0 hv hok (by omega) r hn h hc
     simpa only [hc] using this
    ·have := filtered_1 k (filtered_any k) p f v w0 w h0 hv hok (by omega) r hn h hc
     simpa only [hc] using this
    ·have := filtered_2 k (filtered_any k) p f v w0 w h0 hv hok (by omega) r hn h hc
     simpa only [hc] using this
   ·have hnc : ¬ (p.op = 0 ∨ p.op = 1 ∨ p.op = 2) := by
     rcases hc with hc | hc | hc
     ·rw [hc]; decide
     ·rw [hc]; decide
     ·intro h2; apply hc; rcases h2 with h2 | h2 | h2 <;> rw [h2] <;> decide
    rw [if_neg hnc]
    have hr : f = r := by rw [hn] at h; simpa [iterO] using h
    subst hr
    rcases hc with hc | hc | hc
    ·exact filtered_7 p f v w0 w h0 hv hok (by omega) hc
    ·exact filtered_4 p f v w0 w h0 hv hok (by omega) hc
    ·exact filtered_leaf p f v w0 w h0 hv hok (by omega) hc
  ·rw [if_neg hs] at h; cases h
def searchK (dn : List UInt8) (scope deref size time : Nat) (types : Bool) (FE : El) (sel : List (List UInt8)) : List El :=
 [.mk 0 4 false dn [], .mk 0 10 false (sgB scope) [], .mk 0 10 false (sgB deref) [], .mk 0 2 false (sgB size) [], .mk 0 2 false (sgB time) [], .mk 0 1 false (blB types) [], FE, .mk 0 16 true [] (sel.map strE)]
theorem sm_search (dn : List UInt8) (scope deref size time : Nat) (types : Bool) (FE : El) (sel : List (List UInt8)) (hd : dn.length ≤ 1000000000) (hF : SmE FE) (hs : ∀ s ∈ sel, s.length ≤ 1000000000) (hl : sel.length ≤ 1000000000) : SmL (searchK dn scope deref size time types FE sel) := by
 have h1 := (sgB_len scope).2
 have h2 := (sgB_len deref).2
 have h3 := (sgB_len size).2
 have h4 := (sgB_len time).2
 have h5 : (blB types).length = 1 := by cases types <;> rfl
 have h6 := sm_strs sel hs
 unfold searchK
 simp only [SmL, SmE, List.length_nil, List.length_map]
 exact ⟨⟨hd, by omega, trivial⟩, ⟨by omega, by omega, trivial⟩, ⟨by omega, by omega, trivial⟩, ⟨by omega, by omega, trivial⟩, ⟨by omega, by omega, trivial⟩, ⟨by omega, by omega, trivial⟩, hF, ⟨by omega, hl, h6⟩, trivial⟩
set_option maxRecDepth 100000 in
set_option maxHeartbeats 8000000 in
theorem searchop_any (b : Nat) (A : Array Value) (dn : List UInt8) (scope deref size time : Nat) (types : Bool) (vf vs : Value) (fl : List Fl) (sel : List (List UInt8)) (w : World) (h0 : w.heap[b]? = some (.cells A 28 (0, 0)))
  (h2 : A[2]? = some (.string ⟨dn.toArray⟩)) (h6 : A[6]? = some (.int .i64 (scope : Int))) (h7 : A[7]? = some (.int .i64 (deref : Int))) (h8 : A[8]? = some (.int .i64 (size : Int))) (h9 : A[9]? = some (.int .i64 (time : Int))) (h10 : A[10]? = some (.bool types)) (h11 : A[11]? = some vf) (h12 : A[12]? = some vs)
  (hd : dn.length ≤ 1000000000) (n6 : scope ≤ 2147483647) (n7 : deref ≤ 2147483647) (n8 : size ≤ 2147483647) (n9 : time ≤ 2147483647)
  (hf : FlsM w vf fl) (hok : FlOk fl) (hfl : fl.length ≤ 100) (hwh : wholeB 20 fl = some []) (hs : StrsM w vs sel) (hsl : sel.length ≤ 100000000) (hss : ∀ s ∈ sel, s.length ≤ 1000000000) :
  Calls Tryz.prog 118 #[.pointer (some ⟨b, 0, none⟩)] w fun e w' => (∃ u, e = .returned (.agg (elA (.mk 0 16 true [] (searchK dn scope deref size time types (fltE 20 fl).1 sel)) u)) ∧ KidsAt (fun g => w.heap.size ≤ g) w' u (searchK dn scope deref size time types (fltE 20 fl).1 sel)) ∧ Below w.heap.size w w' := by
 have b1 : Below w.heap.size w (w.alloc (.cells Ze 45)) := (Below.refl _ _).alloc (Nat.le_refl _) _
 have t1 : (w.alloc (.cells Ze 45)).heap[w.heap.size]? = some (.cells Ze 45 (0, 0)) := alloc_at _ _ _ rfl
 have m1 := (b1.block _ (gl h0)).trans h0
 have hbl := (gl h0)
 have hsmf := sm_flt 20 fl [] (fun p hp => (hok.2 p hp).1) hfl hwh
 have kf := filtered_any 20 fl [] vf w (w.alloc (.cells Ze 45)) b1 hf hok hfl hwh
 obtain ⟨FE, hFE⟩ : ∃ e, (fltE 20 fl).1 = e := ⟨_, rfl⟩
 rw [hFE] at hsmf kf ⊢
 unfold FiP at kf
 have HSM := hid (sm_search dn scope deref size time types FE sel hd hsmf hss (by omega))
 have HS := hid hs
 have HSS := hid hss
 have G2 := hid h2
 have G6 := hid h6
 have G7 := hid h7
 have G8 := hid h8
 have G9 := hid h9
 have G10 := hid h10
 have G11 := hid h11
 have G12 := hid h12
 obtain ⟨af, cf, hvf⟩ := hf.shape
 obtain ⟨az, cz, hvs, -, -⟩ := hs
 subst hvf hvs
 obtain ⟨NF, hNF⟩ : ∃ n, fl.length = n := ⟨_, rfl⟩
 rw [hNF] at kf G11
 clear h0 h2 h6 h7 h8 h9 h10 h11 h12 hf hok hwh hss hFE hsmf hNF hfl
 go_enter Tryz.func118, Tryz.ntmps118
 go_upto_region 1 with fail
 have hs1 : (w.alloc (.cells Ze 45)).heap.size = w.heap.size + 1 := by simp
 have HS1 := hid hs1
 clear hs1
 generalize w.alloc (.cells Ze 45) = w1 at b1 t1 m1 kf HS1 ⊢
 have q11 := (cell_of_heap m1 11).trans G11.out
 go_wp2_with fail
 refine Calls.mono kf ?_
 rintro e w2 ⟨⟨uf, vf', rfl, hu2, -⟩, hb⟩
 obtain ⟨a2, c2, hsu⟩ := hu2.shape
 subst hsu
 have hu2 : KidsAt (fun g => w.heap.size + 1 ≤ g) w2 _ _ := hu2.mono (fun g hg _ => by have := HS1.out; omega)
 have t2 := (hb.block _ (gl t1)).trans t1
 have m2 := (hb.block _ (gl m1)).trans m1
 have b2 := b1.trans (hb.mono b1.size)
 have hz12 := hb.size
 rw [HS1.out] at hz12
 clear kf hb t1 m1 b1 q11 HS1
 obtain ⟨ec, et, ek, eb, eks⟩ := FE
 simp only [elA, El.cls, El.tag, El.cons, El.bytes, El.kids] at hu2 ⊢
 obtain ⟨E, hE⟩ : ∃ E : Array Value, #[.int .i64 ec, .int .i64 et, .bool ek, .string ⟨eb.toArray⟩, .slice a2 eks.length c2] = E := ⟨_, rfl⟩
 have hEa : E.all (·.oneCell') = true := by rw [← hE]; simp [Value.oneCell']
 have hEs : E.size = 5 := by rw [← hE]; rfl
 rw [hE]
 have HE := hid hE
 have HEa := hid hEa
 have HEs := hid hEs
 clear hE hEa hEs
 have hb : Below w2.heap.size w2 (w2.alloc (.cells E 45)) := (Below.refl _ _).alloc (Nat.le_refl _) _
 have x3 : (w2.alloc (.cells Ze 45)).heap[w2.heap.size]? = some (.cells Ze 45 (0, 0)) := alloc_at _ _ _ rfl
 obtain ⟨Y, hY⟩ : ∃ Y, w2.heap.size = Y := ⟨_, rfl⟩
 have hbz : Below w2.heap.size w2 (w2.alloc (.cells Ze 45)) := (Below.refl _ _).alloc (Nat.le_refl _) _
 have t3 := (hbz.block _ (gl t2)).trans t2
 have m3 := (hbz.block _ (gl m2)).trans m2
 have b3 := b2.trans (hbz.mono b2.size)
 have u3 : KidsAt (fun g => w.heap.size + 1 ≤ g ∧ g < Y) (w2.alloc (.cells Ze 45)) (.slice a2 eks.length c2) eks := hu2.kept fun g hg hl => ⟨hbz.block g hl, by omega, by rw [← hY]; exact hl⟩
 have hbY : b < Y := by have := (gl m2); omega
 have hwY : w.heap.size < Y := by omega
 rw [hY] at x3
 have t4 := (setRow_other (w2.alloc (.cells Ze 45)) Y w.heap.size E (by omega)).trans t3
 have m4 := (setRow_other (w2.alloc (.cells Ze 45)) Y b E (by omega)).trans m3
 have x4 := setRow_heap (w2.alloc (.cells Ze 45)) Y _ E _ _ x3
 have b4 := below_row b3 (g := Y) (by omega) E
 have u4 : KidsAt (fun g => w.heap.size + 1 ≤ g ∧ g < Y) ((w2.alloc (.cells Ze 45)).setRow Y E) (.slice a2 eks.length c2) eks := u3.kept fun g hg hl => ⟨setRow_other _ Y g E (by omega), hg⟩
 have X3 := hid x3
 have HY := hid hY
 clear hb hbz t2 m2 b2 t3 m3 b3 x3 u3 hu2 hY
 go_upto_region 2 with (first | (refine wpList_storeRow rfl 45 (.tmp 2) (.tmp 8) rfl Y 45 _ E (by rfl) (by rfl) X3.out (by rw [HEs.out]; rfl) (by rw [HEs.out]; rfl) HEa.out ?_) | (rw [HY.out]; refine wpList_storeRow rfl 45 (.tmp 2) (.tmp 8) rfl Y 45 _ E (by rfl) (by rfl) X3.out (by rw [HEs.out]; rfl) (by rw [HEs.out]; rfl) HEa.out ?_))
 try rw [HY.out]
 clear X3 HY
 generalize (w2.alloc (.cells Ze 45)).setRow Y E = w4 at t4 m4 x4 b4 u4 ⊢
 refine wp_region_held (S := fun w' => w'.heap[b]? = some (.cells A 28 (0, 0)) ∧ w'.heap[Y]? = some (.cells E 45 (0, 0))) (by kernel_rfl) ?_
 have T : w4.drew.heap[b]? = some (.cells A 28 (0, 0)) ∧ w4.drew.heap[Y]? = some (.cells E 45 (0, 0)) := ⟨m4, x4⟩
 have D : Below w.heap.size w w4.drew := b4.drew
 have R : w4.drew.heap[w.heap.size]? = some (.cells Ze 45 (0, 0)) := t4
 have U : KidsAt (fun g => w.heap.size + 1 ≤ g ∧ g < Y) w4.drew (.slice a2 eks.length c2) eks := u4.kept fun g hg hl => ⟨rfl, hg⟩
 change wpAnyH _ _ _ _ _ _ _ _ w4.drew
 clear m4 x4 b4 t4 u4
 generalize w4.drew = w5 at T D R U ⊢
 refine tk 0 (.pointer (some ⟨b, 2, none⟩)) rfl (fun w' hS => by go_simp) T (fun K hK => ?_); go_simp; refine hK _ _ ?_; clear hK K
 refine tk 1 (.string ⟨dn.toArray⟩) rfl (fun w' hS => by have q := (cell_of_heap hS.1 2).trans G2.out; go_simp) T (fun K hK => ?_); go_simp; refine hK _ _ ?_; clear hK K
 refine tk 3 (.pointer (some ⟨b, 6, none⟩)) rfl (fun w' hS => by go_simp) T (fun K hK => ?_); go_simp; refine hK _ _ ?_; clear hK K
 refine tk 4 (.int .i64 (scope : Int)) rfl (fun w' hS => by have q := (cell_of_heap hS.1 6).trans G6.out; go_simp) T (fun K hK => ?_); go_simp; refine hK _ _ ?_; clear hK K
 refine tk 6 (.pointer (some ⟨b, 7, none⟩)) rfl (fun w' hS => by go_simp) T (fun K hK => ?_); go_simp; refine hK _ _ ?_; clear hK K
 refine tk 7 (.int .i64 (deref : Int)) rfl (fun w' hS => by have q := (cell_of_heap hS.1 7).trans G7.out; go_simp) T (fun K hK => ?_); go_simp; refine hK _ _ ?_; clear hK K
 refine tk 9 (.pointer (some ⟨b, 8, none⟩)) rfl (fun w' hS => by go_simp) T (fun K hK => ?_); go_simp; refine hK _ _ ?_; clear hK K
 refine tk 10 (.int .i64 (size : Int)) rfl (fun w' hS => by have q := (cell_of_heap hS.1 8).trans G8.out; go_simp) T (fun K hK => ?_); go_simp; refine hK _ _ ?_; clear hK K
 refine tk 12 (.pointer (some ⟨b, 9, none⟩)) rfl (fun w' hS => by go_simp) T (fun K hK => ?_); go_simp; refine hK _ _ ?_; clear hK K
 refine tk 13 (.int .i64 (time : Int)) rfl (fun w' hS => by have q := (cell_of_heap hS.1 9).trans G9.out; go_simp) T (fun K hK => ?_); go_simp; refine hK _ _ ?_; clear hK K
 refine tk 15 (.pointer (some ⟨b, 10, none⟩)) rfl (fun w' hS => by go_simp) T (fun K hK => ?_); go_simp; refine hK _ _ ?_; clear hK K
 refine tk 16 (.bool types) rfl (fun w' hS => by have q := (cell_of_heap hS.1 10).trans G10.out; go_simp) T (fun K hK => ?_); go_simp; refine hK _ _ ?_; clear hK K
 refine tk 18 (.agg E) rfl (fun w' hS => by exact exec_loadRow 45 (.tmp 2) rfl Y 45 _ (0, 0) (by rfl) hS.2 _ Tryz.underlying45 rfl (by rw [HEs.out]; rfl)) T (fun K hK => ?_); go_simp; refine hK _ _ ?_; clear hK K
 refine tk 19 (.pointer (some ⟨b, 12, none⟩)) rfl (fun w' hS => by go_simp) T (fun K hK => ?_); go_simp; refine hK _ _ ?_; clear hK K
 refine tk 20 (.slice az sel.length cz) rfl (fun w' hS => by have q := (cell_of_heap hS.1 12).trans G12.out; go_simp) T (fun K hK => ?_); go_simp; refine hK _ _ ?_; clear hK K
 have kc := mstr_any dn w5
 refine anyH_one 2 (by kernel_rfl) rfl (by rfl) (fun K hK => ?_); go_simp; go_wp2_with fail
 refine Calls.mono kc ?_
 rintro e w6 ⟨rfl, hb⟩
 have T9 : w6.heap[b]? = some (.cells A 28 (0, 0)) ∧ w6.heap[Y]? = some (.cells E 45 (0, 0)) := ⟨(hb.block _ (gl T.1)).trans T.1, (hb.block _ (gl T.2)).trans T.2⟩
 have D9 := D.trans (hb.mono D.size)
 have R9 := (hb.block _ (gl R)).trans R
 have U9 := U.below hb
 clear kc hb T D R U
 have T := T9
 have D := D9
 have R := R9
 have U := U9
 clear T9 D9 R9 U9
 refine hK _ _ T ?_; clear hK K
 have kc := Int_any 10 scope n6 w6
 refine anyH_one 5 (by kernel_rfl) rfl (by rfl) (fun K hK => ?_); go_simp; go_wp2_with fail
 refine Calls.mono kc ?_
 rintro e w7 ⟨rfl, hb⟩
 have T9 : w7.heap[b]? = some (.cells A 28 (0, 0)) ∧ w7.heap[Y]? = some (.cells E 45 (0, 0)) := ⟨(hb.block _ (gl T.1)).trans T.1, (hb.block _ (gl T.2)).trans T.2⟩
 have D9 := D.trans (hb.mono D.size)
 have R9 := (hb.block _ (gl R)).trans R
 have U9 := U.below hb
 clear kc hb T D R U
 have T := T9
 have D := D9
 have R := R9
 have U := U9
 clear T9 D9 R9 U9
 refine hK _ _ T ?_; clear hK K
 have kc := Int_any 10 deref n7 w7
 refine anyH_one 8 (by kernel_rfl) rfl (by rfl) (fun K hK => ?_); go_simp; go_wp2_with fail
 refine Calls.mono kc ?_
 rintro e w8 ⟨rfl, hb⟩
 have T9 : w8.heap[b]? = some (.cells A 28 (0, 0)) ∧ w8.heap[Y]? = some (.cells E 45 (0, 0)) := ⟨(hb.block _ (gl T.1)).trans T.1, (hb.block _ (gl T.2)).trans T.2⟩
 have D9 := D.trans (hb.mono D.size)
 have R9 := (hb.block _ (gl R)).trans R
 have U9 := U.below hb
 clear kc hb T D R U
 have T := T9
 have D := D9
 have R := R9
 have U := U9
 clear T9 D9 R9 U9
 refine hK _ _ T ?_; clear hK K
 have kc := Int_any 2 size n8 w8
 refine anyH_one 11 (by kernel_rfl) rfl (by rfl) (fun K hK => ?_); go_simp; go_wp2_with fail
 refine Calls.mono kc ?_
 rintro e w9 ⟨rfl, hb⟩
 have T9 : w9.heap[b]? = some (.cells A 28 (0, 0)) ∧ w9.heap[Y]? = some (.cells E 45 (0, 0)) := ⟨(hb.block _ (gl T.1)).trans T.1, (hb.block _ (gl T.2)).trans T.2⟩
 have D9 := D.trans (hb.mono D.size)
 have R9 := (hb.block _ (gl R)).trans R
 have U9 := U.below hb
 clear kc hb T D R U
 have T := T9
 have D := D9
 have R := R9
 have U := U9
 clear T9 D9 R9 U9
 refine hK _ _ T ?_; clear hK K
 have kc := Int_any 2 time n9 w9
 refine anyH_one 14 (by kernel_rfl) rfl (by rfl) (fun K hK => ?_); go_simp; go_wp2_with fail
 refine Calls.mono kc ?_
 rintro e w10 ⟨rfl, hb⟩
 have T9 : w10.heap[b]? = some (.cells A 28 (0, 0)) ∧ w10.heap[Y]? = some (.cells E 45 (0, 0)) := ⟨(hb.block _ (gl T.1)).trans T.1, (hb.block _ (gl T.2)).trans T.2⟩
 have D9 := D.trans (hb.mono D.size)
 have R9 := (hb.block _ (gl R)).trans R
 have U9 := U.below hb
 clear kc hb T D R U
 have T := T9
 have D := D9
 have R := R9
 have U := U9
 clear T9 D9 R9 U9
 refine hK _ _ T ?_; clear hK K
 have kc := Bool_any 1 types w10
 refine anyH_one 17 (by kernel_rfl) rfl (by rfl) (fun K hK => ?_); go_simp; go_wp2_with fail
 refine Calls.mono kc ?_
 rintro e w11 ⟨⟨ub, rfl, hub⟩, hb⟩
 obtain ⟨ab, cb, rfl⟩ := hub.empty
 clear hub
 have T9 : w11.heap[b]? = some (.cells A 28 (0, 0)) ∧ w11.heap[Y]? = some (.cells E 45 (0, 0)) := ⟨(hb.block _ (gl T.1)).trans T.1, (hb.block _ (gl T.2)).trans T.2⟩
 have D9 := D.trans (hb.mono D.size)
 have R9 := (hb.block _ (gl R)).trans R
 have U9 := U.below hb
 clear kc hb T D R U
 have T := T9
 have D := D9
 have R := R9
 have U := U9
 clear T9 D9 R9 U9
 refine hK _ _ T ?_; clear hK K
 have kc := mstrs_any _ sel w11 (HS.out.below D) hsl
 refine anyH_one 21 (by kernel_rfl) rfl (by rfl) (fun K hK => ?_); go_simp; go_wp2_with fail
 refine Calls.mono kc ?_
 rintro e w12 ⟨⟨vz, rfl, hz⟩, hb⟩
 have T9 : w12.heap[b]? = some (.cells A 28 (0, 0)) ∧ w12.heap[Y]? = some (.cells E 45 (0, 0)) := ⟨(hb.block _ (gl T.1)).trans T.1, (hb.block _ (gl T.2)).trans T.2⟩
 have D9 := D.trans (hb.mono D.size)
 have R9 := (hb.block _ (gl R)).trans R
 have U9 := U.below hb
 clear kc hb T D R U
 have T := T9
 have D := D9
 have R := R9
 have U := U9
 clear T9 D9 R9 U9
 refine hK _ _ T ?_; clear hK K
 have kc := Seq_any (sel.map strE) vz w12 hz.kids (sm_strs sel HSS.out) (by simp; omega)
 obtain ⟨ay, cy, hvz⟩ := hz.shape
 simp only [List.length_map] at hvz
 subst hvz
 clear hz
 refine anyH_one 22 (by kernel_rfl) rfl (by rfl) (fun K hK => ?_); go_simp; go_wp2_with fail
 refine Calls.mono kc ?_
 rintro e w13 ⟨⟨u9, rfl, hu9⟩, hb⟩
 obtain ⟨a9, c9, hsu⟩ := hu9.shape
 simp only [List.length_map] at hsu
 subst hsu
 have T9 : w13.heap[b]? = some (.cells A 28 (0, 0)) ∧ w13.heap[Y]? = some (.cells E 45 (0, 0)) := ⟨(hb.block _ (gl T.1)).trans T.1, (hb.block _ (gl T.2)).trans T.2⟩
 have D9 := D.trans (hb.mono D.size)
 have R9 := (hb.block _ (gl R)).trans R
 have U9 := U.below hb
 clear kc hb T D R U
 have T := T9
 have D := D9
 have R := R9
 have U := U9
 clear T9 D9 R9 U9
 refine hK _ _ T ?_; clear hK K
 rw [← HE.out]
 simp only [elA, El.cls, El.tag, El.cons, El.bytes]
 have hb : Below w13.heap.size w13 (w13.alloc (.cells (List.toArray (.int .i64 0 :: .int .i64 4 :: .bool false :: .string ⟨dn.toArray⟩ :: .slice none 0 0 :: .int .i64 0 :: .int .i64 10 :: .bool false :: .string ⟨(sgB scope).toArray⟩ :: .slice none 0 0 :: .int .i64 0 :: .int .i64 10 :: .bool false :: .string ⟨(sgB deref).toArray⟩ :: .slice none 0 0 :: .int .i64 0 :: .int .i64 2 :: .bool false :: .string ⟨(sgB size).toArray⟩ :: .slice none 0 0 :: .int .i64 0 :: .int .i64 2 :: .bool false :: .string ⟨(sgB time).toArray⟩ :: .slice none 0 0 :: .int .i64 0 :: .int .i64 1 :: .bool false :: .string ⟨(blB types).toArray⟩ :: .slice ab 0 cb :: .int .i64 ec :: .int .i64 et :: .bool ek :: .string ⟨eb.toArray⟩ :: .slice a2 eks.length c2 :: .int .i64 0 :: .int .i64 16 :: .bool true :: .string ⟨#[]⟩ :: .slice a9 sel.length c9 :: [])) 45)) := (Below.refl _ _).alloc (Nat.le_refl _) _
 have x : (w13.alloc (.cells (List.toArray (.int .i64 0 :: .int .i64 4 :: .bool false :: .string ⟨dn.toArray⟩ :: .slice none 0 0 :: .int .i64 0 :: .int .i64 10 :: .bool false :: .string ⟨(sgB scope).toArray⟩ :: .slice none 0 0 :: .int .i64 0 :: .int .i64 10 :: .bool false :: .string ⟨(sgB deref).toArray⟩ :: .slice none 0 0 :: .int .i64 0 :: .int .i64 2 :: .bool false :: .string ⟨(sgB size).toArray⟩ :: .slice none 0 0 :: .int .i64 0 :: .int .i64 2 :: .bool false :: .string ⟨(sgB time).toArray⟩ :: .slice none 0 0 :: .int .i64 0 :: .int .i64 1 :: .bool false :: .string ⟨(blB types).toArray⟩ :: .slice ab 0 cb :: .int .i64 ec :: .int .i64 et :: .bool ek :: .string ⟨eb.toArray⟩ :: .slice a2 eks.length c2 :: .int .i64 0 :: .int .i64 16 :: .bool true :: .string ⟨#[]⟩ :: .slice a9 sel.length c9 :: [])) 45)).heap[w13.heap.size]? = some (.cells (List.toArray (.int .i64 0 :: .int .i64 4 :: .bool false :: .string ⟨dn.toArray⟩ :: .slice none 0 0 :: .int .i64 0 :: .int .i64 10 :: .bool false :: .string ⟨(sgB scope).toArray⟩ :: .slice none 0 0 :: .int .i64 0 :: .int .i64 10 :: .bool false :: .string ⟨(sgB deref).toArray⟩ :: .slice none 0 0 :: .int .i64 0 :: .int .i64 2 :: .bool false :: .string ⟨(sgB size).toArray⟩ :: .slice none 0 0 :: .int .i64 0 :: .int .i64 2 :: .bool false :: .string ⟨(sgB time).toArray⟩ :: .slice none 0 0 :: .int .i64 0 :: .int .i64 1 :: .bool false :: .string ⟨(blB types).toArray⟩ :: .slice ab 0 cb :: .int .i64 ec :: .int .i64 et :: .bool ek :: .string ⟨eb.toArray⟩ :: .slice a2 eks.length c2 :: .int .i64 0 :: .int .i64 16 :: .bool true :: .string ⟨#[]⟩ :: .slice a9 sel.length c9 :: [])) 45 (0, 0)) := alloc_at _ _ _ rfl
 have o7 : OwnK (w.heap.size + 1) (w13.alloc (.cells (List.toArray (.int .i64 0 :: .int .i64 4 :: .bool false :: .string ⟨dn.toArray⟩ :: .slice none 0 0 :: .int .i64 0 :: .int .i64 10 :: .bool false :: .string ⟨(sgB scope).toArray⟩ :: .slice none 0 0 :: .int .i64 0 :: .int .i64 10 :: .bool false :: .string ⟨(sgB deref).toArray⟩ :: .slice none 0 0 :: .int .i64 0 :: .int .i64 2 :: .bool false :: .string ⟨(sgB size).toArray⟩ :: .slice none 0 0 :: .int .i64 0 :: .int .i64 2 :: .bool false :: .string ⟨(sgB time).toArray⟩ :: .slice none 0 0 :: .int .i64 0 :: .int .i64 1 :: .bool false :: .string ⟨(blB types).toArray⟩ :: .slice ab 0 cb :: .int .i64 ec :: .int .i64 et :: .bool ek :: .string ⟨eb.toArray⟩ :: .slice a2 eks.length c2 :: .int .i64 0 :: .int .i64 16 :: .bool true :: .string ⟨#[]⟩ :: .slice a9 sel.length c9 :: [])) 45)) (.slice (some ⟨w13.heap.size, 0, none⟩) 8 8) (searchK dn scope deref size time types (.mk ec et ek eb eks) sel) :=
  OwnK.flat (l := searchK dn scope deref size time types (.mk ec et ek eb eks) sel) (us := [.slice none 0 0, .slice none 0 0, .slice none 0 0, .slice none 0 0, .slice none 0 0, .slice ab 0 cb, .slice a2 eks.length c2, .slice a9 sel.length c9]) x (by simp [flatE, searchK, El.cls, El.tag, El.cons, El.bytes]) rfl (by have := (gl R); omega) (by simp [searchK]) (fun j e u q1 q2 => by
   have h3 : j = 0 ∨ j = 1 ∨ j = 2 ∨ j = 3 ∨ j = 4 ∨ j = 5 ∨ j = 6 ∨ j = 7 := by have h9 := (List.getElem?_eq_some_iff.1 q1).1; simp [searchK] at h9; omega
   unfold searchK at q1
   rcases h3 with rfl | rfl | rfl | rfl | rfl | rfl | rfl | rfl
   ·simp at q1 q2; subst q1; subst q2; exact KidsAt.no _ _ _ _
   ·simp at q1 q2; subst q1; subst q2; exact KidsAt.no _ _ _ _
   ·simp at q1 q2; subst q1; subst q2; exact KidsAt.no _ _ _ _
   ·simp at q1 q2; subst q1; subst q2; exact KidsAt.no _ _ _ _
   ·simp at q1 q2; subst q1; subst q2; exact KidsAt.no _ _ _ _
   ·simp at q1 q2; subst q1; subst q2; exact KidsAt.no _ _ _ _
   ·simp at q1 q2; subst q1; subst q2; exact U.kept fun g hg hl => ⟨hb.block g hl, fun h => by cases h; omega⟩
   ·simp at q1 q2; subst q1; subst q2; exact hu9.kept fun g hg hl => ⟨hb.block g hl, fun h => by cases h; omega⟩)
 have T9 : (w13.alloc (.cells (List.toArray (.int .i64 0 :: .int .i64 4 :: .bool false :: .string ⟨dn.toArray⟩ :: .slice none 0 0 :: .int .i64 0 :: .int .i64 10 :: .bool false :: .string ⟨(sgB scope).toArray⟩ :: .slice none 0 0 :: .int .i64 0 :: .int .i64 10 :: .bool false :: .string ⟨(sgB deref).toArray⟩ :: .slice none 0 0 :: .int .i64 0 :: .int .i64 2 :: .bool false :: .string ⟨(sgB size).toArray⟩ :: .slice none 0 0 :: .int .i64 0 :: .int .i64 2 :: .bool false :: .string ⟨(sgB time).toArray⟩ :: .slice none 0 0 :: .int .i64 0 :: .int .i64 1 :: .bool false :: .string ⟨(blB types).toArray⟩ :: .slice ab 0 cb :: .int .i64 ec :: .int .i64 et :: .bool ek :: .string ⟨eb.toArray⟩ :: .slice a2 eks.length c2 :: .int .i64 0 :: .int .i64 16 :: .bool true :: .string ⟨#[]⟩ :: .slice a9 sel.length c9 :: [])) 45)).heap[b]? = some (.cells A 28 (0, 0)) ∧ (w13.alloc (.cells (List.toArray (.int .i64 0 :: .int .i64 4 :: .bool false :: .string ⟨dn.toArray⟩ :: .slice none 0 0 :: .int .i64 0 :: .int .i64 10 :: .bool false :: .string ⟨(sgB scope).toArray⟩ :: .slice none 0 0 :: .int .i64 0 :: .int .i64 10 :: .bool false :: .string ⟨(sgB deref).toArray⟩ :: .slice none 0 0 :: .int .i64 0 :: .int .i64 2 :: .bool false :: .string ⟨(sgB size).toArray⟩ :: .slice none 0 0 :: .int .i64 0 :: .int .i64 2 :: .bool false :: .string ⟨(sgB time).toArray⟩ :: .slice none 0 0 :: .int .i64 0 :: .int .i64 1 :: .bool false :: .string ⟨(blB types).toArray⟩ :: .slice ab 0 cb :: .int .i64 ec :: .int .i64 et :: .bool ek :: .string ⟨eb.toArray⟩ :: .slice a2 eks.length c2 :: .int .i64 0 :: .int .i64 16 :: .bool true :: .string ⟨#[]⟩ :: .slice a9 sel.length c9 :: [])) 45)).heap[Y]? = some (.cells E 45 (0, 0)) := ⟨(hb.block _ (gl T.1)).trans T.1, (hb.block _ (gl T.2)).trans T.2⟩
 have D9 := D.trans (hb.mono D.size)
 have R9 := (hb.block _ (gl R)).trans R
 clear hb x T D R U hu9
 have O7 := hid o7
 clear o7
 refine anyH_one 23 (by kernel_rfl) rfl (by rfl) (fun K hK => ?_); go_simp; refine hK _ _ (by rw [HE.out]; exact T9) ?_; clear hK K
 generalize w13.alloc (.cells (List.toArray (.int .i64 0 :: .int .i64 4 :: .bool false :: .string ⟨dn.toArray⟩ :: .slice none 0 0 :: .int .i64 0 :: .int .i64 10 :: .bool false :: .string ⟨(sgB scope).toArray⟩ :: .slice none 0 0 :: .int .i64 0 :: .int .i64 10 :: .bool false :: .string ⟨(sgB deref).toArray⟩ :: .slice none 0 0 :: .int .i64 0 :: .int .i64 2 :: .bool false :: .string ⟨(sgB size).toArray⟩ :: .slice none 0 0 :: .int .i64 0 :: .int .i64 2 :: .bool false :: .string ⟨(sgB time).toArray⟩ :: .slice none 0 0 :: .int .i64 0 :: .int .i64 1 :: .bool false :: .string ⟨(blB types).toArray⟩ :: .slice ab 0 cb :: .int .i64 ec :: .int .i64 et :: .bool ek :: .string ⟨eb.toArray⟩ :: .slice a2 eks.length c2 :: .int .i64 0 :: .int .i64 16 :: .bool true :: .string ⟨#[]⟩ :: .slice a9 sel.length c9 :: [])) 45) = w14 at T9 D9 R9 O7 ⊢
 generalize w13.heap.size = y at O7 ⊢
 obtain ⟨KS, hKS⟩ : ∃ l, searchK dn scope deref size time types (.mk ec et ek eb eks) sel = l := ⟨_, rfl⟩
 have hK8 : KS.length = 8 := by rw [← hKS]; rfl
 rw [hKS] at O7 HSM
 have HKS := hid hKS
 have kc := Seq_any KS _ w14 O7.out.kids HSM.out (by omega)
 clear O7 hKS hK8
 refine anyH_one 24 (by kernel_rfl) rfl (by rfl) (fun K hK => ?_); go_simp; go_wp2_with fail
 refine Calls.mono kc ?_
 rintro e w15 ⟨⟨u, rfl, hu⟩, hb⟩
 have m20 := (hb.block _ (gl T9.1)).trans T9.1
 have x20 := (hb.block _ (gl T9.2)).trans T9.2
 have b20 := D9.trans (hb.mono D9.size)
 have t20 := (hb.block _ (gl R9)).trans R9
 have hz5 := (gl R9)
 clear kc hb T9 D9 R9
 refine hK _ _ (by rw [HE.out]; exact ⟨m20, x20⟩) ?_; clear hK K
 obtain ⟨E2, hE⟩ : ∃ E, elA (.mk 0 16 true [] KS) u = E := ⟨_, rfl⟩
 have hE1 : E2.all (·.oneCell') = true := by
  obtain ⟨a, c, hsl⟩ := hu.shape
  subst hsl
  rw [← hE]; simp [elA, Value.oneCell']
 have hE2 : E2.size = 5 := by rw [← hE]; rfl
 rw [hE]
 have HE9 := hid hE
 have HE91 := hid hE1
 have HE92 := hid hE2
 clear hE hE1 hE2
 have TF : (w15.setRow w.heap.size E2).heap[b]? = some (.cells A 28 (0, 0)) ∧ (w15.setRow w.heap.size E2).heap[Y]? = some (.cells E 45 (0, 0)) := ⟨(setRow_other w15 w.heap.size b E2 (by omega)).trans m20, (setRow_other w15 w.heap.size Y E2 (by omega)).trans x20⟩
 have bF := below_row b20 (g := w.heap.size) (Nat.le_refl _) E2
 have tF := setRow_heap w15 w.heap.size _ E2 _ _ t20
 have uF : KidsAt (fun g => w.heap.size ≤ g) (w15.setRow w.heap.size E2) u KS := hu.kept fun g hg hl => ⟨setRow_other w15 w.heap.size g E2 (by omega), by omega⟩
 refine anyH_one 25 (by kernel_rfl) rfl (by rfl) (fun K hK => ?_)
 refine op_storeRow 45 (.tmp 1) (.tmp 34) rfl w.heap.size 45 _ E2 (by rfl) (by rfl) t20 (by rw [HE92.out]; rfl) (by rw [HE92.out]; rfl) HE91.out ?_
 refine hK _ _ (by rw [HE.out]; exact TF) ?_; clear hK K
 refine wpAnyH_done (by kernel_rfl) ?_ _
 try simp only [Exit.then]
 refine ‹∀ (a : Act) (w : World), Code.wp _ _ _ a w → _› _ _ ?_
 clear m20 x20 t20 b20 TF hu
 generalize w15.setRow w.heap.size E2 = wF at bF tF uF ⊢
 have UF := hid uF
 clear uF
 go_wp2_with fail
 refine bodyPost_ret (v := .agg E2) ?_ rfl ⟨⟨u, by rw [HKS.out, HE9.out], by rw [HKS.out]; exact UF.out⟩, bF⟩
 have hr := run_loadVar_row (P := Tryz.prog) wF w.heap.size 45 45 E2 (0, 0) _ tF (show Tryz.prog.underlying 45 = _ from Tryz.underlying45) (by rfl) (by rw [HE92.out]; rfl)
 simp [results, Tryz.f118]
 exact hr
end Go.Proofs.YthjaiigijbjloaaGreatDoor
