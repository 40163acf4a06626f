/- FrB. -/
import Derived.Test.YthjaiigijbjloaaGreatDoorQ48
namespace Go.Proofs.YthjaiigijbjloaaGreatDoor
open Go.RowKit Go.Lib
theorem framed_plain {m : Mg} {l : Ls} (h : (writeM m l).2 = 0) : validB m l = true ∧ readR 20 (writeM m l).1 = .ok (msgE m l, []) ∧ frameB (writeM m l).1 = ((writeM m l).1.length, 0) ∧ (writeM m l).1.length ≤ 65536 := by
 unfold writeM at h ⊢
 cases hv : validB m l with
 | false => rw [hv] at h; simp at h
 | true =>
  rw [hv] at h
  simp only [if_true] at h ⊢
  obtain ⟨h1, h2, h3, h4, _⟩ := readE_write _ h
  have hf := frame_write _ h
  refine ⟨trivial, ?_, hf, by rw [h2, h3]; exact h4⟩
  unfold readE at h1
  split at h1
  ·cases h1
  ·rename_i e0 q; cases h1; exact q
  ·cases h1
theorem elA_msg (m : Mg) (l : Ls) (u : Value) : elA (msgE m l) u = #[.int .i64 0, .int .i64 16, .bool true, .string ⟨#[]⟩, u] := rfl
theorem getI_id {m : Mg} (h : 0 ≤ m.id ∧ m.id ≤ 2147483647) : getI (.mk 0 2 false (sgB m.id.toNat) []) 0 2 = (m.id, 0) := by
 obtain ⟨h1, h2, h3⟩ := sgI_sgB m.id.toNat (by omega)
 unfold getI
 rw [if_pos (by simp [isE, El.cls, El.tag, El.cons, El.bytes, h2, h3])]
 show (sgI (sgB m.id.toNat), (0 : Int)) = _
 rw [h1]
 simp; omega
set_option maxRecDepth 100000 in
set_option maxHeartbeats 4000000 in
theorem framed_heavy (m : Mg) (l : Ls) (w : World) (hm : MgM w m l) (hE : Env w) (hl : lightB l = false) : Calls Tryz.prog 6 #[.agg m.row] w fun e w' => e = .returned (.bool true) ∧ Below w.heap.size w w' := by
 obtain ⟨B, hB⟩ : ∃ B, m.row = B := ⟨_, rfl⟩
 have hsz : B.size = 28 := by rw [← hB]; rfl
 have b1 : Below w.heap.size w (w.alloc (.cells B 28)) := (Below.refl _ _).alloc (Nat.le_refl _) _
 have r1 : (w.alloc (.cells B 28)).heap[w.heap.size]? = some (.cells B 28 (0, 0)) := alloc_at _ _ _ rfl
 have kl : ∀ w', Below w.heap.size w w' → Calls Tryz.prog 9 #[.agg B] w' fun e w'' => e = .returned (.bool (lightB l)) ∧ Below w'.heap.size w' w'' := fun w' hb => by rw [← hB]; exact light9_any m l w' (hm.below hb)
 rw [hl] at kl
 rw [hB]
 have KL := hid kl
 have HZ := hid hsz
 clear hB hsz kl hm hl
 go_enter Tryz.func6, Tryz.ntmps6
 go_upto_region 1 with fail
 generalize w.alloc (.cells B 28) = w1 at b1 r1 ⊢
 have kc := KL.out w1 b1
 clear KL
 go_wp2_with (refine wpList_loadRow rfl 28 (.tmp 1) rfl w.heap.size 28 _ (0, 0) (by rfl) r1 _ Tryz.underlying28 rfl (by rw [HZ.out]; rfl) ?_)
 refine Calls.mono kc ?_
 rintro e w2 ⟨rfl, hb⟩
 have b2 := b1.trans (hb.mono b1.size)
 have r2 := (hb.block _ (gl r1)).trans r1
 clear kc hb b1 r1
 have ka := alive9_env w2 (hE.below b2)
 go_wp2_with fail
 refine Calls.mono ka ?_
 rintro e w3 ⟨rfl, hb⟩
 have b3 := b2.trans (hb.mono b2.size)
 clear ka hb b2 r2
 go_wp2_with fail
 go_ret
 exact ⟨rfl, b3⟩
set_option maxRecDepth 100000 in
set_option maxHeartbeats 4000000 in
theorem framed_bad (m : Mg) (l : Ls) (w : World) (hm : MgM w m l) (hk : LsOk m l) (hE : Env w) (hl : lightB l = true) (hc : (writeM m l).2 ≠ 0) : Calls Tryz.prog 6 #[.agg m.row] w fun e w' => e = .returned (.bool true) ∧ Below w.heap.size w w' := by
 obtain ⟨B, hB⟩ : ∃ B, m.row = B := ⟨_, rfl⟩
 have hsz : B.size = 28 := by rw [← hB]; rfl
 have b1 : Below w.heap.size w (w.alloc (.cells B 28)) := (Below.refl _ _).alloc (Nat.le_refl _) _
 have r1 : (w.alloc (.cells B 28)).heap[w.heap.size]? = some (.cells B 28 (0, 0)) := alloc_at _ _ _ rfl
 have kl : ∀ w', Below w.heap.size w w' → Calls Tryz.prog 9 #[.agg B] w' fun e w'' => e = .returned (.bool (lightB l)) ∧ Below w'.heap.size w' w'' := fun w' hb => by rw [← hB]; exact light9_any m l w' (hm.below hb)
 have kw : ∀ w', Below w.heap.size w w' → Calls Tryz.prog 12 #[.agg B] w' fun e w'' => e = .returned (.tuple #[.string ⟨(writeM m l).1.toArray⟩, .int .i64 (writeM m l).2]) ∧ Below w'.heap.size w' w'' := fun w' hb => by rw [← hB]; exact Write_any m l w' (hm.below hb) hk (hE.below hb)
 rw [hl] at kl
 rw [hB]
 obtain ⟨S, hS⟩ : ∃ S, (writeM m l).1.toArray = S := ⟨_, rfl⟩
 obtain ⟨c, hcc⟩ : ∃ c, (writeM m l).2 = c := ⟨_, rfl⟩
 rw [hS, hcc] at kw
 rw [hcc] at hc
 have KL := hid kl
 have KW := hid kw
 have HZ := hid hsz
 have i1 : decide (c = 0) = false := decide_eq_false hc
 clear hB hsz kl kw hm hl hS hcc hk
 go_enter Tryz.func6, Tryz.ntmps6
 go_upto_region 1 with fail
 generalize w.alloc (.cells B 28) = w1 at b1 r1 ⊢
 have kc := KL.out w1 b1
 clear KL
 go_wp2_with (refine wpList_loadRow rfl 28 (.tmp 1) rfl w.heap.size 28 _ (0, 0) (by rfl) r1 _ Tryz.underlying28 rfl (by rw [HZ.out]; rfl) ?_)
 refine Calls.mono kc ?_
 rintro e w2 ⟨rfl, hb⟩
 have b2 := b1.trans (hb.mono b1.size)
 have r2 := (hb.block _ (gl r1)).trans r1
 clear kc hb b1 r1
 have kd := KW.out w2 b2
 clear KW
 go_wp2_with (refine wpList_loadRow rfl 28 (.tmp 1) rfl w.heap.size 28 _ (0, 0) (by rfl) r2 _ Tryz.underlying28 rfl (by rw [HZ.out]; rfl) ?_)
 refine Calls.mono kd ?_
 rintro e w3 ⟨rfl, hb⟩
 have b3 := b2.trans (hb.mono b2.size)
 have r3 := (hb.block _ (gl r2)).trans r2
 clear kd hb b2 r2
 have ka := alive9_env w3 (hE.below b3)
 go_wp2_with fail
 refine Calls.mono ka ?_
 rintro e w4 ⟨rfl, hb⟩
 have b4 := b3.trans (hb.mono b3.size)
 clear ka hb b3 r3
 go_wp2_with fail
 go_ret
 exact ⟨rfl, b4⟩
set_option maxRecDepth 100000 in
set_option maxHeartbeats 4000000 in
theorem framed_good2 (m : Mg) (l : Ls) (w : World) (hm : MgM w m l) (hk : LsOk m l) (hE : Env w) (hl : lightB l = true) (hc : (writeM m l).2 = 0) (hct : l.ctl = []) : Calls Tryz.prog 6 #[.agg m.row] w fun e w' => e = .returned (.bool true) ∧ Below w.heap.size w w' := by
 obtain ⟨hv, hr, hf, hlen⟩ := framed_plain hc
 have hid := getI_id (valid_parts hv).2.1
 obtain ⟨hop1, hop2⟩ := opE_head m l
 obtain ⟨a5, c5, e5, -, -⟩ := hm.ctl
 obtain ⟨B, hB⟩ : ∃ B, m.row = B := ⟨_, rfl⟩
 have hsz : B.size = 28 := by rw [← hB]; rfl
 have b1 : Below w.heap.size w (w.alloc (.cells B 28)) := (Below.refl _ _).alloc (Nat.le_refl _) _
 have r1 : (w.alloc (.cells B 28)).heap[w.heap.size]? = some (.cells B 28 (0, 0)) := alloc_at _ _ _ rfl
 have kl : ∀ w', Below w.heap.size w w' → Calls Tryz.prog 9 #[.agg B] w' fun e w'' => e = .returned (.bool (lightB l)) ∧ Below w'.heap.size w' w'' := fun w' hb => by rw [← hB]; exact light9_any m l w' (hm.below hb)
 have kw : ∀ w', Below w.heap.size w w' → Calls Tryz.prog 12 #[.agg B] w' fun e w'' => e = .returned (.tuple #[.string ⟨(writeM m l).1.toArray⟩, .int .i64 (writeM m l).2]) ∧ Below w'.heap.size w' w'' := fun w' hb => by rw [← hB]; exact Write_any m l w' (hm.below hb) hk (hE.below hb)
 have g0 : B[0]? = some (.int .i64 m.id) := by rw [← hB]; rfl
 have g1 : B[1]? = some (.int .i64 m.op) := by rw [← hB]; rfl
 have g27 : B[27]? = some (.slice a5 l.ctl.length c5) := by rw [← hB, ← e5]; rfl
 rw [hl] at kl
 rw [hB]
 have kfr := fun w => Frame_any (writeM m l).1 (by omega) w
 have krd := fun w => Read_ok (writeM m l).1 (msgE m l) hr (by omega) w
 rw [hf] at kfr
 rw [hc] at kw
 have hks : (msgE m l).kids = [.mk 0 2 false (sgB m.id.toNat) [], opE m l] := by show msgK m l = _; unfold msgK; rw [if_pos hct]; rfl
 have g27 : B[27]? = some (.slice a5 0 c5) := by rw [g27, hct]; rfl
 simp only [elA_msg] at krd
 rw [hks] at krd
 obtain ⟨P, hP⟩ : ∃ P, opE m l = P := ⟨_, rfl⟩
 obtain ⟨I, hI⟩ : ∃ I, El.mk 0 2 false (sgB m.id.toNat) [] = I := ⟨_, rfl⟩
 have hIl : I.bytes.length ≤ 1000000000 := by have := (sgB_len m.id.toNat).2; rw [← hI]; show (sgB m.id.toNat).length ≤ _; omega
 rw [hP] at krd hop1 hop2
 simp only [hI] at krd hid
 obtain ⟨S, hS⟩ : ∃ S, (writeM m l).1 = S := ⟨_, rfl⟩
 rw [hS] at hlen
 simp only [hS] at kw kfr krd
 have KL := Lib.hid kl
 have KW := Lib.hid kw
 have KF := Lib.hid kfr
 have KR := Lib.hid krd
 have HZ := Lib.hid hsz
 have HID := Lib.hid hid
 have HO1 := Lib.hid hop1
 have HO2 := Lib.hid hop2
 have HIL := Lib.hid hIl
 obtain ⟨mid, hmid⟩ : ∃ x, m.id = x := ⟨_, rfl⟩
 obtain ⟨mop, hmop⟩ : ∃ x, m.op = x := ⟨_, rfl⟩
 rw [hmid] at g0
 rw [hmop] at g1
 have HMI := Lib.hid hmid
 have HMO := Lib.hid hmop
 have G0 := Lib.hid g0
 have G1 := Lib.hid g1
 have G27 := Lib.hid g27
 clear hB hsz kl kw hm hl hk hc hct hv hr hf hid hop1 hop2 e5 kfr krd hks hP hI hS g0 g1 g27 hIl hmid hmop
 go_enter Tryz.func6, Tryz.ntmps6
 go_upto_region 1 with fail
 generalize w.alloc (.cells B 28) = w1 at b1 r1 ⊢
 have kc := KL.out w1 b1
 clear KL
 go_wp2_with (refine wpList_loadRow rfl 28 (.tmp 1) rfl w.heap.size 28 _ (0, 0) (by rfl) r1 _ Tryz.underlying28 rfl (by rw [HZ.out]; rfl) ?_)
 refine Calls.mono kc ?_
 rintro e w2 ⟨rfl, hb⟩
 have b2 := b1.trans (hb.mono b1.size)
 have r2 := (hb.block _ (gl r1)).trans r1
 clear kc hb b1 r1
 have kd := KW.out w2 b2
 clear KW
 go_wp2_with (refine wpList_loadRow rfl 28 (.tmp 1) rfl w.heap.size 28 _ (0, 0) (by rfl) r2 _ Tryz.underlying28 rfl (by rw [HZ.out]; rfl) ?_)
 refine Calls.mono kd ?_
 rintro e w3 ⟨rfl, hb⟩
 have b3 := b2.trans (hb.mono b2.size)
 have r3 := (hb.block _ (gl r2)).trans r2
 clear kd hb b2 r2
 have kf := KF.out w3
 clear KF
 go_wp2_with fail
 refine Calls.mono kf ?_
 rintro e w4 ⟨rfl, hb⟩
 have b4 := b3.trans (hb.mono b3.size)
 have r4 := (hb.block _ (gl r3)).trans r3
 have kr := KR.out w4
 clear kf hb b3 r3 KR
 go_wp2_with fail
 refine Calls.mono kr ?_
 rintro e w5 ⟨⟨u, rfl, hu⟩, hb⟩
 have b5 := b4.trans (hb.mono b4.size)
 have r5 := (hb.block _ (gl r4)).trans r4
 obtain ⟨au, cu, hue, hcu, hku⟩ := hu
 simp only [List.length_cons, List.length_nil, Nat.reduceAdd, Nat.zero_add] at hue hcu
 obtain ⟨g, o, rfl, hgp, hel⟩ := hku (by simp)
 subst hue
 simp only [ElsC] at hel
 obtain ⟨p0, p1, p2, p3, u0, p4, hu0⟩ := hel.1.cells
 obtain ⟨s0, s1, -⟩ := hel.2.1.cells
 obtain ⟨a0, c0, hf0⟩ := hu0.shape
 subst hf0
 rw [HO1.out] at s0
 rw [HO2.out, HMO.out] at s1
 have hglt := lt_of_cell p0
 clear kr hb b4 r4 hku hel
 have m6 : Below w5.heap.size w5 (w5.alloc (.cells #[.int .i64 0, .int .i64 16, .bool true, .string ⟨#[]⟩, .slice (some ⟨g, o, none⟩) 2 cu] 45)) := (Below.refl _ _).alloc (Nat.le_refl _) _
 have x6 : (w5.alloc (.cells #[.int .i64 0, .int .i64 16, .bool true, .string ⟨#[]⟩, .slice (some ⟨g, o, none⟩) 2 cu] 45)).heap[w5.heap.size]? = some (.cells #[.int .i64 0, .int .i64 16, .bool true, .string ⟨#[]⟩, .slice (some ⟨g, o, none⟩) 2 cu] 45 (0, 0)) := alloc_at _ _ _ rfl
 have b6 := b5.trans (m6.mono b5.size)
 have r6 := (m6.block _ (gl r5)).trans r5
 have t27 := (cell_of_heap r6 27).trans G27.out
 have t4 := (cell_of_heap x6 4).trans (show _ = some (Value.slice (some ⟨g, o, none⟩) 2 cu) from rfl)
 have p0 := (m6.cell (lt_of_cell p0)).trans p0
 have p1 := (m6.cell (lt_of_cell p1)).trans p1
 have p2 := (m6.cell (lt_of_cell p2)).trans p2
 have p3 := (m6.cell (lt_of_cell p3)).trans p3
 have p4 := (m6.cell (lt_of_cell p4)).trans p4
 have s0 := (m6.cell (lt_of_cell s0)).trans s0
 have s1 := (m6.cell (lt_of_cell s1)).trans s1
 have U0 := Lib.hid ((hu0.mono (Q := fun _ => True) fun _ _ _ => trivial).below m6)
 have X6 := Lib.hid x6
 have S0 := Lib.hid s0
 have S1 := Lib.hid s1
 have kg := GetInt_any I (.slice a0 I.kids.length c0) 0 2 _ U0.out HIL.out
 rw [HID.out, HMI.out] at kg
 unfold elA at kg
 have KG := Lib.hid kg
 clear m6 x6 b5 r5 s0 s1 hu0 hgp kg U0
 go_wp2_with fail
 have kg := KG.out
 clear KG p0 p1 p2 p3 p4 t4 t27
 generalize w5.alloc (.cells #[.int .i64 0, .int .i64 16, .bool true, .string ⟨#[]⟩, .slice (some ⟨g, o, none⟩) 2 cu] 45) = w6 at kg b6 r6 X6 S0 S1 ⊢
 refine Calls.mono kg ?_
 rintro e w7 ⟨rfl, hb⟩
 have b7 := b6.trans (hb.mono b6.size)
 have r7 := (hb.block _ (gl r6)).trans r6
 have x7 := (hb.block _ (gl X6.out)).trans X6.out
 have s0 := (hb.cell (lt_of_cell S0.out)).trans S0.out
 have s1 := (hb.cell (lt_of_cell S1.out)).trans S1.out
 obtain ⟨G, hG⟩ : ∃ G, w5.heap.size = G := ⟨_, rfl⟩
 rw [hG] at x7
 clear kg hb b6 r6 X6 S0 S1
 go_wp2_with fail
 try rw [hG]
 clear hG
 refine wp_region_held (S := fun w' => w'.cell? ⟨G, 4, none⟩ = some (.slice (some ⟨g, o, none⟩) 2 cu) ∧ w'.cell? ⟨g, o + 5, none⟩ = some (.int .i64 1) ∧ w'.cell? ⟨g, o + 6, none⟩ = some (.int .i64 mop) ∧ w'.cell? ⟨w.heap.size, 0, none⟩ = some (.int .i64 mid) ∧ w'.cell? ⟨w.heap.size, 1, none⟩ = some (.int .i64 mop)) (by kernel_rfl) ?_
 have b8 : Below w.heap.size w w7.drew := b7.drew
 have y1 : w7.drew.cell? ⟨G, 4, none⟩ = some (.slice (some ⟨g, o, none⟩) 2 cu) := (cell_of_heap x7 4).trans rfl
 have y2 : w7.drew.cell? ⟨g, o + 5, none⟩ = some (.int .i64 1) := s0
 have y3 : w7.drew.cell? ⟨g, o + 6, none⟩ = some (.int .i64 mop) := s1
 have y4 : w7.drew.cell? ⟨w.heap.size, 0, none⟩ = some (.int .i64 mid) := (cell_of_heap r7 0).trans G0.out
 have y5 : w7.drew.cell? ⟨w.heap.size, 1, none⟩ = some (.int .i64 mop) := (cell_of_heap r7 1).trans G1.out
 change wpAnyH _ _ _ _ _ _ _ _ w7.drew
 clear x7 r7 b7 s0 s1
 generalize w7.drew = w8 at b8 y1 y2 y3 y4 y5 ⊢
 have ka := alive9_env w8 (hE.below b8)
 refine anyH_one 0 (by kernel_rfl) rfl (by rfl) (fun K hK => ?_); go_simp; go_wp2_with fail
 refine Calls.mono ka ?_
 rintro e w9 ⟨rfl, hb⟩
 have b9 := b8.trans (hb.mono b8.size)
 have T : w9.cell? ⟨G, 4, none⟩ = some (.slice (some ⟨g, o, none⟩) 2 cu) ∧ w9.cell? ⟨g, o + 5, none⟩ = some (.int .i64 1) ∧ w9.cell? ⟨g, o + 6, none⟩ = some (.int .i64 mop) ∧ w9.cell? ⟨w.heap.size, 0, none⟩ = some (.int .i64 mid) ∧ w9.cell? ⟨w.heap.size, 1, none⟩ = some (.int .i64 mop) := ⟨(hb.cell (lt_of_cell y1)).trans y1, (hb.cell (lt_of_cell y2)).trans y2, (hb.cell (lt_of_cell y3)).trans y3, (hb.cell (lt_of_cell y4)).trans y4, (hb.cell (lt_of_cell y5)).trans y5⟩
 clear ka hb b8 y1 y2 y3 y4 y5
 refine hK _ _ T ?_; clear hK K
 refine tk 1 (.bool true) rfl (fun w' hS => by obtain ⟨y1, y2, y3, y4, y5⟩ := hS; go_simp) T (fun K hK => ?_); go_simp; refine hK _ _ ?_; clear hK K
 refine tk 2 (.int .i64 0) rfl (fun w' hS => by obtain ⟨y1, y2, y3, y4, y5⟩ := hS; go_simp) T (fun K hK => ?_); go_simp; refine hK _ _ ?_; clear hK K
 refine tk 3 (.bool true) rfl (fun w' hS => by obtain ⟨y1, y2, y3, y4, y5⟩ := hS; go_simp) T (fun K hK => ?_); go_simp; refine hK _ _ ?_; clear hK K
 refine tk 4 (.bool true) rfl (fun w' hS => by obtain ⟨y1, y2, y3, y4, y5⟩ := hS; go_simp) T (fun K hK => ?_); go_simp; refine hK _ _ ?_; clear hK K
 refine tk 5 (.bool true) rfl (fun w' hS => by obtain ⟨y1, y2, y3, y4, y5⟩ := hS; go_simp) T (fun K hK => ?_); go_simp; refine hK _ _ ?_; clear hK K
 refine tk 6 (.int .i64 mid) rfl (fun w' hS => by obtain ⟨y1, y2, y3, y4, y5⟩ := hS; go_simp) T (fun K hK => ?_); go_simp; refine hK _ _ ?_; clear hK K
 refine tk 7 (.pointer (some ⟨w.heap.size, 0, none⟩)) rfl (fun w' hS => by obtain ⟨y1, y2, y3, y4, y5⟩ := hS; go_simp) T (fun K hK => ?_); go_simp; refine hK _ _ ?_; clear hK K
 refine tk 8 (.int .i64 mid) rfl (fun w' hS => by obtain ⟨y1, y2, y3, y4, y5⟩ := hS; go_simp) T (fun K hK => ?_); go_simp; refine hK _ _ ?_; clear hK K
 refine tk 9 (.bool true) rfl (fun w' hS => by obtain ⟨y1, y2, y3, y4, y5⟩ := hS; go_simp) T (fun K hK => ?_); go_simp; refine hK _ _ ?_; clear hK K
 refine tk 10 (.bool true) rfl (fun w' hS => by obtain ⟨y1, y2, y3, y4, y5⟩ := hS; go_simp) T (fun K hK => ?_); go_simp; refine hK _ _ ?_; clear hK K
 refine tk 11 (.bool true) rfl (fun w' hS => by obtain ⟨y1, y2, y3, y4, y5⟩ := hS; go_simp) T (fun K hK => ?_); go_simp; refine hK _ _ ?_; clear hK K
 refine tk 12 (.pointer (some ⟨G, 4, none⟩)) rfl (fun w' hS => by obtain ⟨y1, y2, y3, y4, y5⟩ := hS; go_simp) T (fun K hK => ?_); go_simp; refine hK _ _ ?_; clear hK K
 refine tk 13 (.slice (some ⟨g, o, none⟩) 2 cu) rfl (fun w' hS => by obtain ⟨y1, y2, y3, y4, y5⟩ := hS; go_simp) T (fun K hK => ?_); go_simp; refine hK _ _ ?_; clear hK K
 refine tk 14 (.pointer (some ⟨g, o + 5, none⟩)) rfl (fun w' hS => by obtain ⟨y1, y2, y3, y4, y5⟩ := hS; go_simp) T (fun K hK => ?_); go_simp; refine hK _ _ ?_; clear hK K
 refine tk 15 (.pointer (some ⟨g, o + 5, none⟩)) rfl (fun w' hS => by obtain ⟨y1, y2, y3, y4, y5⟩ := hS; go_simp) T (fun K hK => ?_); go_simp; refine hK _ _ ?_; clear hK K
 refine tk 16 (.int .i64 1) rfl (fun w' hS => by obtain ⟨y1, y2, y3, y4, y5⟩ := hS; go_simp) T (fun K hK => ?_); go_simp; refine hK _ _ ?_; clear hK K
 refine tk 17 (.bool true) rfl (fun w' hS => by obtain ⟨y1, y2, y3, y4, y5⟩ := hS; go_simp) T (fun K hK => ?_); go_simp; refine hK _ _ ?_; clear hK K
 refine tk 18 (.bool true) rfl (fun w' hS => by obtain ⟨y1, y2, y3, y4, y5⟩ := hS; go_simp) T (fun K hK => ?_); go_simp; refine hK _ _ ?_; clear hK K
 refine tk 19 (.bool true) rfl (fun w' hS => by obtain ⟨y1, y2, y3, y4, y5⟩ := hS; go_simp) T (fun K hK => ?_); go_simp; refine hK _ _ ?_; clear hK K
 refine tk 20 (.pointer (some ⟨G, 4, none⟩)) rfl (fun w' hS => by obtain ⟨y1, y2, y3, y4, y5⟩ := hS; go_simp) T (fun K hK => ?_); go_simp; refine hK _ _ ?_; clear hK K
 refine tk 21 (.slice (some ⟨g, o, none⟩) 2 cu) rfl (fun w' hS => by obtain ⟨y1, y2, y3, y4, y5⟩ := hS; go_simp) T (fun K hK => ?_); go_simp; refine hK _ _ ?_; clear hK K
 refine tk 22 (.pointer (some ⟨g, o + 5, none⟩)) rfl (fun w' hS => by obtain ⟨y1, y2, y3, y4, y5⟩ := hS; go_simp) T (fun K hK => ?_); go_simp; refine hK _ _ ?_; clear hK K
 refine tk 23 (.pointer (some ⟨g, o + 6, none⟩)) rfl (fun w' hS => by obtain ⟨y1, y2, y3, y4, y5⟩ := hS; go_simp) T (fun K hK => ?_); go_simp; refine hK _ _ ?_; clear hK K
 refine tk 24 (.int .i64 mop) rfl (fun w' hS => by obtain ⟨y1, y2, y3, y4, y5⟩ := hS; go_simp) T (fun K hK => ?_); go_simp; refine hK _ _ ?_; clear hK K
 refine tk 25 (.pointer (some ⟨w.heap.size, 1, none⟩)) rfl (fun w' hS => by obtain ⟨y1, y2, y3, y4, y5⟩ := hS; go_simp) T (fun K hK => ?_); go_simp; refine hK _ _ ?_; clear hK K
 refine tk 26 (.int .i64 mop) rfl (fun w' hS => by obtain ⟨y1, y2, y3, y4, y5⟩ := hS; go_simp) T (fun K hK => ?_); go_simp; refine hK _ _ ?_; clear hK K
 refine tk 27 (.bool true) rfl (fun w' hS => by obtain ⟨y1, y2, y3, y4, y5⟩ := hS; go_simp) T (fun K hK => ?_); go_simp; refine hK _ _ ?_; clear hK K
 refine tk 28 (.bool true) rfl (fun w' hS => by obtain ⟨y1, y2, y3, y4, y5⟩ := hS; go_simp) T (fun K hK => ?_); go_simp; refine hK _ _ ?_; clear hK K
 refine anyH_one 29 (by kernel_rfl) rfl (by rfl) (fun K hK => ?_); go_simp; refine hK _ _ T ?_; clear hK K
 refine wpAnyH_done (by kernel_rfl) ?_ _
 simp only [Exit.then]
 refine ‹∀ (a : Act) (w : World), Code.wp _ _ _ a w → _› _ _ ?_
 go_wp2_with fail
 go_ret
 exact ⟨rfl, b9⟩
set_option maxRecDepth 100000 in
set_option maxHeartbeats 4000000 in
theorem framed_good3 (m : Mg) (l : Ls) (w : World) (hm : MgM w m l) (hk : LsOk m l) (hE : Env w) (hl : lightB l = true) (hc : (writeM m l).2 = 0) (hct : l.ctl ≠ []) : Calls Tryz.prog 6 #[.agg m.row] w fun e w' => e = .returned (.bool true) ∧ Below w.heap.size w w' := by
 obtain ⟨hv, hr, hf, hlen⟩ := framed_plain hc
 have hid := getI_id (valid_parts hv).2.1
 obtain ⟨hop1, hop2⟩ := opE_head m l
 obtain ⟨a5, c5, e5, -, -⟩ := hm.ctl
 obtain ⟨B, hB⟩ : ∃ B, m.row = B := ⟨_, rfl⟩
 have hsz : B.size = 28 := by rw [← hB]; rfl
 have b1 : Below w.heap.size w (w.alloc (.cells B 28)) := (Below.refl _ _).alloc (Nat.le_refl _) _
 have r1 : (w.alloc (.cells B 28)).heap[w.heap.size]? = some (.cells B 28 (0, 0)) := alloc_at _ _ _ rfl
 have kl : ∀ w', Below w.heap.size w w' → Calls Tryz.prog 9 #[.agg B] w' fun e w'' => e = .returned (.bool (lightB l)) ∧ Below w'.heap.size w' w'' := fun w' hb => by rw [← hB]; exact light9_any m l w' (hm.below hb)
 have kw : ∀ w', Below w.heap.size w w' → Calls Tryz.prog 12 #[.agg B] w' fun e w'' => e = .returned (.tuple #[.string ⟨(writeM m l).1.toArray⟩, .int .i64 (writeM m l).2]) ∧ Below w'.heap.size w' w'' := fun w' hb => by rw [← hB]; exact Write_any m l w' (hm.below hb) hk (hE.below hb)
 have g0 : B[0]? = some (.int .i64 m.id) := by rw [← hB]; rfl
 have g1 : B[1]? = some (.int .i64 m.op) := by rw [← hB]; rfl
 have g27 : B[27]? = some (.slice a5 l.ctl.length c5) := by rw [← hB, ← e5]; rfl
 rw [hl] at kl
 rw [hB]
 have kfr := fun w => Frame_any (writeM m l).1 (by omega) w
 have krd := fun w => Read_ok (writeM m l).1 (msgE m l) hr (by omega) w
 rw [hf] at kfr
 rw [hc] at kw
 obtain ⟨X, hX⟩ : ∃ X, (El.mk 2 0 true [] (l.ctl.map ctlE)) = X := ⟨_, rfl⟩
 have hks : (msgE m l).kids = [.mk 0 2 false (sgB m.id.toNat) [], opE m l, X] := by show msgK m l = _; unfold msgK; rw [if_neg hct, hX]; rfl
 obtain ⟨nC, hnC⟩ : ∃ n, l.ctl.length = n := ⟨_, rfl⟩
 have hn0 : 0 < nC := by rw [← hnC]; exact List.length_pos_iff.2 hct
 rw [hnC] at g27
 have j1 : decide ((nC : Int) > 0) = true := decide_eq_true (by omega)
 have j2 : decide ((0 : Int) < (nC : Int)) = true := decide_eq_true (by omega)
 have j3 : decide (0 < nC) = true := decide_eq_true hn0
 have j4 : (0 : Int) < (nC : Int) := by omega
 simp only [elA_msg] at krd
 rw [hks] at krd
 obtain ⟨P, hP⟩ : ∃ P, opE m l = P := ⟨_, rfl⟩
 obtain ⟨I, hI⟩ : ∃ I, El.mk 0 2 false (sgB m.id.toNat) [] = I := ⟨_, rfl⟩
 have hIl : I.bytes.length ≤ 1000000000 := by have := (sgB_len m.id.toNat).2; rw [← hI]; show (sgB m.id.toNat).length ≤ _; omega
 rw [hP] at krd hop1 hop2
 simp only [hI] at krd hid
 obtain ⟨S, hS⟩ : ∃ S, (writeM m l).1 = S := ⟨_, rfl⟩
 rw [hS] at hlen
 simp only [hS] at kw kfr krd
 have KL := Lib.hid kl
 have KW := Lib.hid kw
 have KF := Lib.hid kfr
 have KR := Lib.hid krd
 have HZ := Lib.hid hsz
 have HID := Lib.hid hid
 have HO1 := Lib.hid hop1
 have HO2 := Lib.hid hop2
 have HIL := Lib.hid hIl
 obtain ⟨mid, hmid⟩ : ∃ x, m.id = x := ⟨_, rfl⟩
 obtain ⟨mop, hmop⟩ : ∃ x, m.op = x := ⟨_, rfl⟩
 rw [hmid] at g0
 rw [hmop] at g1
 have HMI := Lib.hid hmid
 have HMO := Lib.hid hmop
 have G0 := Lib.hid g0
 have G1 := Lib.hid g1
 have G27 := Lib.hid g27
 clear hB hsz kl kw hm hl hk hc hct hv hr hf hid hop1 hop2 e5 kfr krd hks hP hI hS g0 g1 g27 hIl hmid hmop hX hnC hn0
 go_enter Tryz.func6, Tryz.ntmps6
 go_upto_region 1 with fail
 generalize w.alloc (.cells B 28) = w1 at b1 r1 ⊢
 have kc := KL.out w1 b1
 clear KL
 go_wp2_with (refine wpList_loadRow rfl 28 (.tmp 1) rfl w.heap.size 28 _ (0, 0) (by rfl) r1 _ Tryz.underlying28 rfl (by rw [HZ.out]; rfl) ?_)
 refine Calls.mono kc ?_
 rintro e w2 ⟨rfl, hb⟩
 have b2 := b1.trans (hb.mono b1.size)
 have r2 := (hb.block _ (gl r1)).trans r1
 clear kc hb b1 r1
 have kd := KW.out w2 b2
 clear KW
 go_wp2_with (refine wpList_loadRow rfl 28 (.tmp 1) rfl w.heap.size 28 _ (0, 0) (by rfl) r2 _ Tryz.underlying28 rfl (by rw [HZ.out]; rfl) ?_)
 refine Calls.mono kd ?_
 rintro e w3 ⟨rfl, hb⟩
 have b3 := b2.trans (hb.mono b2.size)
 have r3 := (hb.block _ (gl r2)).trans r2
 clear kd hb b2 r2
 have kf := KF.out w3
 clear KF
 go_wp2_with fail
 refine Calls.mono kf ?_
 rintro e w4 ⟨rfl, hb⟩
 have b4 := b3.trans (hb.mono b3.size)
 have r4 := (hb.block _ (gl r3)).trans r3
 have kr := KR.out w4
 clear kf hb b3 r3 KR
 go_wp2_with fail
 refine Calls.mono kr ?_
 rintro e w5 ⟨⟨u, rfl, hu⟩, hb⟩
 have b5 := b4.trans (hb.mono b4.size)
 have r5 := (hb.block _ (gl r4)).trans r4
 obtain ⟨au, cu, hue, hcu, hku⟩ := hu
 simp only [List.length_cons, List.length_nil, Nat.reduceAdd, Nat.zero_add] at hue hcu
 obtain ⟨g, o, rfl, hgp, hel⟩ := hku (by simp)
 subst hue
 simp only [ElsC] at hel
 obtain ⟨p0, p1, p2, p3, u0, p4, hu0⟩ := hel.1.cells
 obtain ⟨s0, s1, -⟩ := hel.2.1.cells
 obtain ⟨a0, c0, hf0⟩ := hu0.shape
 subst hf0
 rw [HO1.out] at s0
 rw [HO2.out, HMO.out] at s1
 have hglt := lt_of_cell p0
 clear kr hb b4 r4 hku hel
 have m6 : Below w5.heap.size w5 (w5.alloc (.cells #[.int .i64 0, .int .i64 16, .bool true, .string ⟨#[]⟩, .slice (some ⟨g, o, none⟩) 3 cu] 45)) := (Below.refl _ _).alloc (Nat.le_refl _) _
 have x6 : (w5.alloc (.cells #[.int .i64 0, .int .i64 16, .bool true, .string ⟨#[]⟩, .slice (some ⟨g, o, none⟩) 3 cu] 45)).heap[w5.heap.size]? = some (.cells #[.int .i64 0, .int .i64 16, .bool true, .string ⟨#[]⟩, .slice (some ⟨g, o, none⟩) 3 cu] 45 (0, 0)) := alloc_at _ _ _ rfl
 have b6 := b5.trans (m6.mono b5.size)
 have r6 := (m6.block _ (gl r5)).trans r5
 have t27 := (cell_of_heap r6 27).trans G27.out
 have t4 := (cell_of_heap x6 4).trans (show _ = some (Value.slice (some ⟨g, o, none⟩) 3 cu) from rfl)
 have p0 := (m6.cell (lt_of_cell p0)).trans p0
 have p1 := (m6.cell (lt_of_cell p1)).trans p1
 have p2 := (m6.cell (lt_of_cell p2)).trans p2
 have p3 := (m6.cell (lt_of_cell p3)).trans p3
 have p4 := (m6.cell (lt_of_cell p4)).trans p4
 have s0 := (m6.cell (lt_of_cell s0)).trans s0
 have s1 := (m6.cell (lt_of_cell s1)).trans s1
 have U0 := Lib.hid ((hu0.mono (Q := fun _ => True) fun _ _ _ => trivial).below m6)
 have X6 := Lib.hid x6
 have S0 := Lib.hid s0
 have S1 := Lib.hid s1
 have kg := GetInt_any I (.slice a0 I.kids.length c0) 0 2 _ U0.out HIL.out
 rw [HID.out, HMI.out] at kg
 unfold elA at kg
 have KG := Lib.hid kg
 clear m6 x6 b5 r5 s0 s1 hu0 hgp kg U0
 go_wp2_with fail
 have kg := KG.out
 clear KG p0 p1 p2 p3 p4 t4 t27
 generalize w5.alloc (.cells #[.int .i64 0, .int .i64 16, .bool true, .string ⟨#[]⟩, .slice (some ⟨g, o, none⟩) 3 cu] 45) = w6 at kg b6 r6 X6 S0 S1 ⊢
 refine Calls.mono kg ?_
 rintro e w7 ⟨rfl, hb⟩
 have b7 := b6.trans (hb.mono b6.size)
 have r7 := (hb.block _ (gl r6)).trans r6
 have x7 := (hb.block _ (gl X6.out)).trans X6.out
 have s0 := (hb.cell (lt_of_cell S0.out)).trans S0.out
 have s1 := (hb.cell (lt_of_cell S1.out)).trans S1.out
 obtain ⟨G, hG⟩ : ∃ G, w5.heap.size = G := ⟨_, rfl⟩
 rw [hG] at x7
 clear kg hb b6 r6 X6 S0 S1
 go_wp2_with fail
 try rw [hG]
 clear hG
 refine wp_region_held (S := fun w' => w'.cell? ⟨G, 4, none⟩ = some (.slice (some ⟨g, o, none⟩) 3 cu) ∧ w'.cell? ⟨g, o + 5, none⟩ = some (.int .i64 1) ∧ w'.cell? ⟨g, o + 6, none⟩ = some (.int .i64 mop) ∧ w'.cell? ⟨w.heap.size, 0, none⟩ = some (.int .i64 mid) ∧ w'.cell? ⟨w.heap.size, 1, none⟩ = some (.int .i64 mop)) (by kernel_rfl) ?_
 have b8 : Below w.heap.size w w7.drew := b7.drew
 have y1 : w7.drew.cell? ⟨G, 4, none⟩ = some (.slice (some ⟨g, o, none⟩) 3 cu) := (cell_of_heap x7 4).trans rfl
 have y2 : w7.drew.cell? ⟨g, o + 5, none⟩ = some (.int .i64 1) := s0
 have y3 : w7.drew.cell? ⟨g, o + 6, none⟩ = some (.int .i64 mop) := s1
 have y4 : w7.drew.cell? ⟨w.heap.size, 0, none⟩ = some (.int .i64 mid) := (cell_of_heap r7 0).trans G0.out
 have y5 : w7.drew.cell? ⟨w.heap.size, 1, none⟩ = some (.int .i64 mop) := (cell_of_heap r7 1).trans G1.out
 change wpAnyH _ _ _ _ _ _ _ _ w7.drew
 clear x7 r7 b7 s0 s1
 generalize w7.drew = w8 at b8 y1 y2 y3 y4 y5 ⊢
 have ka := alive9_env w8 (hE.below b8)
 refine anyH_one 0 (by kernel_rfl) rfl (by rfl) (fun K hK => ?_); go_simp; go_wp2_with fail
 refine Calls.mono ka ?_
 rintro e w9 ⟨rfl, hb⟩
 have b9 := b8.trans (hb.mono b8.size)
 have T : w9.cell? ⟨G, 4, none⟩ = some (.slice (some ⟨g, o, none⟩) 3 cu) ∧ w9.cell? ⟨g, o + 5, none⟩ = some (.int .i64 1) ∧ w9.cell? ⟨g, o + 6, none⟩ = some (.int .i64 mop) ∧ w9.cell? ⟨w.heap.size, 0, none⟩ = some (.int .i64 mid) ∧ w9.cell? ⟨w.heap.size, 1, none⟩ = some (.int .i64 mop) := ⟨(hb.cell (lt_of_cell y1)).trans y1, (hb.cell (lt_of_cell y2)).trans y2, (hb.cell (lt_of_cell y3)).trans y3, (hb.cell (lt_of_cell y4)).trans y4, (hb.cell (lt_of_cell y5)).trans y5⟩
 clear ka hb b8 y1 y2 y3 y4 y5
 refine hK _ _ T ?_; clear hK K
 refine tk 1 (.bool true) rfl (fun w' hS => by obtain ⟨y1, y2, y3, y4, y5⟩ := hS; go_simp) T (fun K hK => ?_); go_simp; refine hK _ _ ?_; clear hK K
 refine tk 2 (.int .i64 0) rfl (fun w' hS => by obtain ⟨y1, y2, y3, y4, y5⟩ := hS; go_simp) T (fun K hK => ?_); go_simp; refine hK _ _ ?_; clear hK K
 refine tk 3 (.bool true) rfl (fun w' hS => by obtain ⟨y1, y2, y3, y4, y5⟩ := hS; go_simp) T (fun K hK => ?_); go_simp; refine hK _ _ ?_; clear hK K
 refine tk 4 (.bool true) rfl (fun w' hS => by obtain ⟨y1, y2, y3, y4, y5⟩ := hS; go_simp) T (fun K hK => ?_); go_simp; refine hK _ _ ?_; clear hK K
 refine tk 5 (.bool true) rfl (fun w' hS => by obtain ⟨y1, y2, y3, y4, y5⟩ := hS; go_simp) T (fun K hK => ?_); go_simp; refine hK _ _ ?_; clear hK K
 refine tk 6 (.int .i64 mid) rfl (fun w' hS => by obtain ⟨y1, y2, y3, y4, y5⟩ := hS; go_simp) T (fun K hK => ?_); go_simp; refine hK _ _ ?_; clear hK K
 refine tk 7 (.pointer (some ⟨w.heap.size, 0, none⟩)) rfl (fun w' hS => by obtain ⟨y1, y2, y3, y4, y5⟩ := hS; go_simp) T (fun K hK => ?_); go_simp; refine hK _ _ ?_; clear hK K
 refine tk 8 (.int .i64 mid) rfl (fun w' hS => by obtain ⟨y1, y2, y3, y4, y5⟩ := hS; go_simp) T (fun K hK => ?_); go_simp; refine hK _ _ ?_; clear hK K
 refine tk 9 (.bool true) rfl (fun w' hS => by obtain ⟨y1, y2, y3, y4, y5⟩ := hS; go_simp) T (fun K hK => ?_); go_simp; refine hK _ _ ?_; clear hK K
 refine tk 10 (.bool true) rfl (fun w' hS => by obtain ⟨y1, y2, y3, y4, y5⟩ := hS; go_simp) T (fun K hK => ?_); go_simp; refine hK _ _ ?_; clear hK K
 refine tk 11 (.bool true) rfl (fun w' hS => by obtain ⟨y1, y2, y3, y4, y5⟩ := hS; go_simp) T (fun K hK => ?_); go_simp; refine hK _ _ ?_; clear hK K
 refine tk 12 (.pointer (some ⟨G, 4, none⟩)) rfl (fun w' hS => by obtain ⟨y1, y2, y3, y4, y5⟩ := hS; go_simp) T (fun K hK => ?_); go_simp; refine hK _ _ ?_; clear hK K
 refine tk 13 (.slice (some ⟨g, o, none⟩) 3 cu) rfl (fun w' hS => by obtain ⟨y1, y2, y3, y4, y5⟩ := hS; go_simp) T (fun K hK => ?_); go_simp; refine hK _ _ ?_; clear hK K
 refine tk 14 (.pointer (some ⟨g, o + 5, none⟩)) rfl (fun w' hS => by obtain ⟨y1, y2, y3, y4, y5⟩ := hS; go_simp) T (fun K hK => ?_); go_simp; refine hK _ _ ?_; clear hK K
 refine tk 15 (.pointer (some ⟨g, o + 5, none⟩)) rfl (fun w' hS => by obtain ⟨y1, y2, y3, y4, y5⟩ := hS; go_simp) T (fun K hK => ?_); go_simp; refine hK _ _ ?_; clear hK K
 refine tk 16 (.int .i64 1) rfl (fun w' hS => by obtain ⟨y1, y2, y3, y4, y5⟩ := hS; go_simp) T (fun K hK => ?_); go_simp; refine hK _ _ ?_; clear hK K
 refine tk 17 (.bool true) rfl (fun w' hS => by obtain ⟨y1, y2, y3, y4, y5⟩ := hS; go_simp) T (fun K hK => ?_); go_simp; refine hK _ _ ?_; clear hK K
 refine tk 18 (.bool true) rfl (fun w' hS => by obtain ⟨y1, y2, y3, y4, y5⟩ := hS; go_simp) T (fun K hK => ?_); go_simp; refine hK _ _ ?_; clear hK K
 refine tk 19 (.bool true) rfl (fun w' hS => by obtain ⟨y1, y2, y3, y4, y5⟩ := hS; go_simp) T (fun K hK => ?_); go_simp; refine hK _ _ ?_; clear hK K
 refine tk 20 (.pointer (some ⟨G, 4, none⟩)) rfl (fun w' hS => by obtain ⟨y1, y2, y3, y4, y5⟩ := hS; go_simp) T (fun K hK => ?_); go_simp; refine hK _ _ ?_; clear hK K
 refine tk 21 (.slice (some ⟨g, o, none⟩) 3 cu) rfl (fun w' hS => by obtain ⟨y1, y2, y3, y4, y5⟩ := hS; go_simp) T (fun K hK => ?_); go_simp; refine hK _ _ ?_; clear hK K
 refine tk 22 (.pointer (some ⟨g, o + 5, none⟩)) rfl (fun w' hS => by obtain ⟨y1, y2, y3, y4, y5⟩ := hS; go_simp) T (fun K hK => ?_); go_simp; refine hK _ _ ?_; clear hK K
 refine tk 23 (.pointer (some ⟨g, o + 6, none⟩)) rfl (fun w' hS => by obtain ⟨y1, y2, y3, y4, y5⟩ := hS; go_simp) T (fun K hK => ?_); go_simp; refine hK _ _ ?_; clear hK K
 refine tk 24 (.int .i64 mop) rfl (fun w' hS => by obtain ⟨y1, y2, y3, y4, y5⟩ := hS; go_simp) T (fun K hK => ?_); go_simp; refine hK _ _ ?_; clear hK K
 refine tk 25 (.pointer (some ⟨w.heap.size, 1, none⟩)) rfl (fun w' hS => by obtain ⟨y1, y2, y3, y4, y5⟩ := hS; go_simp) T (fun K hK => ?_); go_simp; refine hK _ _ ?_; clear hK K
 refine tk 26 (.int .i64 mop) rfl (fun w' hS => by obtain ⟨y1, y2, y3, y4, y5⟩ := hS; go_simp) T (fun K hK => ?_); go_simp; refine hK _ _ ?_; clear hK K
 refine tk 27 (.bool true) rfl (fun w' hS => by obtain ⟨y1, y2, y3, y4, y5⟩ := hS; go_simp) T (fun K hK => ?_); go_simp; refine hK _ _ ?_; clear hK K
 refine tk 28 (.bool true) rfl (fun w' hS => by obtain ⟨y1, y2, y3, y4, y5⟩ := hS; go_simp) T (fun K hK => ?_); go_simp; refine hK _ _ ?_; clear hK K
 refine anyH_one 29 (by kernel_rfl) rfl (by rfl) (fun K hK => ?_); go_simp; refine hK _ _ T ?_; clear hK K
 refine wpAnyH_done (by kernel_rfl) ?_ _
 simp only [Exit.then]
 refine ‹∀ (a : Act) (w : World), Code.wp _ _ _ a w → _› _ _ ?_
 go_wp2_with fail
 go_ret
 exact ⟨rfl, b9⟩
theorem MessageFramed_any (m : Mg) (l : Ls) (w : World) (hm : MgM w m l) (hk : LsOk m l) (hE : Env w) : Calls Tryz.prog 6 #[.agg m.row] w fun e w' => e = .returned (.bool true) ∧ Below w.heap.size w w' := by
 cases hl : lightB l with
 | false => exact framed_heavy m l w hm hE hl
 | true =>
  by_cases hc : (writeM m l).2 = 0
  ·by_cases hct : l.ctl = []
   ·exact framed_good2 m l w hm hk hE hl hc hct
   ·exact framed_good3 m l w hm hk hE hl hc hct
  ·exact framed_bad m l w hm hk hE hl hc
end Go.Proofs.YthjaiigijbjloaaGreatDoor
