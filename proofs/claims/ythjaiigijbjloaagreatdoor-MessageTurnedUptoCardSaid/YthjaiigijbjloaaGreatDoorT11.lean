/- BaX1, BaX2, BaX3, BaX4. -/
import Derived.Test.YthjaiigijbjloaaGreatDoorT10
namespace Go.Proofs.YthjaiigijbjloaaGreatDoor
open Go.RowKit Go.Lib
set_option maxRecDepth 100000
set_option maxHeartbeats 16000000
theorem sO (m : Mg) (l : Ls) (w : World) (h0 : ¬ (m.op = 0)) (h2 : ¬ (m.op = 2)) (hg : (m.op = 3)) (hm : MgM w m l) (hl : l.mods.length ≤ 1000000000)
  (kf : m.op = 3 → ∀ w' : World, Below w.heap.size w w' → Calls Tryz.prog 90 #[m.filt] w' fun e w2 => e = .returned (.bool (dz l.filt)) ∧ Below w'.heap.size w' w2) :
  Cr 39 #[.agg (Mg.row m)] w (.tuple #[.agg (Mg.row (bo m)), .bool (br m l)]) := by
 have H1 := hid (Mg.row_one hm);have km := fun w' (hb : Below w.heap.size w w') => eB m.mods l.mods w' (hm.mods.below hb) hl
 obtain ⟨af, cf, hf⟩ := hm.filt.shape;obtain ⟨az, cz, hs, -, -⟩ := hm.sel;obtain ⟨am, cm, hmo, -, -⟩ := hm.mods;obtain ⟨aa, ca, hat, -, -⟩ := hm.attrs;obtain ⟨ak, ck, hct, -, -⟩ := hm.ctl;obtain ⟨nf, hnf⟩ : ∃ n, l.filt.length = n := ⟨_, rfl⟩;obtain ⟨nz, hns⟩ : ∃ n, l.sel.length = n := ⟨_, rfl⟩;obtain ⟨nm, hnm⟩ : ∃ n, l.mods.length = n := ⟨_, rfl⟩;obtain ⟨na, hna⟩ : ∃ n, l.attrs.length = n := ⟨_, rfl⟩;obtain ⟨nk, hnk⟩ : ∃ n, l.ctl.length = n := ⟨_, rfl⟩;rw [hnf] at hf;rw [hns] at hs;rw [hnm] at hmo;rw [hna] at hat;rw [hnk] at hct;rw [hf] at kf;rw [hmo] at km;have KM := hid km;have KF := hid kf;have LF := hid hf;have LS := hid hs;have LM := hid hmo;have LA := hid hat;have LC := hid hct;clear km hf hs hmo hat hct hnf hns hnm hna hnk;have HG := hid hg;clear hg;have b1 : Below w.heap.size w ((w.alloc (.cells m.row 28)).alloc (.cells Zm 28)) := ((aq _ _).alloc (ah _) _).alloc (by simp) _;have m1 : ((w.alloc (.cells m.row 28)).alloc (.cells Zm 28)).heap[w.heap.size]? = some (.cells m.row 28 (0, 0)) := (alloc_old _ _ _ (by simp)).trans (bi _ _ _ rfl);have t1 : ((w.alloc (.cells m.row 28)).alloc (.cells Zm 28)).heap[w.heap.size + 1]? = some (.cells (Mg.row {}) 28 (0, 0)) := bi _ _ _ (by simp);clear hm hl kf
 go_enter Tryz.func39, Tryz.ntmps39
 refine wp_seq ?_;refine aQ ?_
 iterate 2 (refine aB rfl fun K hK => ?_; go_simp; refine hK _ _ ?_; clear hK K)
 generalize ((w.alloc (.cells m.row 28)).alloc (.cells Zm 28)) = w1 at b1 m1 t1 ⊢;have q0 := (ad m1 0).trans (show _ = some (Value.int .i64 m.id) from rfl);have q1 := (ad m1 1).trans (show _ = some (Value.int .i64 m.op) from rfl);have q27 := (ad m1 27).trans (show _ = some (Value.slice ak nk ck) from by rw [← LC.out]; rfl);obtain ⟨X0, hX⟩ : ∃ X : Array Value, #[.int .i64 m.id, .int .i64 m.op, Es, I0, Bf, Es, I0, I0, I0, I0, Bf, Sn, Sn, Sn, Sn, Es, Es, Bf, Bf, Es, Es, Es, Bf, I0, I0, Es, Es, .slice ak nk ck] = X := ⟨_, rfl⟩;have HX2 := hid (show X0.all (·.oneCell') = true by rw [← hX]; simp [Value.oneCell']);have HX3 := hid (show X0.size = 28 by rw [← hX]; rfl);have HX := hid hX;clear hX
 go_upto_region 1 with fail
 refine aQ ?_
 iterate 6 (refine aB rfl fun K hK => ?_; go_simp; refine hK _ _ ?_; clear hK K)
 refine aB rfl fun K hK => ?_
 go_simp;rw [HX.out];refine hK _ _ ?_; clear hK K
 clear q0 q1 q27;refine aB rfl fun K hK => ?_; go_simp; refine hK _ _ ?_; clear hK K
 have n2 := alb w1 Zm 28;have b2 := b1.trans (n2.mono b1.size);have m2 := (n2.block _ (gl m1)).trans m1;have t2 := (n2.block _ (gl t1)).trans t1;have x2 := alz w1 Zm 28;have hlt : w.heap.size + 1 < w1.heap.size := (gl t1);clear b1 m1 t1 n2;generalize w1.alloc (.cells Zm 28) = w2 at b2 m2 t2 x2 ⊢;generalize w1.heap.size = g at x2 hlt ⊢;refine bh rfl 28 (.tmp 4) (.tmp 12) rfl g 28 _ X0 (by rfl) (by rfl) x2 (by rw [HX3.out]; rfl) (by rw [HX3.out]; rfl) HX2.out ?_;have S : BaS w m X0 g (w2.setRow g X0) := ⟨(setRow_other w2 g w.heap.size X0 (by omega)).trans m2, (setRow_other w2 g (w.heap.size + 1) X0 (by omega)).trans t2, setRow_heap w2 g _ X0 _ _ x2, bm b2 (g := g) (by omega) X0, hlt⟩;clear b2 m2 t2 x2 HX2 HX3;generalize w2.setRow g X0 = wr at S ⊢;rw [← HX.out] at S;clear HX;replace S := S.as (show _ = Mg.row ({ id := m.id, op := m.op, ctl := .slice ak nk ck } : Mg) from rfl);have q1 := (ad S.m 1).trans (show _ = some (Value.int .i64 m.op) from rfl);go_simp;clear q1;have i0 : (m.op == 0) = false := aE h0;have i2 : (m.op == 2) = false := aE h2;have h3 : m.op = 3 := by have := HG.out; omega
 clear HG;have i3 : (m.op == 3) = true := by rw [h3]; rfl
 have q1 := (ad S.m 1).trans (show _ = some (.int .i64 m.op : Value) from rfl)
 go_upto_region 9 with fail
 clear q1;refine aR (S := fun w' => w'.heap[w.heap.size]? = some (.cells m.row 28 (0, 0))) (by kernel_rfl) ?_;replace S := S.drew
 change wpAnyH _ _ _ _ _ _ _ _ wr.drew
 generalize wr.drew = wr at S ⊢;refine tp 0 ⟨w.heap.size, 2, none⟩ rfl S.m ?_;refine tn 1 (.string ⟨m.dn.toArray⟩) rfl (fun w' hS => by have q := (ad hS 2).trans (show _ = some (.string ⟨m.dn.toArray⟩ : Value) from rfl); go_simp) S.m ?_;refine tp 2 ⟨w.heap.size, 6, none⟩ rfl S.m ?_;refine tn 3 (.int .i64 m.scope) rfl (fun w' hS => by have q := (ad hS 6).trans (show _ = some (.int .i64 m.scope : Value) from rfl); go_simp) S.m ?_;refine tp 4 ⟨w.heap.size, 7, none⟩ rfl S.m ?_;refine tn 5 (.int .i64 m.deref) rfl (fun w' hS => by have q := (ad hS 7).trans (show _ = some (.int .i64 m.deref : Value) from rfl); go_simp) S.m ?_;refine tp 6 ⟨w.heap.size, 8, none⟩ rfl S.m ?_;refine tn 7 (.int .i64 m.size) rfl (fun w' hS => by have q := (ad hS 8).trans (show _ = some (.int .i64 m.size : Value) from rfl); go_simp) S.m ?_;refine tp 8 ⟨w.heap.size, 9, none⟩ rfl S.m ?_;refine tn 9 (.int .i64 m.time) rfl (fun w' hS => by have q := (ad hS 9).trans (show _ = some (.int .i64 m.time : Value) from rfl); go_simp) S.m ?_;refine tp 10 ⟨g, 2, none⟩ rfl S.m ?_;have s := (ad S.x 2).trans (show _ = some (Es : Value) from rfl);have z := aj S.x 2;replace S := (S.set 2 (.string ⟨m.dn.toArray⟩)).as (show _ = Mg.row ({ id := m.id, op := m.op, ctl := .slice ak nk ck, dn := m.dn } : Mg) from rfl);refine ao 11 rfl (fun K hK => ?_); go_simp; refine hK _ _ S.m ?_; clear hK K
 clear s z;generalize wr.setCell ⟨g, 2, none⟩ (.string ⟨m.dn.toArray⟩) = wr at S ⊢;refine tp 12 ⟨g, 6, none⟩ rfl S.m ?_;have s := (ad S.x 6).trans (show _ = some (.int .i64 0 : Value) from rfl);have z := aj S.x 6;replace S := (S.set 6 (.int .i64 m.scope)).as (show _ = Mg.row ({ id := m.id, op := m.op, ctl := .slice ak nk ck, dn := m.dn, scope := m.scope } : Mg) from rfl);refine ao 13 rfl (fun K hK => ?_); go_simp; refine hK _ _ S.m ?_; clear hK K
 clear s z;generalize wr.setCell ⟨g, 6, none⟩ (.int .i64 m.scope) = wr at S ⊢;refine tp 14 ⟨g, 7, none⟩ rfl S.m ?_;have s := (ad S.x 7).trans (show _ = some (.int .i64 0 : Value) from rfl);have z := aj S.x 7;replace S := (S.set 7 (.int .i64 m.deref)).as (show _ = Mg.row ({ id := m.id, op := m.op, ctl := .slice ak nk ck, dn := m.dn, scope := m.scope, deref := m.deref } : Mg) from rfl);refine ao 15 rfl (fun K hK => ?_); go_simp; refine hK _ _ S.m ?_; clear hK K
 clear s z;generalize wr.setCell ⟨g, 7, none⟩ (.int .i64 m.deref) = wr at S ⊢;refine tp 16 ⟨g, 8, none⟩ rfl S.m ?_;have s := (ad S.x 8).trans (show _ = some (.int .i64 0 : Value) from rfl);have z := aj S.x 8;replace S := (S.set 8 (.int .i64 m.size)).as (show _ = Mg.row ({ id := m.id, op := m.op, ctl := .slice ak nk ck, dn := m.dn, scope := m.scope, deref := m.deref, size := m.size } : Mg) from rfl);refine ao 17 rfl (fun K hK => ?_); go_simp; refine hK _ _ S.m ?_; clear hK K
 clear s z;generalize wr.setCell ⟨g, 8, none⟩ (.int .i64 m.size) = wr at S ⊢;refine tp 18 ⟨g, 9, none⟩ rfl S.m ?_;have s := (ad S.x 9).trans (show _ = some (.int .i64 0 : Value) from rfl);have z := aj S.x 9;replace S := (S.set 9 (.int .i64 m.time)).as (show _ = Mg.row ({ id := m.id, op := m.op, ctl := .slice ak nk ck, dn := m.dn, scope := m.scope, deref := m.deref, size := m.size, time := m.time } : Mg) from rfl);refine ao 19 rfl (fun K hK => ?_); go_simp; refine hK _ _ S.m ?_; clear hK K
 clear s z;generalize wr.setCell ⟨g, 9, none⟩ (.int .i64 m.time) = wr at S ⊢;refine aV (by kernel_rfl) ?_ _
 try simp only [Exit.then]
 refine ‹∀ (a : Act) (w : World), Code.wp _ _ _ a w → _› _ _ ?_
 go_upto_region 10 with fail
 refine aR (S := fun w' => w'.heap[w.heap.size]? = some (.cells m.row 28 (0, 0))) (by kernel_rfl) ?_;replace S := S.drew
 change wpAnyH _ _ _ _ _ _ _ _ wr.drew
 generalize wr.drew = wr at S ⊢;refine tp 0 ⟨w.heap.size, 10, none⟩ rfl S.m ?_;refine tn 1 (.bool m.types) rfl (fun w' hS => by have q := (ad hS 10).trans (show _ = some (.bool m.types : Value) from rfl); go_simp) S.m ?_;refine tp 2 ⟨w.heap.size, 11, none⟩ rfl S.m ?_;refine tn 3 (.slice af nf cf) rfl (fun w' hS => by have q := (ad hS 11).trans (show _ = some (.slice af nf cf : Value) from by rw [← LF.out]; rfl); go_simp) S.m ?_;refine tp 4 ⟨w.heap.size, 12, none⟩ rfl S.m ?_;refine tn 5 (.slice az nz cz) rfl (fun w' hS => by have q := (ad hS 12).trans (show _ = some (.slice az nz cz : Value) from by rw [← LS.out]; rfl); go_simp) S.m ?_;refine tp 6 ⟨g, 10, none⟩ rfl S.m ?_;have s := (ad S.x 10).trans (show _ = some (Bf : Value) from rfl);have z := aj S.x 10;replace S := (S.set 10 (.bool m.types)).as (show _ = Mg.row ({ id := m.id, op := m.op, ctl := .slice ak nk ck, dn := m.dn, scope := m.scope, deref := m.deref, size := m.size, time := m.time, types := m.types } : Mg) from rfl);refine ao 7 rfl (fun K hK => ?_); go_simp; refine hK _ _ S.m ?_; clear hK K
 clear s z;generalize wr.setCell ⟨g, 10, none⟩ (.bool m.types) = wr at S ⊢;refine tp 8 ⟨g, 11, none⟩ rfl S.m ?_;have s := (ad S.x 11).trans (show _ = some (Sn : Value) from rfl);have z := aj S.x 11;replace S := (S.set 11 (.slice af nf cf)).as (show _ = Mg.row ({ id := m.id, op := m.op, ctl := .slice ak nk ck, dn := m.dn, scope := m.scope, deref := m.deref, size := m.size, time := m.time, types := m.types, filt := .slice af nf cf } : Mg) from rfl);refine ao 9 rfl (fun K hK => ?_); go_simp; refine hK _ _ S.m ?_; clear hK K
 clear s z;generalize wr.setCell ⟨g, 11, none⟩ (.slice af nf cf) = wr at S ⊢;refine tp 10 ⟨g, 12, none⟩ rfl S.m ?_;have s := (ad S.x 12).trans (show _ = some (Sn : Value) from rfl);have z := aj S.x 12;replace S := (S.set 12 (.slice az nz cz)).as (show _ = Mg.row ({ id := m.id, op := m.op, ctl := .slice ak nk ck, dn := m.dn, scope := m.scope, deref := m.deref, size := m.size, time := m.time, types := m.types, filt := .slice af nf cf, sel := .slice az nz cz } : Mg) from rfl);refine ao 11 rfl (fun K hK => ?_); go_simp; refine hK _ _ S.m ?_; clear hK K
 clear s z;generalize wr.setCell ⟨g, 12, none⟩ (.slice az nz cz) = wr at S ⊢;refine aV (by kernel_rfl) ?_ _
 try simp only [Exit.then]
 refine ‹∀ (a : Act) (w : World), Code.wp _ _ _ a w → _› _ _ ?_;have q6 := (ad S.m 6).trans (show _ = some (.int .i64 m.scope : Value) from rfl);have q7 := (ad S.m 7).trans (show _ = some (.int .i64 m.deref : Value) from rfl);have q8 := (ad S.m 8).trans (show _ = some (.int .i64 m.size : Value) from rfl);have q9 := (ad S.m 9).trans (show _ = some (.int .i64 m.time : Value) from rfl);have q11 := (ad S.m 11).trans (show _ = some (.slice af nf cf : Value) from by rw [← LF.out]; rfl);refine if r0 : bB m.scope 2 = true then ?A17 else ?B17
 case' A17 =>
  have kc := cM m.scope 2 wr;rw [r0] at kc
  go_wp2_with fail
  refine ag kc ?_;rintro e w' ⟨rfl, hw'⟩;obtain rfl := hw'.symm;clear kc;refine if r1 : bB m.deref 3 = true then ?A16 else ?B16
  case' A16 =>
   have kc := cM m.deref 3 wr;rw [r1] at kc
   go_wp2_with fail
   refine ag kc ?_;rintro e w' ⟨rfl, hw'⟩;obtain rfl := hw'.symm;clear kc;refine if r2 : bB m.size 2147483647 = true then ?A15 else ?B15
   case' A15 =>
    have kc := cM m.size 2147483647 wr;rw [r2] at kc
    go_wp2_with fail
    refine ag kc ?_;rintro e w' ⟨rfl, hw'⟩;obtain rfl := hw'.symm;clear kc;refine if r3 : bB m.time 2147483647 = true then ?A14 else ?B14
    case' A14 =>
     have kc := cM m.time 2147483647 wr;rw [r3] at kc
     go_wp2_with fail
     refine ag kc ?_;rintro e w' ⟨rfl, hw'⟩;obtain rfl := hw'.symm;clear kc;have kc := KF.out h3 wr S.bel
     go_wp2_with fail
     refine ag kc ?_;rintro e w' ⟨rfl, hb⟩;replace S := S.to hb;clear kc hb;generalize w' = wr at S ⊢;clear q6 q7 q8 q9 q11
     go_upto_region 36 with fail
     replace S := S.as (show _ = Mg.row (bo m) from by rw [bo, if_neg h0, if_pos h3]; simp only [Mg.row, LF.out, LS.out, LC.out]);have HK := hid (show br m l = dz l.filt from by rw [br, if_neg h0, if_neg h2, if_pos h3]; simp [r0, r1, r2, r3])
    case' B14 =>
     replace r3 : bB m.time 2147483647 = false := Bool.eq_false_iff.2 r3;have kc := cM m.time 2147483647 wr;rw [r3] at kc
     go_wp2_with fail
     refine ag kc ?_;rintro e w' ⟨rfl, hw'⟩;obtain rfl := hw'.symm;clear kc
     go_upto_region 36 with fail
     clear q6 q7 q8 q9 q11;replace S := S.as (show _ = Mg.row (bo m) from by rw [bo, if_neg h0, if_pos h3]; simp only [Mg.row, LF.out, LS.out, LC.out]);have HK := hid (show br m l = false from by rw [br, if_neg h0, if_neg h2, if_pos h3]; simp [r0, r1, r2, r3])
   case' B15 =>
    replace r2 : bB m.size 2147483647 = false := Bool.eq_false_iff.2 r2;have kc := cM m.size 2147483647 wr;rw [r2] at kc
    go_wp2_with fail
    refine ag kc ?_;rintro e w' ⟨rfl, hw'⟩;obtain rfl := hw'.symm;clear kc
    go_upto_region 36 with fail
    clear q6 q7 q8 q9 q11;replace S := S.as (show _ = Mg.row (bo m) from by rw [bo, if_neg h0, if_pos h3]; simp only [Mg.row, LF.out, LS.out, LC.out]);have HK := hid (show br m l = false from by rw [br, if_neg h0, if_neg h2, if_pos h3]; simp [r0, r1, r2])
  case' B16 =>
   replace r1 : bB m.deref 3 = false := Bool.eq_false_iff.2 r1;have kc := cM m.deref 3 wr;rw [r1] at kc
   go_wp2_with fail
   refine ag kc ?_;rintro e w' ⟨rfl, hw'⟩;obtain rfl := hw'.symm;clear kc
   go_upto_region 36 with fail
   clear q6 q7 q8 q9 q11;replace S := S.as (show _ = Mg.row (bo m) from by rw [bo, if_neg h0, if_pos h3]; simp only [Mg.row, LF.out, LS.out, LC.out]);have HK := hid (show br m l = false from by rw [br, if_neg h0, if_neg h2, if_pos h3]; simp [r0, r1])
 case' B17 =>
  replace r0 : bB m.scope 2 = false := Bool.eq_false_iff.2 r0;have kc := cM m.scope 2 wr;rw [r0] at kc
  go_wp2_with fail
  refine ag kc ?_;rintro e w' ⟨rfl, hw'⟩;obtain rfl := hw'.symm;clear kc
  go_upto_region 36 with fail
  clear q6 q7 q8 q9 q11;replace S := S.as (show _ = Mg.row (bo m) from by rw [bo, if_neg h0, if_pos h3]; simp only [Mg.row, LF.out, LS.out, LC.out]);have HK := hid (show br m l = false from by rw [br, if_neg h0, if_neg h2, if_pos h3]; simp [r0])
 all_goals
  have one := fF H1.out;obtain ⟨X, hX⟩ : ∃ X, Mg.row (bo m) = X := ⟨_, rfl⟩;have hX2 : X.size = 28 := by rw [← hX]; rfl
  rw [hX] at S one;have HX := hid hX;have HX2 := hid hX2;have ONE := hid one;have x := S.x;have t := S.res;have b60 := hid (bm S.bel (g := w.heap.size + 1) (by omega) X);have t60 := hid (setRow_heap wr (w.heap.size + 1) _ X _ _ S.res);clear hX hX2 one S H1 KM KF;refine aQ ?_;refine bg rfl 28 (.tmp 4) rfl g 28 _ (0, 0) (by rfl) x _ Tryz.underlying28 rfl (by rw [HX2.out]; rfl) ?_;refine aB rfl fun K hK => ?_; go_simp; refine hK _ _ ?_; clear hK K
  refine bh rfl 28 (.tmp 2) (.tmp 231) rfl (w.heap.size + 1) 28 _ X (by rfl) (by rfl) t (by rw [HX2.out]; rfl) (by rw [HX2.out]; rfl) ONE.out ?_;have b60 := b60.out;have t60 := t60.out;generalize wr.setRow (w.heap.size + 1) X = w60 at b60 t60 ⊢;clear x t;go_simp
  go_wp2_with fail
  refine aH (v := .tuple #[.agg X, .bool (br m l)]) ?_ rfl ⟨by rw [HX.out], b60⟩;have hr := aJ (P := Tryz.prog) w60 (w.heap.size + 1) 28 28 X (0, 0) _ t60 (show Tryz.prog.underlying 28 = _ from Tryz.underlying28) (by rfl) (by rw [HX2.out]; rfl);rw [HK.out]
  simp [results, Tryz.f39]
  show ((Sem.run Tryz.prog (loadVar 28 ⟨w.heap.size + 1, 0, none⟩) w60).andThen _) = _;rw [hr]
  simp
theorem sP (m : Mg) (l : Ls) (w : World) (h0 : ¬ (m.op = 0)) (h2 : ¬ (m.op = 2)) (h3 : ¬ (m.op = 3)) (hg : (m.op = 6) ∨ (m.op = 8 ∨ m.op = 4)) (hm : MgM w m l) (hl : l.mods.length ≤ 1000000000)
  (kf : m.op = 3 → ∀ w' : World, Below w.heap.size w w' → Calls Tryz.prog 90 #[m.filt] w' fun e w2 => e = .returned (.bool (dz l.filt)) ∧ Below w'.heap.size w' w2) :
  Cr 39 #[.agg (Mg.row m)] w (.tuple #[.agg (Mg.row (bo m)), .bool (br m l)]) := by
 have H1 := hid (Mg.row_one hm);have km := fun w' (hb : Below w.heap.size w w') => eB m.mods l.mods w' (hm.mods.below hb) hl
 obtain ⟨af, cf, hf⟩ := hm.filt.shape;obtain ⟨az, cz, hs, -, -⟩ := hm.sel;obtain ⟨am, cm, hmo, -, -⟩ := hm.mods;obtain ⟨aa, ca, hat, -, -⟩ := hm.attrs;obtain ⟨ak, ck, hct, -, -⟩ := hm.ctl;obtain ⟨nf, hnf⟩ : ∃ n, l.filt.length = n := ⟨_, rfl⟩;obtain ⟨nz, hns⟩ : ∃ n, l.sel.length = n := ⟨_, rfl⟩;obtain ⟨nm, hnm⟩ : ∃ n, l.mods.length = n := ⟨_, rfl⟩;obtain ⟨na, hna⟩ : ∃ n, l.attrs.length = n := ⟨_, rfl⟩;obtain ⟨nk, hnk⟩ : ∃ n, l.ctl.length = n := ⟨_, rfl⟩;rw [hnf] at hf;rw [hns] at hs;rw [hnm] at hmo;rw [hna] at hat;rw [hnk] at hct;rw [hf] at kf;rw [hmo] at km;have KM := hid km;have KF := hid kf;have LF := hid hf;have LS := hid hs;have LM := hid hmo;have LA := hid hat;have LC := hid hct;clear km hf hs hmo hat hct hnf hns hnm hna hnk;have HG := hid hg;clear hg;have b1 : Below w.heap.size w ((w.alloc (.cells m.row 28)).alloc (.cells Zm 28)) := ((aq _ _).alloc (ah _) _).alloc (by simp) _;have m1 : ((w.alloc (.cells m.row 28)).alloc (.cells Zm 28)).heap[w.heap.size]? = some (.cells m.row 28 (0, 0)) := (alloc_old _ _ _ (by simp)).trans (bi _ _ _ rfl);have t1 : ((w.alloc (.cells m.row 28)).alloc (.cells Zm 28)).heap[w.heap.size + 1]? = some (.cells (Mg.row {}) 28 (0, 0)) := bi _ _ _ (by simp);clear hm hl kf
 go_enter Tryz.func39, Tryz.ntmps39
 refine wp_seq ?_;refine aQ ?_
 iterate 2 (refine aB rfl fun K hK => ?_; go_simp; refine hK _ _ ?_; clear hK K)
 generalize ((w.alloc (.cells m.row 28)).alloc (.cells Zm 28)) = w1 at b1 m1 t1 ⊢;have q0 := (ad m1 0).trans (show _ = some (Value.int .i64 m.id) from rfl);have q1 := (ad m1 1).trans (show _ = some (Value.int .i64 m.op) from rfl);have q27 := (ad m1 27).trans (show _ = some (Value.slice ak nk ck) from by rw [← LC.out]; rfl);obtain ⟨X0, hX⟩ : ∃ X : Array Value, #[.int .i64 m.id, .int .i64 m.op, Es, I0, Bf, Es, I0, I0, I0, I0, Bf, Sn, Sn, Sn, Sn, Es, Es, Bf, Bf, Es, Es, Es, Bf, I0, I0, Es, Es, .slice ak nk ck] = X := ⟨_, rfl⟩;have HX2 := hid (show X0.all (·.oneCell') = true by rw [← hX]; simp [Value.oneCell']);have HX3 := hid (show X0.size = 28 by rw [← hX]; rfl);have HX := hid hX;clear hX
 go_upto_region 1 with fail
 refine aQ ?_
 iterate 6 (refine aB rfl fun K hK => ?_; go_simp; refine hK _ _ ?_; clear hK K)
 refine aB rfl fun K hK => ?_
 go_simp;rw [HX.out];refine hK _ _ ?_; clear hK K
 clear q0 q1 q27;refine aB rfl fun K hK => ?_; go_simp; refine hK _ _ ?_; clear hK K
 have n2 := alb w1 Zm 28;have b2 := b1.trans (n2.mono b1.size);have m2 := (n2.block _ (gl m1)).trans m1;have t2 := (n2.block _ (gl t1)).trans t1;have x2 := alz w1 Zm 28;have hlt : w.heap.size + 1 < w1.heap.size := (gl t1);clear b1 m1 t1 n2;generalize w1.alloc (.cells Zm 28) = w2 at b2 m2 t2 x2 ⊢;generalize w1.heap.size = g at x2 hlt ⊢;refine bh rfl 28 (.tmp 4) (.tmp 12) rfl g 28 _ X0 (by rfl) (by rfl) x2 (by rw [HX3.out]; rfl) (by rw [HX3.out]; rfl) HX2.out ?_;have S : BaS w m X0 g (w2.setRow g X0) := ⟨(setRow_other w2 g w.heap.size X0 (by omega)).trans m2, (setRow_other w2 g (w.heap.size + 1) X0 (by omega)).trans t2, setRow_heap w2 g _ X0 _ _ x2, bm b2 (g := g) (by omega) X0, hlt⟩;clear b2 m2 t2 x2 HX2 HX3;generalize w2.setRow g X0 = wr at S ⊢;rw [← HX.out] at S;clear HX;replace S := S.as (show _ = Mg.row ({ id := m.id, op := m.op, ctl := .slice ak nk ck } : Mg) from rfl);have q1 := (ad S.m 1).trans (show _ = some (Value.int .i64 m.op) from rfl);go_simp;clear q1;have i0 : (m.op == 0) = false := aE h0;have i2 : (m.op == 2) = false := aE h2;have i3 : (m.op == 3) = false := aE h3;refine if h6 : m.op = 6 then ?A18 else ?B18
 case' A18 =>
  have i6 : (m.op == 6) = true := by rw [h6]; rfl
  have q1 := (ad S.m 1).trans (show _ = some (.int .i64 m.op : Value) from rfl)
  go_upto_region 13 with fail
  clear q1;refine aR (S := fun w' => w'.heap[w.heap.size]? = some (.cells m.row 28 (0, 0))) (by kernel_rfl) ?_;replace S := S.drew
  change wpAnyH _ _ _ _ _ _ _ _ wr.drew
  generalize wr.drew = wr at S ⊢;refine tp 0 ⟨w.heap.size, 2, none⟩ rfl S.m ?_;refine tn 1 (.string ⟨m.dn.toArray⟩) rfl (fun w' hS => by have q := (ad hS 2).trans (show _ = some (.string ⟨m.dn.toArray⟩ : Value) from rfl); go_simp) S.m ?_;refine tp 2 ⟨w.heap.size, 13, none⟩ rfl S.m ?_;refine tn 3 (.slice am nm cm) rfl (fun w' hS => by have q := (ad hS 13).trans (show _ = some (.slice am nm cm : Value) from by rw [← LM.out]; rfl); go_simp) S.m ?_;refine tp 4 ⟨g, 2, none⟩ rfl S.m ?_;have s := (ad S.x 2).trans (show _ = some (Es : Value) from rfl);have z := aj S.x 2;replace S := (S.set 2 (.string ⟨m.dn.toArray⟩)).as (show _ = Mg.row ({ id := m.id, op := m.op, ctl := .slice ak nk ck, dn := m.dn } : Mg) from rfl);refine ao 5 rfl (fun K hK => ?_); go_simp; refine hK _ _ S.m ?_; clear hK K
  clear s z;generalize wr.setCell ⟨g, 2, none⟩ (.string ⟨m.dn.toArray⟩) = wr at S ⊢;refine tp 6 ⟨g, 13, none⟩ rfl S.m ?_;have s := (ad S.x 13).trans (show _ = some (Sn : Value) from rfl);have z := aj S.x 13;replace S := (S.set 13 (.slice am nm cm)).as (show _ = Mg.row ({ id := m.id, op := m.op, ctl := .slice ak nk ck, dn := m.dn, mods := .slice am nm cm } : Mg) from rfl);refine ao 7 rfl (fun K hK => ?_); go_simp; refine hK _ _ S.m ?_; clear hK K
  clear s z;generalize wr.setCell ⟨g, 13, none⟩ (.slice am nm cm) = wr at S ⊢;refine aV (by kernel_rfl) ?_ _
  try simp only [Exit.then]
  refine ‹∀ (a : Act) (w : World), Code.wp _ _ _ a w → _› _ _ ?_;have q13 := (ad S.m 13).trans (show _ = some (.slice am nm cm : Value) from by rw [← LM.out]; rfl);have kc := KM.out wr S.bel
  go_wp2_with fail
  refine ag kc ?_;rintro e w' ⟨rfl, hb⟩;replace S := S.to hb;clear kc hb q13;generalize w' = wr at S ⊢
  go_upto_region 36 with fail
  replace S := S.as (show _ = Mg.row (bo m) from by rw [bo, if_neg h0, if_neg h3, if_pos h6]; simp only [Mg.row, LM.out, LC.out]);have HK := hid (show br m l = (!(l.mods.any fun x => !bB x.1 2)) from by rw [br, if_neg h0, if_neg h2, if_neg h3, if_pos h6]; exact rt l.mods)
 case' B18 =>
  have i6 : (m.op == 6) = false := aE h6;have h8 : m.op = 8 ∨ m.op = 4 := by have := HG.out; omega
  clear HG;have q1 := (ad S.m 1).trans (show _ = some (.int .i64 m.op : Value) from rfl);have aO := alz wr #[.int .i64 8, .int .i64 4] 3;have kc := gN m.op wr.heap.size [8, 4] (wr.alloc (.cells #[.int .i64 8, .int .i64 4] 3)) (by simp) (fun j hj => by
   have h2 : j < 2 := hj;have hcases : j = 0 ∨ j = 1 := by omega
   rcases hcases with rfl | rfl
   ·exact (ad aO 0).trans rfl
   ·exact (ad aO 1).trans rfl)
  rw [show ([8, 4] : List Int).contains m.op = true from by rcases h8 with h | h <;> rw [h] <;> rfl] at kc;have S2 := S.to ((aq wr.heap.size wr).alloc (ah _) (.cells #[.int .i64 8, .int .i64 4] 3));clear aO
  go_wp2_with fail
  clear q1 S;generalize (wr.alloc (.cells #[.int .i64 8, .int .i64 4] 3)) = wr at S2 kc ⊢;refine ag kc ?_;rintro e w' ⟨rfl, hw'⟩;obtain rfl := hw'.symm;clear kc;have S := S2;clear S2
  go_upto_region 16 with fail
  refine aR (S := fun w' => w'.heap[w.heap.size]? = some (.cells m.row 28 (0, 0))) (by kernel_rfl) ?_;replace S := S.drew
  change wpAnyH _ _ _ _ _ _ _ _ wr.drew
  generalize wr.drew = wr at S ⊢;refine tp 0 ⟨w.heap.size, 2, none⟩ rfl S.m ?_;refine tn 1 (.string ⟨m.dn.toArray⟩) rfl (fun w' hS => by have q := (ad hS 2).trans (show _ = some (.string ⟨m.dn.toArray⟩ : Value) from rfl); go_simp) S.m ?_;refine tp 2 ⟨w.heap.size, 14, none⟩ rfl S.m ?_;refine tn 3 (.slice aa na ca) rfl (fun w' hS => by have q := (ad hS 14).trans (show _ = some (.slice aa na ca : Value) from by rw [← LA.out]; rfl); go_simp) S.m ?_;refine tp 4 ⟨g, 2, none⟩ rfl S.m ?_;have s := (ad S.x 2).trans (show _ = some (Es : Value) from rfl);have z := aj S.x 2;replace S := (S.set 2 (.string ⟨m.dn.toArray⟩)).as (show _ = Mg.row ({ id := m.id, op := m.op, ctl := .slice ak nk ck, dn := m.dn } : Mg) from rfl);refine ao 5 rfl (fun K hK => ?_); go_simp; refine hK _ _ S.m ?_; clear hK K
  clear s z;generalize wr.setCell ⟨g, 2, none⟩ (.string ⟨m.dn.toArray⟩) = wr at S ⊢;refine tp 6 ⟨g, 14, none⟩ rfl S.m ?_;have s := (ad S.x 14).trans (show _ = some (Sn : Value) from rfl);have z := aj S.x 14;replace S := (S.set 14 (.slice aa na ca)).as (show _ = Mg.row ({ id := m.id, op := m.op, ctl := .slice ak nk ck, dn := m.dn, attrs := .slice aa na ca } : Mg) from rfl);refine ao 7 rfl (fun K hK => ?_); go_simp; refine hK _ _ S.m ?_; clear hK K
  clear s z;generalize wr.setCell ⟨g, 14, none⟩ (.slice aa na ca) = wr at S ⊢;refine aV (by kernel_rfl) ?_ _
  try simp only [Exit.then]
  refine ‹∀ (a : Act) (w : World), Code.wp _ _ _ a w → _› _ _ ?_
  go_upto_region 36 with fail
  replace S := S.as (show _ = Mg.row (bo m) from by rw [bo, if_neg h0, if_neg h3, if_neg h6, if_pos h8]; simp only [Mg.row, LA.out, LC.out]);have HK := hid (show br m l = true from by rw [br, if_neg h0, if_neg h2, if_neg h3, if_neg h6, if_pos h8])
 all_goals
  have one := fF H1.out;obtain ⟨X, hX⟩ : ∃ X, Mg.row (bo m) = X := ⟨_, rfl⟩;have hX2 : X.size = 28 := by rw [← hX]; rfl
  rw [hX] at S one;have HX := hid hX;have HX2 := hid hX2;have ONE := hid one;have x := S.x;have t := S.res;have b60 := hid (bm S.bel (g := w.heap.size + 1) (by omega) X);have t60 := hid (setRow_heap wr (w.heap.size + 1) _ X _ _ S.res);clear hX hX2 one S H1 KM KF;refine aQ ?_;refine bg rfl 28 (.tmp 4) rfl g 28 _ (0, 0) (by rfl) x _ Tryz.underlying28 rfl (by rw [HX2.out]; rfl) ?_;refine aB rfl fun K hK => ?_; go_simp; refine hK _ _ ?_; clear hK K
  refine bh rfl 28 (.tmp 2) (.tmp 231) rfl (w.heap.size + 1) 28 _ X (by rfl) (by rfl) t (by rw [HX2.out]; rfl) (by rw [HX2.out]; rfl) ONE.out ?_;have b60 := b60.out;have t60 := t60.out;generalize wr.setRow (w.heap.size + 1) X = w60 at b60 t60 ⊢;clear x t;go_simp
  go_wp2_with fail
  refine aH (v := .tuple #[.agg X, .bool (br m l)]) ?_ rfl ⟨by rw [HX.out], b60⟩;have hr := aJ (P := Tryz.prog) w60 (w.heap.size + 1) 28 28 X (0, 0) _ t60 (show Tryz.prog.underlying 28 = _ from Tryz.underlying28) (by rfl) (by rw [HX2.out]; rfl);rw [HK.out]
  simp [results, Tryz.f39]
  show ((Sem.run Tryz.prog (loadVar 28 ⟨w.heap.size + 1, 0, none⟩) w60).andThen _) = _;rw [hr]
  simp
theorem sQ (m : Mg) (l : Ls) (w : World) (h0 : ¬ (m.op = 0)) (h2 : ¬ (m.op = 2)) (h3 : ¬ (m.op = 3)) (h6 : ¬ (m.op = 6)) (h8 : ¬ (m.op = 8 ∨ m.op = 4)) (hg : (m.op = 10) ∨ (m.op = 12) ∨ (m.op = 14)) (hm : MgM w m l) (hl : l.mods.length ≤ 1000000000)
  (kf : m.op = 3 → ∀ w' : World, Below w.heap.size w w' → Calls Tryz.prog 90 #[m.filt] w' fun e w2 => e = .returned (.bool (dz l.filt)) ∧ Below w'.heap.size w' w2) :
  Cr 39 #[.agg (Mg.row m)] w (.tuple #[.agg (Mg.row (bo m)), .bool (br m l)]) := by
 have H1 := hid (Mg.row_one hm);have km := fun w' (hb : Below w.heap.size w w') => eB m.mods l.mods w' (hm.mods.below hb) hl
 obtain ⟨af, cf, hf⟩ := hm.filt.shape;obtain ⟨az, cz, hs, -, -⟩ := hm.sel;obtain ⟨am, cm, hmo, -, -⟩ := hm.mods;obtain ⟨aa, ca, hat, -, -⟩ := hm.attrs;obtain ⟨ak, ck, hct, -, -⟩ := hm.ctl;obtain ⟨nf, hnf⟩ : ∃ n, l.filt.length = n := ⟨_, rfl⟩;obtain ⟨nz, hns⟩ : ∃ n, l.sel.length = n := ⟨_, rfl⟩;obtain ⟨nm, hnm⟩ : ∃ n, l.mods.length = n := ⟨_, rfl⟩;obtain ⟨na, hna⟩ : ∃ n, l.attrs.length = n := ⟨_, rfl⟩;obtain ⟨nk, hnk⟩ : ∃ n, l.ctl.length = n := ⟨_, rfl⟩;rw [hnf] at hf;rw [hns] at hs;rw [hnm] at hmo;rw [hna] at hat;rw [hnk] at hct;rw [hf] at kf;rw [hmo] at km;have KM := hid km;have KF := hid kf;have LF := hid hf;have LS := hid hs;have LM := hid hmo;have LA := hid hat;have LC := hid hct;clear km hf hs hmo hat hct hnf hns hnm hna hnk;have HG := hid hg;clear hg;have b1 : Below w.heap.size w ((w.alloc (.cells m.row 28)).alloc (.cells Zm 28)) := ((aq _ _).alloc (ah _) _).alloc (by simp) _;have m1 : ((w.alloc (.cells m.row 28)).alloc (.cells Zm 28)).heap[w.heap.size]? = some (.cells m.row 28 (0, 0)) := (alloc_old _ _ _ (by simp)).trans (bi _ _ _ rfl);have t1 : ((w.alloc (.cells m.row 28)).alloc (.cells Zm 28)).heap[w.heap.size + 1]? = some (.cells (Mg.row {}) 28 (0, 0)) := bi _ _ _ (by simp);clear hm hl kf
 go_enter Tryz.func39, Tryz.ntmps39
 refine wp_seq ?_;refine aQ ?_
 iterate 2 (refine aB rfl fun K hK => ?_; go_simp; refine hK _ _ ?_; clear hK K)
 generalize ((w.alloc (.cells m.row 28)).alloc (.cells Zm 28)) = w1 at b1 m1 t1 ⊢;have q0 := (ad m1 0).trans (show _ = some (Value.int .i64 m.id) from rfl);have q1 := (ad m1 1).trans (show _ = some (Value.int .i64 m.op) from rfl);have q27 := (ad m1 27).trans (show _ = some (Value.slice ak nk ck) from by rw [← LC.out]; rfl);obtain ⟨X0, hX⟩ : ∃ X : Array Value, #[.int .i64 m.id, .int .i64 m.op, Es, I0, Bf, Es, I0, I0, I0, I0, Bf, Sn, Sn, Sn, Sn, Es, Es, Bf, Bf, Es, Es, Es, Bf, I0, I0, Es, Es, .slice ak nk ck] = X := ⟨_, rfl⟩;have HX2 := hid (show X0.all (·.oneCell') = true by rw [← hX]; simp [Value.oneCell']);have HX3 := hid (show X0.size = 28 by rw [← hX]; rfl);have HX := hid hX;clear hX
 go_upto_region 1 with fail
 refine aQ ?_
 iterate 6 (refine aB rfl fun K hK => ?_; go_simp; refine hK _ _ ?_; clear hK K)
 refine aB rfl fun K hK => ?_
 go_simp;rw [HX.out];refine hK _ _ ?_; clear hK K
 clear q0 q1 q27;refine aB rfl fun K hK => ?_; go_simp; refine hK _ _ ?_; clear hK K
 have n2 := alb w1 Zm 28;have b2 := b1.trans (n2.mono b1.size);have m2 := (n2.block _ (gl m1)).trans m1;have t2 := (n2.block _ (gl t1)).trans t1;have x2 := alz w1 Zm 28;have hlt : w.heap.size + 1 < w1.heap.size := (gl t1);clear b1 m1 t1 n2;generalize w1.alloc (.cells Zm 28) = w2 at b2 m2 t2 x2 ⊢;generalize w1.heap.size = g at x2 hlt ⊢;refine bh rfl 28 (.tmp 4) (.tmp 12) rfl g 28 _ X0 (by rfl) (by rfl) x2 (by rw [HX3.out]; rfl) (by rw [HX3.out]; rfl) HX2.out ?_;have S : BaS w m X0 g (w2.setRow g X0) := ⟨(setRow_other w2 g w.heap.size X0 (by omega)).trans m2, (setRow_other w2 g (w.heap.size + 1) X0 (by omega)).trans t2, setRow_heap w2 g _ X0 _ _ x2, bm b2 (g := g) (by omega) X0, hlt⟩;clear b2 m2 t2 x2 HX2 HX3;generalize w2.setRow g X0 = wr at S ⊢;rw [← HX.out] at S;clear HX;replace S := S.as (show _ = Mg.row ({ id := m.id, op := m.op, ctl := .slice ak nk ck } : Mg) from rfl);have q1 := (ad S.m 1).trans (show _ = some (Value.int .i64 m.op) from rfl);go_simp;clear q1;have i0 : (m.op == 0) = false := aE h0;have i2 : (m.op == 2) = false := aE h2;have i3 : (m.op == 3) = false := aE h3;have i6 : (m.op == 6) = false := aE h6;have q1 := (ad S.m 1).trans (show _ = some (.int .i64 m.op : Value) from rfl);have aO := alz wr #[.int .i64 8, .int .i64 4] 3;have kc := gN m.op wr.heap.size [8, 4] (wr.alloc (.cells #[.int .i64 8, .int .i64 4] 3)) (by simp) (fun j hj => by
  have h2 : j < 2 := hj;have hcases : j = 0 ∨ j = 1 := by omega
  rcases hcases with rfl | rfl
  ·exact (ad aO 0).trans rfl
  ·exact (ad aO 1).trans rfl)
 rw [show ([8, 4] : List Int).contains m.op = false from by simp only [List.contains_cons, List.contains_nil, Bool.or_false, Bool.or_eq_false_iff, beq_eq_false_iff_ne]; omega] at kc;have S2 := S.to ((aq wr.heap.size wr).alloc (ah _) (.cells #[.int .i64 8, .int .i64 4] 3));clear aO
 go_wp2_with fail
 clear q1 S;generalize (wr.alloc (.cells #[.int .i64 8, .int .i64 4] 3)) = wr at S2 kc ⊢;refine ag kc ?_;rintro e w' ⟨rfl, hw'⟩;obtain rfl := hw'.symm;clear kc;have S := S2;clear S2;refine if h10 : m.op = 10 then ?A22 else ?B22
 case' A22 =>
  have i10 : (m.op == 10) = true := by rw [h10]; rfl
  have q1 := (ad S.m 1).trans (show _ = some (.int .i64 m.op : Value) from rfl);have q2 := (ad S.m 2).trans (show _ = some (.string ⟨m.dn.toArray⟩ : Value) from rfl)
  go_upto_region 18 with fail
  have s := (ad S.x 2).trans (show _ = some (Es : Value) from rfl);have z := aj S.x 2;replace S := (S.set 2 (.string ⟨m.dn.toArray⟩)).as (show _ = Mg.row ({ id := m.id, op := m.op, ctl := .slice ak nk ck, dn := m.dn } : Mg) from rfl)
  go_upto_region 36 with fail
  clear s z;generalize wr.setCell ⟨g, 2, none⟩ (.string ⟨m.dn.toArray⟩) = wr at S ⊢;clear q1 q2;replace S := S.as (show _ = Mg.row (bo m) from by rw [bo, if_neg h0, if_neg h3, if_neg h6, if_neg h8, if_pos h10]; simp only [Mg.row, LC.out]);have HK := hid (show br m l = true from by rw [br, if_neg h0, if_neg h2, if_neg h3, if_neg h6, if_neg h8, if_pos h10])
 case' B22 =>
  have i10 : (m.op == 10) = false := aE h10;refine if h12 : m.op = 12 then ?A21 else ?B21
  case' A21 =>
   have i12 : (m.op == 12) = true := by rw [h12]; rfl
   have q1 := (ad S.m 1).trans (show _ = some (.int .i64 m.op : Value) from rfl)
   go_upto_region 20 with fail
   clear q1;refine aR (S := fun w' => w'.heap[w.heap.size]? = some (.cells m.row 28 (0, 0))) (by kernel_rfl) ?_;replace S := S.drew
   change wpAnyH _ _ _ _ _ _ _ _ wr.drew
   generalize wr.drew = wr at S ⊢;refine tp 0 ⟨w.heap.size, 2, none⟩ rfl S.m ?_;refine tn 1 (.string ⟨m.dn.toArray⟩) rfl (fun w' hS => by have q := (ad hS 2).trans (show _ = some (.string ⟨m.dn.toArray⟩ : Value) from rfl); go_simp) S.m ?_;refine tp 2 ⟨w.heap.size, 15, none⟩ rfl S.m ?_;refine tn 3 (.string ⟨m.newRdn.toArray⟩) rfl (fun w' hS => by have q := (ad hS 15).trans (show _ = some (.string ⟨m.newRdn.toArray⟩ : Value) from rfl); go_simp) S.m ?_;refine tp 4 ⟨w.heap.size, 17, none⟩ rfl S.m ?_;refine tn 5 (.bool m.delOld) rfl (fun w' hS => by have q := (ad hS 17).trans (show _ = some (.bool m.delOld : Value) from rfl); go_simp) S.m ?_;refine tp 6 ⟨w.heap.size, 18, none⟩ rfl S.m ?_;refine tn 7 (.bool m.hasSup) rfl (fun w' hS => by have q := (ad hS 18).trans (show _ = some (.bool m.hasSup : Value) from rfl); go_simp) S.m ?_;refine tp 8 ⟨w.heap.size, 16, none⟩ rfl S.m ?_;refine tn 9 (.string ⟨m.newSup.toArray⟩) rfl (fun w' hS => by have q := (ad hS 16).trans (show _ = some (.string ⟨m.newSup.toArray⟩ : Value) from rfl); go_simp) S.m ?_;refine tp 10 ⟨g, 2, none⟩ rfl S.m ?_;have s := (ad S.x 2).trans (show _ = some (Es : Value) from rfl);have z := aj S.x 2;replace S := (S.set 2 (.string ⟨m.dn.toArray⟩)).as (show _ = Mg.row ({ id := m.id, op := m.op, ctl := .slice ak nk ck, dn := m.dn } : Mg) from rfl);refine ao 11 rfl (fun K hK => ?_); go_simp; refine hK _ _ S.m ?_; clear hK K
   clear s z;generalize wr.setCell ⟨g, 2, none⟩ (.string ⟨m.dn.toArray⟩) = wr at S ⊢;refine tp 12 ⟨g, 15, none⟩ rfl S.m ?_;have s := (ad S.x 15).trans (show _ = some (Es : Value) from rfl);have z := aj S.x 15;replace S := (S.set 15 (.string ⟨m.newRdn.toArray⟩)).as (show _ = Mg.row ({ id := m.id, op := m.op, ctl := .slice ak nk ck, dn := m.dn, newRdn := m.newRdn } : Mg) from rfl);refine ao 13 rfl (fun K hK => ?_); go_simp; refine hK _ _ S.m ?_; clear hK K
   clear s z;generalize wr.setCell ⟨g, 15, none⟩ (.string ⟨m.newRdn.toArray⟩) = wr at S ⊢;refine tp 14 ⟨g, 17, none⟩ rfl S.m ?_;have s := (ad S.x 17).trans (show _ = some (Bf : Value) from rfl);have z := aj S.x 17;replace S := (S.set 17 (.bool m.delOld)).as (show _ = Mg.row ({ id := m.id, op := m.op, ctl := .slice ak nk ck, dn := m.dn, newRdn := m.newRdn, delOld := m.delOld } : Mg) from rfl);refine ao 15 rfl (fun K hK => ?_); go_simp; refine hK _ _ S.m ?_; clear hK K
   clear s z;generalize wr.setCell ⟨g, 17, none⟩ (.bool m.delOld) = wr at S ⊢;refine tp 16 ⟨g, 18, none⟩ rfl S.m ?_;have s := (ad S.x 18).trans (show _ = some (Bf : Value) from rfl);have z := aj S.x 18;replace S := (S.set 18 (.bool m.hasSup)).as (show _ = Mg.row ({ id := m.id, op := m.op, ctl := .slice ak nk ck, dn := m.dn, newRdn := m.newRdn, delOld := m.delOld, hasSup := m.hasSup } : Mg) from rfl);refine ao 17 rfl (fun K hK => ?_); go_simp; refine hK _ _ S.m ?_; clear hK K
   clear s z;generalize wr.setCell ⟨g, 18, none⟩ (.bool m.hasSup) = wr at S ⊢;refine tp 18 ⟨g, 16, none⟩ rfl S.m ?_;have s := (ad S.x 16).trans (show _ = some (Es : Value) from rfl);have z := aj S.x 16;replace S := (S.set 16 (.string ⟨m.newSup.toArray⟩)).as (show _ = Mg.row ({ id := m.id, op := m.op, ctl := .slice ak nk ck, dn := m.dn, newRdn := m.newRdn, delOld := m.delOld, hasSup := m.hasSup, newSup := m.newSup } : Mg) from rfl);refine ao 19 rfl (fun K hK => ?_); go_simp; refine hK _ _ S.m ?_; clear hK K
   clear s z;generalize wr.setCell ⟨g, 16, none⟩ (.string ⟨m.newSup.toArray⟩) = wr at S ⊢;refine aV (by kernel_rfl) ?_ _
   try simp only [Exit.then]
   refine ‹∀ (a : Act) (w : World), Code.wp _ _ _ a w → _› _ _ ?_;have q18 := (ad S.m 18).trans (show _ = some (.bool m.hasSup : Value) from rfl);have q16 := (ad S.m 16).trans (show _ = some (.string ⟨m.newSup.toArray⟩ : Value) from rfl);refine if k1 : m.hasSup = true then ?A20 else ?B20
   case' A20 =>
    go_upto_region 36 with fail
    clear q18 q16;replace S := S.as (show _ = Mg.row (bo m) from by rw [bo, if_neg h0, if_neg h3, if_neg h6, if_neg h8, if_neg h10, if_pos h12]; simp only [Mg.row, LC.out]);have HK := hid (show br m l = true from by rw [br, if_neg h0, if_neg h2, if_neg h3, if_neg h6, if_neg h8, if_neg h10, if_pos h12]; simp [k1])
   case' B20 =>
    replace k1 : m.hasSup = false := Bool.eq_false_iff.2 k1;refine if k2 : m.newSup = [] then ?A19 else ?B19
    case' A19 =>
     go_upto_region 36 with fail
     clear q18 q16;replace S := S.as (show _ = Mg.row (bo m) from by rw [bo, if_neg h0, if_neg h3, if_neg h6, if_neg h8, if_neg h10, if_pos h12]; simp only [Mg.row, LC.out]);have HK := hid (show br m l = true from by rw [br, if_neg h0, if_neg h2, if_neg h3, if_neg h6, if_neg h8, if_neg h10, if_pos h12]; simp [k1, k2])
    case' B19 =>
     have k3 : m.newSup.isEmpty = false := by cases hq : m.newSup with
      | nil => exact absurd hq k2
      | cons a b => rfl
     go_upto_region 36 with fail
     clear q18 q16;replace S := S.as (show _ = Mg.row (bo m) from by rw [bo, if_neg h0, if_neg h3, if_neg h6, if_neg h8, if_neg h10, if_pos h12]; simp only [Mg.row, LC.out]);have HK := hid (show br m l = false from by rw [br, if_neg h0, if_neg h2, if_neg h3, if_neg h6, if_neg h8, if_neg h10, if_pos h12]; simp [k1, k2])
  case' B21 =>
   have i12 : (m.op == 12) = false := aE h12;have h14 : m.op = 14 := by have := HG.out; omega
   clear HG;have i14 : (m.op == 14) = true := by rw [h14]; rfl
   have q1 := (ad S.m 1).trans (show _ = some (.int .i64 m.op : Value) from rfl)
   go_upto_region 23 with fail
   clear q1;refine aR (S := fun w' => w'.heap[w.heap.size]? = some (.cells m.row 28 (0, 0))) (by kernel_rfl) ?_;replace S := S.drew
   change wpAnyH _ _ _ _ _ _ _ _ wr.drew
   generalize wr.drew = wr at S ⊢;refine tp 0 ⟨w.heap.size, 2, none⟩ rfl S.m ?_;refine tn 1 (.string ⟨m.dn.toArray⟩) rfl (fun w' hS => by have q := (ad hS 2).trans (show _ = some (.string ⟨m.dn.toArray⟩ : Value) from rfl); go_simp) S.m ?_;refine tp 2 ⟨w.heap.size, 19, none⟩ rfl S.m ?_;refine tn 3 (.string ⟨m.typ.toArray⟩) rfl (fun w' hS => by have q := (ad hS 19).trans (show _ = some (.string ⟨m.typ.toArray⟩ : Value) from rfl); go_simp) S.m ?_;refine tp 4 ⟨w.heap.size, 20, none⟩ rfl S.m ?_;refine tn 5 (.string ⟨m.value.toArray⟩) rfl (fun w' hS => by have q := (ad hS 20).trans (show _ = some (.string ⟨m.value.toArray⟩ : Value) from rfl); go_simp) S.m ?_;refine tp 6 ⟨g, 2, none⟩ rfl S.m ?_;have s := (ad S.x 2).trans (show _ = some (Es : Value) from rfl);have z := aj S.x 2;replace S := (S.set 2 (.string ⟨m.dn.toArray⟩)).as (show _ = Mg.row ({ id := m.id, op := m.op, ctl := .slice ak nk ck, dn := m.dn } : Mg) from rfl);refine ao 7 rfl (fun K hK => ?_); go_simp; refine hK _ _ S.m ?_; clear hK K
   clear s z;generalize wr.setCell ⟨g, 2, none⟩ (.string ⟨m.dn.toArray⟩) = wr at S ⊢;refine tp 8 ⟨g, 19, none⟩ rfl S.m ?_;have s := (ad S.x 19).trans (show _ = some (Es : Value) from rfl);have z := aj S.x 19;replace S := (S.set 19 (.string ⟨m.typ.toArray⟩)).as (show _ = Mg.row ({ id := m.id, op := m.op, ctl := .slice ak nk ck, dn := m.dn, typ := m.typ } : Mg) from rfl);refine ao 9 rfl (fun K hK => ?_); go_simp; refine hK _ _ S.m ?_; clear hK K
   clear s z;generalize wr.setCell ⟨g, 19, none⟩ (.string ⟨m.typ.toArray⟩) = wr at S ⊢;refine tp 10 ⟨g, 20, none⟩ rfl S.m ?_;have s := (ad S.x 20).trans (show _ = some (Es : Value) from rfl);have z := aj S.x 20;replace S := (S.set 20 (.string ⟨m.value.toArray⟩)).as (show _ = Mg.row ({ id := m.id, op := m.op, ctl := .slice ak nk ck, dn := m.dn, typ := m.typ, value := m.value } : Mg) from rfl);refine ao 11 rfl (fun K hK => ?_); go_simp; refine hK _ _ S.m ?_; clear hK K
   clear s z;generalize wr.setCell ⟨g, 20, none⟩ (.string ⟨m.value.toArray⟩) = wr at S ⊢;refine aV (by kernel_rfl) ?_ _
   try simp only [Exit.then]
   refine ‹∀ (a : Act) (w : World), Code.wp _ _ _ a w → _› _ _ ?_
   go_upto_region 36 with fail
   replace S := S.as (show _ = Mg.row (bo m) from by rw [bo, if_neg h0, if_neg h3, if_neg h6, if_neg h8, if_neg h10, if_neg h12, if_pos h14]; simp only [Mg.row, LC.out]);have HK := hid (show br m l = true from by rw [br, if_neg h0, if_neg h2, if_neg h3, if_neg h6, if_neg h8, if_neg h10, if_neg h12, if_pos h14])
 all_goals
  have one := fF H1.out;obtain ⟨X, hX⟩ : ∃ X, Mg.row (bo m) = X := ⟨_, rfl⟩;have hX2 : X.size = 28 := by rw [← hX]; rfl
  rw [hX] at S one;have HX := hid hX;have HX2 := hid hX2;have ONE := hid one;have x := S.x;have t := S.res;have b60 := hid (bm S.bel (g := w.heap.size + 1) (by omega) X);have t60 := hid (setRow_heap wr (w.heap.size + 1) _ X _ _ S.res);clear hX hX2 one S H1 KM KF;refine aQ ?_;refine bg rfl 28 (.tmp 4) rfl g 28 _ (0, 0) (by rfl) x _ Tryz.underlying28 rfl (by rw [HX2.out]; rfl) ?_;refine aB rfl fun K hK => ?_; go_simp; refine hK _ _ ?_; clear hK K
  refine bh rfl 28 (.tmp 2) (.tmp 231) rfl (w.heap.size + 1) 28 _ X (by rfl) (by rfl) t (by rw [HX2.out]; rfl) (by rw [HX2.out]; rfl) ONE.out ?_;have b60 := b60.out;have t60 := t60.out;generalize wr.setRow (w.heap.size + 1) X = w60 at b60 t60 ⊢;clear x t;go_simp
  go_wp2_with fail
  refine aH (v := .tuple #[.agg X, .bool (br m l)]) ?_ rfl ⟨by rw [HX.out], b60⟩;have hr := aJ (P := Tryz.prog) w60 (w.heap.size + 1) 28 28 X (0, 0) _ t60 (show Tryz.prog.underlying 28 = _ from Tryz.underlying28) (by rfl) (by rw [HX2.out]; rfl);rw [HK.out]
  simp [results, Tryz.f39]
  show ((Sem.run Tryz.prog (loadVar 28 ⟨w.heap.size + 1, 0, none⟩) w60).andThen _) = _;rw [hr]
  simp
theorem sR (m : Mg) (l : Ls) (w : World) (h0 : ¬ (m.op = 0)) (h2 : ¬ (m.op = 2)) (h3 : ¬ (m.op = 3)) (h6 : ¬ (m.op = 6)) (h8 : ¬ (m.op = 8 ∨ m.op = 4)) (h10 : ¬ (m.op = 10)) (h12 : ¬ (m.op = 12)) (h14 : ¬ (m.op = 14)) (hg : (m.op = 16) ∨ (m.op = 23)) (hm : MgM w m l) (hl : l.mods.length ≤ 1000000000)
  (kf : m.op = 3 → ∀ w' : World, Below w.heap.size w w' → Calls Tryz.prog 90 #[m.filt] w' fun e w2 => e = .returned (.bool (dz l.filt)) ∧ Below w'.heap.size w' w2) :
  Cr 39 #[.agg (Mg.row m)] w (.tuple #[.agg (Mg.row (bo m)), .bool (br m l)]) := by
 have H1 := hid (Mg.row_one hm);have km := fun w' (hb : Below w.heap.size w w') => eB m.mods l.mods w' (hm.mods.below hb) hl
 obtain ⟨af, cf, hf⟩ := hm.filt.shape;obtain ⟨az, cz, hs, -, -⟩ := hm.sel;obtain ⟨am, cm, hmo, -, -⟩ := hm.mods;obtain ⟨aa, ca, hat, -, -⟩ := hm.attrs;obtain ⟨ak, ck, hct, -, -⟩ := hm.ctl;obtain ⟨nf, hnf⟩ : ∃ n, l.filt.length = n := ⟨_, rfl⟩;obtain ⟨nz, hns⟩ : ∃ n, l.sel.length = n := ⟨_, rfl⟩;obtain ⟨nm, hnm⟩ : ∃ n, l.mods.length = n := ⟨_, rfl⟩;obtain ⟨na, hna⟩ : ∃ n, l.attrs.length = n := ⟨_, rfl⟩;obtain ⟨nk, hnk⟩ : ∃ n, l.ctl.length = n := ⟨_, rfl⟩;rw [hnf] at hf;rw [hns] at hs;rw [hnm] at hmo;rw [hna] at hat;rw [hnk] at hct;rw [hf] at kf;rw [hmo] at km;have KM := hid km;have KF := hid kf;have LF := hid hf;have LS := hid hs;have LM := hid hmo;have LA := hid hat;have LC := hid hct;clear km hf hs hmo hat hct hnf hns hnm hna hnk;have HG := hid hg;clear hg;have b1 : Below w.heap.size w ((w.alloc (.cells m.row 28)).alloc (.cells Zm 28)) := ((aq _ _).alloc (ah _) _).alloc (by simp) _;have m1 : ((w.alloc (.cells m.row 28)).alloc (.cells Zm 28)).heap[w.heap.size]? = some (.cells m.row 28 (0, 0)) := (alloc_old _ _ _ (by simp)).trans (bi _ _ _ rfl);have t1 : ((w.alloc (.cells m.row 28)).alloc (.cells Zm 28)).heap[w.heap.size + 1]? = some (.cells (Mg.row {}) 28 (0, 0)) := bi _ _ _ (by simp);clear hm hl kf
 go_enter Tryz.func39, Tryz.ntmps39
 refine wp_seq ?_;refine aQ ?_
 iterate 2 (refine aB rfl fun K hK => ?_; go_simp; refine hK _ _ ?_; clear hK K)
 generalize ((w.alloc (.cells m.row 28)).alloc (.cells Zm 28)) = w1 at b1 m1 t1 ⊢;have q0 := (ad m1 0).trans (show _ = some (Value.int .i64 m.id) from rfl);have q1 := (ad m1 1).trans (show _ = some (Value.int .i64 m.op) from rfl);have q27 := (ad m1 27).trans (show _ = some (Value.slice ak nk ck) from by rw [← LC.out]; rfl);obtain ⟨X0, hX⟩ : ∃ X : Array Value, #[.int .i64 m.id, .int .i64 m.op, Es, I0, Bf, Es, I0, I0, I0, I0, Bf, Sn, Sn, Sn, Sn, Es, Es, Bf, Bf, Es, Es, Es, Bf, I0, I0, Es, Es, .slice ak nk ck] = X := ⟨_, rfl⟩;have HX2 := hid (show X0.all (·.oneCell') = true by rw [← hX]; simp [Value.oneCell']);have HX3 := hid (show X0.size = 28 by rw [← hX]; rfl);have HX := hid hX;clear hX
 go_upto_region 1 with fail
 refine aQ ?_
 iterate 6 (refine aB rfl fun K hK => ?_; go_simp; refine hK _ _ ?_; clear hK K)
 refine aB rfl fun K hK => ?_
 go_simp;rw [HX.out];refine hK _ _ ?_; clear hK K
 clear q0 q1 q27;refine aB rfl fun K hK => ?_; go_simp; refine hK _ _ ?_; clear hK K
 have n2 := alb w1 Zm 28;have b2 := b1.trans (n2.mono b1.size);have m2 := (n2.block _ (gl m1)).trans m1;have t2 := (n2.block _ (gl t1)).trans t1;have x2 := alz w1 Zm 28;have hlt : w.heap.size + 1 < w1.heap.size := (gl t1);clear b1 m1 t1 n2;generalize w1.alloc (.cells Zm 28) = w2 at b2 m2 t2 x2 ⊢;generalize w1.heap.size = g at x2 hlt ⊢;refine bh rfl 28 (.tmp 4) (.tmp 12) rfl g 28 _ X0 (by rfl) (by rfl) x2 (by rw [HX3.out]; rfl) (by rw [HX3.out]; rfl) HX2.out ?_;have S : BaS w m X0 g (w2.setRow g X0) := ⟨(setRow_other w2 g w.heap.size X0 (by omega)).trans m2, (setRow_other w2 g (w.heap.size + 1) X0 (by omega)).trans t2, setRow_heap w2 g _ X0 _ _ x2, bm b2 (g := g) (by omega) X0, hlt⟩;clear b2 m2 t2 x2 HX2 HX3;generalize w2.setRow g X0 = wr at S ⊢;rw [← HX.out] at S;clear HX;replace S := S.as (show _ = Mg.row ({ id := m.id, op := m.op, ctl := .slice ak nk ck } : Mg) from rfl);have q1 := (ad S.m 1).trans (show _ = some (Value.int .i64 m.op) from rfl);go_simp;clear q1;have i0 : (m.op == 0) = false := aE h0;have i2 : (m.op == 2) = false := aE h2;have i3 : (m.op == 3) = false := aE h3;have i6 : (m.op == 6) = false := aE h6;have q1 := (ad S.m 1).trans (show _ = some (.int .i64 m.op : Value) from rfl);have aO := alz wr #[.int .i64 8, .int .i64 4] 3;have kc := gN m.op wr.heap.size [8, 4] (wr.alloc (.cells #[.int .i64 8, .int .i64 4] 3)) (by simp) (fun j hj => by
  have h2 : j < 2 := hj;have hcases : j = 0 ∨ j = 1 := by omega
  rcases hcases with rfl | rfl
  ·exact (ad aO 0).trans rfl
  ·exact (ad aO 1).trans rfl)
 rw [show ([8, 4] : List Int).contains m.op = false from by simp only [List.contains_cons, List.contains_nil, Bool.or_false, Bool.or_eq_false_iff, beq_eq_false_iff_ne]; omega] at kc;have S2 := S.to ((aq wr.heap.size wr).alloc (ah _) (.cells #[.int .i64 8, .int .i64 4] 3));clear aO
 go_wp2_with fail
 clear q1 S;generalize (wr.alloc (.cells #[.int .i64 8, .int .i64 4] 3)) = wr at S2 kc ⊢;refine ag kc ?_;rintro e w' ⟨rfl, hw'⟩;obtain rfl := hw'.symm;clear kc;have S := S2;clear S2;have i10 : (m.op == 10) = false := aE h10;have i12 : (m.op == 12) = false := aE h12;have i14 : (m.op == 14) = false := aE h14;refine if h16 : m.op = 16 then ?A25 else ?B25
 case' A25 =>
  have i16 : (m.op == 16) = true := by rw [h16]; rfl
  have q1 := (ad S.m 1).trans (show _ = some (.int .i64 m.op : Value) from rfl);have q23 := (ad S.m 23).trans (show _ = some (.int .i64 m.target : Value) from rfl);have s := (ad S.x 23).trans (show _ = some (Value.int .i64 0) from rfl);have z := aj S.x 23;replace S := (S.set 23 (.int .i64 m.target)).as (show _ = Mg.row ({ id := m.id, op := m.op, ctl := .slice ak nk ck, target := m.target } : Mg) from rfl);have q23' := (ad S.m 23).trans (show _ = some (Value.int .i64 m.target) from rfl);have kc := cM m.target 2147483647 (wr.setCell ⟨g, 23, none⟩ (.int .i64 m.target))
  go_wp2_with fail
  clear s z q1 q23 q23';generalize wr.setCell ⟨g, 23, none⟩ (.int .i64 m.target) = wr at S kc ⊢;refine ag kc ?_;rintro e w' ⟨rfl, hw'⟩;obtain rfl := hw'.symm;clear kc
  go_upto_region 36 with fail
  replace S := S.as (show _ = Mg.row (bo m) from by rw [bo, if_neg h0, if_neg h3, if_neg h6, if_neg h8, if_neg h10, if_neg h12, if_neg h14, if_pos h16]; simp only [Mg.row, LC.out]);have HK := hid (show br m l = bB m.target 2147483647 from by rw [br, if_neg h0, if_neg h2, if_neg h3, if_neg h6, if_neg h8, if_neg h10, if_neg h12, if_neg h14, if_pos h16])
 case' B25 =>
  have i16 : (m.op == 16) = false := aE h16;have h23 : m.op = 23 := by have := HG.out; omega
  clear HG;have i23 : (m.op == 23) = true := by rw [h23]; rfl
  have q1 := (ad S.m 1).trans (show _ = some (.int .i64 m.op : Value) from rfl)
  go_upto_region 28 with fail
  clear q1;refine aR (S := fun w' => w'.heap[w.heap.size]? = some (.cells m.row 28 (0, 0))) (by kernel_rfl) ?_;replace S := S.drew
  change wpAnyH _ _ _ _ _ _ _ _ wr.drew
  generalize wr.drew = wr at S ⊢;refine tp 0 ⟨w.heap.size, 21, none⟩ rfl S.m ?_;refine tn 1 (.string ⟨m.oid.toArray⟩) rfl (fun w' hS => by have q := (ad hS 21).trans (show _ = some (.string ⟨m.oid.toArray⟩ : Value) from rfl); go_simp) S.m ?_;refine tp 2 ⟨w.heap.size, 22, none⟩ rfl S.m ?_;refine tn 3 (.bool m.has) rfl (fun w' hS => by have q := (ad hS 22).trans (show _ = some (.bool m.has : Value) from rfl); go_simp) S.m ?_;refine tp 4 ⟨w.heap.size, 20, none⟩ rfl S.m ?_;refine tn 5 (.string ⟨m.value.toArray⟩) rfl (fun w' hS => by have q := (ad hS 20).trans (show _ = some (.string ⟨m.value.toArray⟩ : Value) from rfl); go_simp) S.m ?_;refine tp 6 ⟨g, 21, none⟩ rfl S.m ?_;have s := (ad S.x 21).trans (show _ = some (Es : Value) from rfl);have z := aj S.x 21;replace S := (S.set 21 (.string ⟨m.oid.toArray⟩)).as (show _ = Mg.row ({ id := m.id, op := m.op, ctl := .slice ak nk ck, oid := m.oid } : Mg) from rfl);refine ao 7 rfl (fun K hK => ?_); go_simp; refine hK _ _ S.m ?_; clear hK K
  clear s z;generalize wr.setCell ⟨g, 21, none⟩ (.string ⟨m.oid.toArray⟩) = wr at S ⊢;refine tp 8 ⟨g, 22, none⟩ rfl S.m ?_;have s := (ad S.x 22).trans (show _ = some (Bf : Value) from rfl);have z := aj S.x 22;replace S := (S.set 22 (.bool m.has)).as (show _ = Mg.row ({ id := m.id, op := m.op, ctl := .slice ak nk ck, oid := m.oid, has := m.has } : Mg) from rfl);refine ao 9 rfl (fun K hK => ?_); go_simp; refine hK _ _ S.m ?_; clear hK K
  clear s z;generalize wr.setCell ⟨g, 22, none⟩ (.bool m.has) = wr at S ⊢;refine tp 10 ⟨g, 20, none⟩ rfl S.m ?_;have s := (ad S.x 20).trans (show _ = some (Es : Value) from rfl);have z := aj S.x 20;replace S := (S.set 20 (.string ⟨m.value.toArray⟩)).as (show _ = Mg.row ({ id := m.id, op := m.op, ctl := .slice ak nk ck, oid := m.oid, has := m.has, value := m.value } : Mg) from rfl);refine ao 11 rfl (fun K hK => ?_); go_simp; refine hK _ _ S.m ?_; clear hK K
  clear s z;generalize wr.setCell ⟨g, 20, none⟩ (.string ⟨m.value.toArray⟩) = wr at S ⊢;refine aV (by kernel_rfl) ?_ _
  try simp only [Exit.then]
  refine ‹∀ (a : Act) (w : World), Code.wp _ _ _ a w → _› _ _ ?_;have q22 := (ad S.m 22).trans (show _ = some (.bool m.has : Value) from rfl);have q20 := (ad S.m 20).trans (show _ = some (.string ⟨m.value.toArray⟩ : Value) from rfl);refine if k1 : m.has = true then ?A24 else ?B24
  case' A24 =>
   go_upto_region 36 with fail
   clear q22 q20;replace S := S.as (show _ = Mg.row (bo m) from by rw [bo, if_neg h0, if_neg h3, if_neg h6, if_neg h8, if_neg h10, if_neg h12, if_neg h14, if_neg h16, if_pos h23]; simp only [Mg.row, LC.out]);have HK := hid (show br m l = true from by rw [br, if_neg h0, if_neg h2, if_neg h3, if_neg h6, if_neg h8, if_neg h10, if_neg h12, if_neg h14, if_neg h16, if_pos h23]; simp [k1])
  case' B24 =>
   replace k1 : m.has = false := Bool.eq_false_iff.2 k1;refine if k2 : m.value = [] then ?A23 else ?B23
   case' A23 =>
    go_upto_region 36 with fail
    clear q22 q20;replace S := S.as (show _ = Mg.row (bo m) from by rw [bo, if_neg h0, if_neg h3, if_neg h6, if_neg h8, if_neg h10, if_neg h12, if_neg h14, if_neg h16, if_pos h23]; simp only [Mg.row, LC.out]);have HK := hid (show br m l = true from by rw [br, if_neg h0, if_neg h2, if_neg h3, if_neg h6, if_neg h8, if_neg h10, if_neg h12, if_neg h14, if_neg h16, if_pos h23]; simp [k1, k2])
   case' B23 =>
    have k3 : m.value.isEmpty = false := by cases hq : m.value with
     | nil => exact absurd hq k2
     | cons a b => rfl
    go_upto_region 36 with fail
    clear q22 q20;replace S := S.as (show _ = Mg.row (bo m) from by rw [bo, if_neg h0, if_neg h3, if_neg h6, if_neg h8, if_neg h10, if_neg h12, if_neg h14, if_neg h16, if_pos h23]; simp only [Mg.row, LC.out]);have HK := hid (show br m l = false from by rw [br, if_neg h0, if_neg h2, if_neg h3, if_neg h6, if_neg h8, if_neg h10, if_neg h12, if_neg h14, if_neg h16, if_pos h23]; simp [k1, k2])
 all_goals
  have one := fF H1.out;obtain ⟨X, hX⟩ : ∃ X, Mg.row (bo m) = X := ⟨_, rfl⟩;have hX2 : X.size = 28 := by rw [← hX]; rfl
  rw [hX] at S one;have HX := hid hX;have HX2 := hid hX2;have ONE := hid one;have x := S.x;have t := S.res;have b60 := hid (bm S.bel (g := w.heap.size + 1) (by omega) X);have t60 := hid (setRow_heap wr (w.heap.size + 1) _ X _ _ S.res);clear hX hX2 one S H1 KM KF;refine aQ ?_;refine bg rfl 28 (.tmp 4) rfl g 28 _ (0, 0) (by rfl) x _ Tryz.underlying28 rfl (by rw [HX2.out]; rfl) ?_;refine aB rfl fun K hK => ?_; go_simp; refine hK _ _ ?_; clear hK K
  refine bh rfl 28 (.tmp 2) (.tmp 231) rfl (w.heap.size + 1) 28 _ X (by rfl) (by rfl) t (by rw [HX2.out]; rfl) (by rw [HX2.out]; rfl) ONE.out ?_;have b60 := b60.out;have t60 := t60.out;generalize wr.setRow (w.heap.size + 1) X = w60 at b60 t60 ⊢;clear x t;go_simp
  go_wp2_with fail
  refine aH (v := .tuple #[.agg X, .bool (br m l)]) ?_ rfl ⟨by rw [HX.out], b60⟩;have hr := aJ (P := Tryz.prog) w60 (w.heap.size + 1) 28 28 X (0, 0) _ t60 (show Tryz.prog.underlying 28 = _ from Tryz.underlying28) (by rfl) (by rw [HX2.out]; rfl);rw [HK.out]
  simp [results, Tryz.f39]
  show ((Sem.run Tryz.prog (loadVar 28 ⟨w.heap.size + 1, 0, none⟩) w60).andThen _) = _;rw [hr]
  simp
end Go.Proofs.YthjaiigijbjloaaGreatDoor
