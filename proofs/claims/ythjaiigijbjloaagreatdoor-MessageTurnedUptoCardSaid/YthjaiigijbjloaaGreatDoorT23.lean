/- SmB, SmC, PlainSx, FrA, AlvY, LawBk, LawTu. -/
import Derived.Deep.MidRow
import Derived.Laws.IdiomStrings
import Derived.Laws.BitsAllLaws
import Derived.Test.YthjaiigijbjloaaGreatDoorT22
namespace Go.Proofs.YthjaiigijbjloaaGreatDoor
open Go.RowKit Go.Lib
set_option maxRecDepth 100000
set_option maxHeartbeats 16000000
theorem iN {P : Program} {md : Region.Mode} {ops : Array Oper} {Q : Exit → Act → World → Prop} {S : World → Prop} (i : Nat) (ty : TypeId) (x : Operand) (b o : Nat) (cs : List Value) (d : TypeDesc) {oi : Oper} {fuel : Nat} {listed : Array Bool} {a : Act} {w : World} (hi : ops[i]? = some oi) (ho : oi.op = .load ty x)
  (hs : Region.noSelect ops = true) (hf : Region.free md ops listed i = true) (hr : (Region.ready md ops listed).contains i = true) (hQ : ∀ c a w, Q (.panic c) (a.put oi.dst (.agg cs.toArray)) w → Q (.panic c) a w)
  (hw : Region.wanted oi (yielded ops a.tmps) = true) (hx : a.eval x = .pointer (some ⟨b, o, none⟩)) (hS : ∀ w, S w → w.rangeAt b o cs) (hu : P.underlying ty = some d) (hd : d.isRow = true) (hn : (P.info? ty).map (·.size) = some cs.length) (hSw : S w)
  (h : ∀ K' : Act → World → Prop, (∀ a w, wpAnyH P md ops Q S fuel (listed.setIfInBounds i true) a w → K' a w) → K' (a.put oi.dst (.agg cs.toArray)) w) : wpAnyH P md ops Q S (fuel + 1) listed a w :=
 wpAnyH_take hi hs hf hr hQ (yieldsIf_load_mid hw ty x ho b o hx cs d hS hu hd hn) hSw (h _ (fun _ _ k => k))
theorem tN {w : World} {g o : Nat} {a b c d : Value} (h : w.cell? ⟨g, o, none⟩ = some a ∧ w.cell? ⟨g, o + 1, none⟩ = some b ∧ w.cell? ⟨g, o + 2, none⟩ = some c ∧ w.cell? ⟨g, o + 3, none⟩ = some d) : w.rangeAt g o [a, b, c, d] := by
 obtain ⟨h0, h1, h2, h3⟩ := h;intro j v hv
 match j, hv with
 | 0, hv => simp at hv; subst hv; exact h0
 | 1, hv => simp at hv; subst hv; exact h1
 | 2, hv => simp at hv; subst hv; exact h2
 | 3, hv => simp at hv; subst hv; exact h3
 | _ + 4, hv => simp at hv
theorem kF (v u : Value) (r : List Ct) (w : World) (h1 : ig w v r) (h2 : ig w u r) (hl : r.length ≤ 140737488355328) :
  Cr 53 #[v, u] w (.bool true) := by
 have H1 := hid h1;have H2 := hid h2;obtain ⟨a1, c1, rfl, hc1, hx1⟩ := h1;obtain ⟨a2, c2, rfl, hc2, hx2⟩ := h2;clear hx1 hx2;have hq : ((r.length : Int) == (r.length : Int)) = true := by simp
 go_enter Tryz.func53, Tryz.ntmps53
 go_wp2_with fail
 go_loopw [5] (fun i wr => ∃ k : Nat, i = .int .i64 (k : Int) ∧ k ≤ r.length ∧ Below w.heap.size w wr) (fun i _ => r.length - (RowKit.intOf i).toNat)
 case atStart => exact ⟨0, rfl, by omega, aq _ _⟩
 case round =>
  obtain ⟨k, rfl, hk, hb⟩ := hrel
  by_cases hkl : k < r.length
  ·obtain ⟨x, hx⟩ : ∃ x, r[k] = x := ⟨_, rfl⟩
   have hxk : r[k]? = some x := by rw [aM hkl, hx]
   have hr0 : r ≠ [] := by intro e; rw [e] at hkl; simp at hkl
   obtain ⟨a3, cap3, e3, _, hcell⟩ := (H1.out).below hb;obtain ⟨g, o, ha, hcc⟩ := hcell hr0;obtain ⟨a4, cap4, e4, _, hcell4⟩ := (H2.out).below hb;obtain ⟨g', o', ha', hcc'⟩ := hcell4 hr0;cases e3;cases e4;subst ha ha';have i1 : (k : Int) < (r.length : Int) := by omega
   have i3 : decide ((k : Int) < (r.length : Int)) = true := aA i1;have hbs := hb.size;have R1 : wr.rangeAt g (o + k * 4) [.string ⟨x.oid.toArray⟩, .bool x.crit, .bool x.has, .string ⟨x.value.toArray⟩] := tN (hcc k x hxk);have R2 : wr.rangeAt g' (o' + k * 4) [.string ⟨x.oid.toArray⟩, .bool x.crit, .bool x.has, .string ⟨x.value.toArray⟩] := tN (hcc' k x hxk);clear hcc hcell hcc' hcell4 hxk hx
   go_upto_region 6 with fail
   refine aR (S := fun w' => w'.rangeAt g (o + k * 4) [.string ⟨x.oid.toArray⟩, .bool x.crit, .bool x.has, .string ⟨x.value.toArray⟩] ∧ w'.rangeAt g' (o' + k * 4) [.string ⟨x.oid.toArray⟩, .bool x.crit, .bool x.has, .string ⟨x.value.toArray⟩]) (by kernel_rfl) ?_;have TT : wr.drew.rangeAt g (o + k * 4) [.string ⟨x.oid.toArray⟩, .bool x.crit, .bool x.has, .string ⟨x.value.toArray⟩] ∧ wr.drew.rangeAt g' (o' + k * 4) [.string ⟨x.oid.toArray⟩, .bool x.crit, .bool x.has, .string ⟨x.value.toArray⟩] := ⟨R1, R2⟩;have hb := hb.drew
   change wpAnyH _ _ _ _ _ _ _ _ wr.drew
   clear R1 R2;generalize wr.drew = w4 at TT hb ⊢;refine tn 0 (.slice (some ⟨g, o, none⟩) r.length c1) rfl (fun w' hS => by go_simp) TT ?_;refine tn 1 (.int .i64 (k : Int)) rfl (fun w' hS => by go_simp) TT ?_;refine tp 2 ⟨g, o + k * 4, none⟩ rfl TT ?_;refine iN 3 62 (.tmp 19) g (o + k * 4) [.string ⟨x.oid.toArray⟩, .bool x.crit, .bool x.has, .string ⟨x.value.toArray⟩] _ rfl rfl (by kernel_rfl) (by kernel_rfl) (by kernel_rfl) (fun _ _ _ h => h) (by rfl) (by rfl) (fun w' hS => hS.1) Tryz.underlying62 rfl (by rfl) TT (fun K hK => ?_); go_simp; refine hK _ _ ?_; clear hK K
   refine tn 4 (.slice (some ⟨g', o', none⟩) r.length c2) rfl (fun w' hS => by go_simp) TT ?_;refine tn 5 (.int .i64 (k : Int)) rfl (fun w' hS => by go_simp) TT ?_;refine tp 6 ⟨g', o' + k * 4, none⟩ rfl TT ?_;refine iN 7 62 (.tmp 23) g' (o' + k * 4) [.string ⟨x.oid.toArray⟩, .bool x.crit, .bool x.has, .string ⟨x.value.toArray⟩] _ rfl rfl (by kernel_rfl) (by kernel_rfl) (by kernel_rfl) (fun _ _ _ h => h) (by rfl) (by rfl) (fun w' hS => hS.2) Tryz.underlying62 rfl (by rfl) TT (fun K hK => ?_); go_simp; refine hK _ _ ?_; clear hK K
   refine ao 8 rfl (fun K hK => ?_); go_simp; refine hK _ _ TT ?_; clear hK K
   refine aV (by kernel_rfl) ?_ _;simp only [Exit.then];refine ‹∀ (a : Act) (w : World), Code.wp _ _ _ a w → _› _ _ ?_
   go_wp2_with fail
   exact ⟨⟨k + 1, by go_num, by omega, hb⟩, by simp [RowKit.intOf]; omega⟩
  ·obtain rfl : k = r.length := by omega
   go_wp2_with fail
   go_ret
   exact ⟨rfl, hb⟩
theorem tO {w : World} {g o : Nat} {p : Fl} {u : Value} (h0 : w.cell? ⟨g, o, none⟩ = some (.int .i64 p.op)) (h1 : w.cell? ⟨g, o + 1, none⟩ = some (.int .i64 p.n)) (h2 : w.cell? ⟨g, o + 2, none⟩ = some (.string ⟨p.typ.toArray⟩)) (h3 : w.cell? ⟨g, o + 3, none⟩ = some (.string ⟨p.value.toArray⟩)) (h4 : w.cell? ⟨g, o + 4, none⟩ = some (.string ⟨p.init.toArray⟩)) (h5 : w.cell? ⟨g, o + 5, none⟩ = some (.string ⟨p.final.toArray⟩)) (h6 : w.cell? ⟨g, o + 6, none⟩ = some u) :
  w.rangeAt g o [.int .i64 p.op, .int .i64 p.n, .string ⟨p.typ.toArray⟩, .string ⟨p.value.toArray⟩, .string ⟨p.init.toArray⟩, .string ⟨p.final.toArray⟩, u] := by
 intro j v hv
 match j, hv with
 | 0, hv => simp at hv; subst hv; exact h0
 | 1, hv => simp at hv; subst hv; exact h1
 | 2, hv => simp at hv; subst hv; exact h2
 | 3, hv => simp at hv; subst hv; exact h3
 | 4, hv => simp at hv; subst hv; exact h4
 | 5, hv => simp at hv; subst hv; exact h5
 | 6, hv => simp at hv; subst hv; exact h6
 | _ + 7, hv => simp at hv
theorem bZ {w w' : World} {g o : Nat} {cs : List Value} (h : w.rangeAt g o cs) (hb : Below w.heap.size w w') : w'.rangeAt g o cs := fun j v hv => (hb.cell (bj (h j v hv))).trans (h j v hv)
theorem sA {w w' : World} {g : Nat} {x : Obj} (h : Below w.heap.size w w') (hx : w.heap[g]? = some x) : w'.heap[g]? = some x := (h.block g (gl hx)).trans hx
theorem iO {B : Nat} {a w : World} (h : Below B a w) (n : Nat) : Below B a (w.drewN n) := ⟨h.os, h.tape, h.output, h.size, h.block⟩
theorem lU (v u : Value) (r : List Fl) (w : World) (h1 : de w v r) (h2 : de w u r) (hl : r.length ≤ 140737488355328) (hf : ∀ x ∈ r, x.any.length ≤ 140737488355328) :
  Cr 49 #[v, u] w (.bool true) := by
 have H1 := hid h1;have H2 := hid h2;obtain ⟨a1, c1, rfl, hc1, hx1⟩ := h1;obtain ⟨a2, c2, rfl, hc2, hx2⟩ := h2;clear hx1 hx2;have H3 := hid hf;clear hf;have hq : ((r.length : Int) == (r.length : Int)) = true := by simp
 go_enter Tryz.func49, Tryz.ntmps49
 go_wp2_with fail
 go_loopw [5] (fun i wr => ∃ k : Nat, i = .int .i64 (k : Int) ∧ k ≤ r.length ∧ Below w.heap.size w wr) (fun i _ => r.length - (RowKit.intOf i).toNat)
 case atStart => exact ⟨0, rfl, by omega, aq _ _⟩
 case round =>
  obtain ⟨k, rfl, hk, hb⟩ := hrel
  by_cases hkl : k < r.length
  ·obtain ⟨x, hx⟩ : ∃ x, r[k] = x := ⟨_, rfl⟩
   have hxk : r[k]? = some x := by rw [aM hkl, hx]
   have hr0 : r ≠ [] := by intro e; rw [e] at hkl; simp at hkl
   obtain ⟨a3, cap3, e3, _, hcell⟩ := (H1.out).below hb;obtain ⟨g, o, ha, hcc⟩ := hcell hr0;obtain ⟨a4, cap4, e4, _, hcell4⟩ := (H2.out).below hb;obtain ⟨g', o', ha', hcc'⟩ := hcell4 hr0;cases e3;cases e4;subst ha ha';have i1 : (k : Int) < (r.length : Int) := by omega
   have i3 : decide ((k : Int) < (r.length : Int)) = true := aA i1;have hbs := hb.size;obtain ⟨p0, p1, p2, p3, p4, p5, z1, p6, hz1⟩ := hcc k x hxk;obtain ⟨r0, r1, r2, r3, r4, r5, z2, r6, hz2⟩ := hcc' k x hxk;have hxl := H3.out x (List.mem_of_getElem? hxk);have R1 := tO p0 p1 p2 p3 p4 p5 p6;have R2 := tO r0 r1 r2 r3 r4 r5 r6;have HZ1 := hid hz1;have HZ2 := hid hz2;obtain ⟨s1, d1, e5, _, _⟩ := hz1;obtain ⟨s2, d2, e6, _, _⟩ := hz2;subst e5 e6;clear hcc hcell hcc' hcell4 hxk hx p0 p1 p2 p3 p4 p5 p6 r0 r1 r2 r3 r4 r5 r6
   go_upto_region 6 with fail
   refine aR (S := fun w' => w'.rangeAt g (o + k * 7) [.int .i64 x.op, .int .i64 x.n, .string ⟨x.typ.toArray⟩, .string ⟨x.value.toArray⟩, .string ⟨x.init.toArray⟩, .string ⟨x.final.toArray⟩, .slice s1 x.any.length d1] ∧ w'.rangeAt g' (o' + k * 7) [.int .i64 x.op, .int .i64 x.n, .string ⟨x.typ.toArray⟩, .string ⟨x.value.toArray⟩, .string ⟨x.init.toArray⟩, .string ⟨x.final.toArray⟩, .slice s2 x.any.length d2]) (by kernel_rfl) ?_;have TT : wr.drew.rangeAt g (o + k * 7) [.int .i64 x.op, .int .i64 x.n, .string ⟨x.typ.toArray⟩, .string ⟨x.value.toArray⟩, .string ⟨x.init.toArray⟩, .string ⟨x.final.toArray⟩, .slice s1 x.any.length d1] ∧ wr.drew.rangeAt g' (o' + k * 7) [.int .i64 x.op, .int .i64 x.n, .string ⟨x.typ.toArray⟩, .string ⟨x.value.toArray⟩, .string ⟨x.init.toArray⟩, .string ⟨x.final.toArray⟩, .slice s2 x.any.length d2] := ⟨R1, R2⟩;have Z1 := hid (HZ1.out.below (w' := wr.drew) (aq _ _).drew);have Z2 := hid (HZ2.out.below (w' := wr.drew) (aq _ _).drew);have hb := hb.drew
   change wpAnyH _ _ _ _ _ _ _ _ wr.drew
   clear R1 R2 HZ1 HZ2;generalize wr.drew = w4 at TT hb Z1 Z2 ⊢;have bC := aq w4.heap.size w4;refine tn 0 (.slice (some ⟨g, o, none⟩) r.length c1) rfl (fun w' hS => by go_simp) TT ?_;refine tn 1 (.int .i64 (k : Int)) rfl (fun w' hS => by go_simp) TT ?_;refine tp 2 ⟨g, o + k * 7, none⟩ rfl TT ?_;refine iN 3 60 (.tmp 21) g (o + k * 7) [.int .i64 x.op, .int .i64 x.n, .string ⟨x.typ.toArray⟩, .string ⟨x.value.toArray⟩, .string ⟨x.init.toArray⟩, .string ⟨x.final.toArray⟩, .slice s1 x.any.length d1] _ rfl rfl (by kernel_rfl) (by kernel_rfl) (by kernel_rfl) (fun _ _ _ h => h) (by rfl) (by rfl) (fun w' hS => hS.1) Tryz.underlying60 rfl (by rfl) TT (fun K hK => ?_); go_simp; refine hK _ _ ?_; clear hK K
   refine tn 4 (.slice (some ⟨g', o', none⟩) r.length c2) rfl (fun w' hS => by go_simp) TT ?_;refine tn 5 (.int .i64 (k : Int)) rfl (fun w' hS => by go_simp) TT ?_;refine tp 6 ⟨g', o' + k * 7, none⟩ rfl TT ?_;refine iN 7 60 (.tmp 25) g' (o' + k * 7) [.int .i64 x.op, .int .i64 x.n, .string ⟨x.typ.toArray⟩, .string ⟨x.value.toArray⟩, .string ⟨x.init.toArray⟩, .string ⟨x.final.toArray⟩, .slice s2 x.any.length d2] _ rfl rfl (by kernel_rfl) (by kernel_rfl) (by kernel_rfl) (fun _ _ _ h => h) (by rfl) (by rfl) (fun w' hS => hS.2) Tryz.underlying60 rfl (by rfl) TT (fun K hK => ?_); go_simp; refine hK _ _ ?_; clear hK K
   have T0 := hid TT;refine fq 8 9 (by kernel_rfl) rfl (by rfl) rfl (by rfl) (fun K hK => ?P1) (fun K hK => ?P2)
   case' P1 =>
    have fX := alz w4 Zf 60;have m := alb w4 Zf 60;have bC := bC.trans (m.mono bC.size);have TT : (w4.alloc (.cells Zf 60)).rangeAt g (o + k * 7) [.int .i64 x.op, .int .i64 x.n, .string ⟨x.typ.toArray⟩, .string ⟨x.value.toArray⟩, .string ⟨x.init.toArray⟩, .string ⟨x.final.toArray⟩, .slice s1 x.any.length d1] ∧ (w4.alloc (.cells Zf 60)).rangeAt g' (o' + k * 7) [.int .i64 x.op, .int .i64 x.n, .string ⟨x.typ.toArray⟩, .string ⟨x.value.toArray⟩, .string ⟨x.init.toArray⟩, .string ⟨x.final.toArray⟩, .slice s2 x.any.length d2] := ⟨bZ TT.1 m, bZ TT.2 m⟩;go_simp; refine hK _ _ TT ?_; clear hK K
    clear m;obtain ⟨X, hX⟩ : ∃ z, w4.heap.size = z := ⟨_, rfl⟩;generalize (w4.alloc (.cells Zf 60)) = w5 at TT bC fX ⊢;rw [hX] at fX   ⊢;have lX : w4.heap.size ≤ X := Nat.le_of_eq hX;clear hX;refine ao 9 rfl (fun K hK => ?_);have fY := alz w5 Zf 60;have m := alb w5 Zf 60;have lw := bC.size;have bC := bC.trans (m.mono bC.size);have lY : w4.heap.size ≤ w5.heap.size := lw;have TT : (w5.alloc (.cells Zf 60)).rangeAt g (o + k * 7) [.int .i64 x.op, .int .i64 x.n, .string ⟨x.typ.toArray⟩, .string ⟨x.value.toArray⟩, .string ⟨x.init.toArray⟩, .string ⟨x.final.toArray⟩, .slice s1 x.any.length d1] ∧ (w5.alloc (.cells Zf 60)).rangeAt g' (o' + k * 7) [.int .i64 x.op, .int .i64 x.n, .string ⟨x.typ.toArray⟩, .string ⟨x.value.toArray⟩, .string ⟨x.init.toArray⟩, .string ⟨x.final.toArray⟩, .slice s2 x.any.length d2] := ⟨bZ TT.1 m, bZ TT.2 m⟩;have dX : X ≠ w5.heap.size := by have := (gl fX); omega
    have fX := sA m fX;go_simp; refine hK _ _ TT ?_; clear hK K
    clear m;obtain ⟨Y, hY⟩ : ∃ z, w5.heap.size = z := ⟨_, rfl⟩;generalize (w5.alloc (.cells Zf 60)) = w6 at TT bC fY fX ⊢;rw [hY] at fY lY dX ⊢
    
    clear hY;refine ao 10 rfl (fun K hK => ?_);have bC := bm bC lX (Xr x s1 d1);have gX := setRow_heap w6 X _ (Xr x s1 d1) _ _ fX;have TT : (w6.setRow X (Xr x s1 d1)).rangeAt g (o + k * 7) [.int .i64 x.op, .int .i64 x.n, .string ⟨x.typ.toArray⟩, .string ⟨x.value.toArray⟩, .string ⟨x.init.toArray⟩, .string ⟨x.final.toArray⟩, .slice s1 x.any.length d1] ∧ (w6.setRow X (Xr x s1 d1)).rangeAt g' (o' + k * 7) [.int .i64 x.op, .int .i64 x.n, .string ⟨x.typ.toArray⟩, .string ⟨x.value.toArray⟩, .string ⟨x.init.toArray⟩, .string ⟨x.final.toArray⟩, .slice s2 x.any.length d2] := ⟨bZ T0.out.1 bC, bZ T0.out.2 bC⟩;have fY := (setRow_other w6 X Y (Xr x s1 d1) (by omega)).trans fY;refine db 60 (.tmp 6) (.tmp 22) rfl X 60 _ (Xr x s1 d1) (by rfl) (by rfl) fX (by rfl) (by rfl) (by simp [Value.oneCell']) ?_;refine hK _ _ TT ?_; clear hK K
    clear fX;generalize (w6.setRow X (Xr x s1 d1)) = w7 at TT bC gX fY ⊢;have fX := gX;clear gX;refine ao 11 rfl (fun K hK => ?_);have bC := bm bC lY (Xr x s2 d2);have gY := setRow_heap w7 Y _ (Xr x s2 d2) _ _ fY;have TT : (w7.setRow Y (Xr x s2 d2)).rangeAt g (o + k * 7) [.int .i64 x.op, .int .i64 x.n, .string ⟨x.typ.toArray⟩, .string ⟨x.value.toArray⟩, .string ⟨x.init.toArray⟩, .string ⟨x.final.toArray⟩, .slice s1 x.any.length d1] ∧ (w7.setRow Y (Xr x s2 d2)).rangeAt g' (o' + k * 7) [.int .i64 x.op, .int .i64 x.n, .string ⟨x.typ.toArray⟩, .string ⟨x.value.toArray⟩, .string ⟨x.init.toArray⟩, .string ⟨x.final.toArray⟩, .slice s2 x.any.length d2] := ⟨bZ T0.out.1 bC, bZ T0.out.2 bC⟩;have fX := (setRow_other w7 Y X (Xr x s2 d2) (by omega)).trans fX;refine db 60 (.tmp 7) (.tmp 26) rfl Y 60 _ (Xr x s2 d2) (by rfl) (by rfl) fY (by rfl) (by rfl) (by simp [Value.oneCell']) ?_;refine hK _ _ TT ?_; clear hK K
    clear fY;generalize (w7.setRow Y (Xr x s2 d2)) = w8 at TT bC gY fX ⊢;have fY := gY;clear gY
   case' P2 =>
    have fY := alz w4 Zf 60;have m := alb w4 Zf 60;have bC := bC.trans (m.mono bC.size);have TT : (w4.alloc (.cells Zf 60)).rangeAt g (o + k * 7) [.int .i64 x.op, .int .i64 x.n, .string ⟨x.typ.toArray⟩, .string ⟨x.value.toArray⟩, .string ⟨x.init.toArray⟩, .string ⟨x.final.toArray⟩, .slice s1 x.any.length d1] ∧ (w4.alloc (.cells Zf 60)).rangeAt g' (o' + k * 7) [.int .i64 x.op, .int .i64 x.n, .string ⟨x.typ.toArray⟩, .string ⟨x.value.toArray⟩, .string ⟨x.init.toArray⟩, .string ⟨x.final.toArray⟩, .slice s2 x.any.length d2] := ⟨bZ TT.1 m, bZ TT.2 m⟩;go_simp; refine hK _ _ TT ?_; clear hK K
    clear m;obtain ⟨Y, hY⟩ : ∃ z, w4.heap.size = z := ⟨_, rfl⟩;generalize (w4.alloc (.cells Zf 60)) = w5 at TT bC fY ⊢;rw [hY] at fY   ⊢;have lY : w4.heap.size ≤ Y := Nat.le_of_eq hY;clear hY;refine ao 8 rfl (fun K hK => ?_);have fX := alz w5 Zf 60;have m := alb w5 Zf 60;have lw := bC.size;have bC := bC.trans (m.mono bC.size);have lX : w4.heap.size ≤ w5.heap.size := lw;have TT : (w5.alloc (.cells Zf 60)).rangeAt g (o + k * 7) [.int .i64 x.op, .int .i64 x.n, .string ⟨x.typ.toArray⟩, .string ⟨x.value.toArray⟩, .string ⟨x.init.toArray⟩, .string ⟨x.final.toArray⟩, .slice s1 x.any.length d1] ∧ (w5.alloc (.cells Zf 60)).rangeAt g' (o' + k * 7) [.int .i64 x.op, .int .i64 x.n, .string ⟨x.typ.toArray⟩, .string ⟨x.value.toArray⟩, .string ⟨x.init.toArray⟩, .string ⟨x.final.toArray⟩, .slice s2 x.any.length d2] := ⟨bZ TT.1 m, bZ TT.2 m⟩;have dY : Y ≠ w5.heap.size := by have := (gl fY); omega
    have fY := sA m fY;go_simp; refine hK _ _ TT ?_; clear hK K
    clear m;obtain ⟨X, hX⟩ : ∃ z, w5.heap.size = z := ⟨_, rfl⟩;generalize (w5.alloc (.cells Zf 60)) = w6 at TT bC fX fY ⊢;rw [hX] at fX lX dY ⊢
    
    clear hX;refine ao 10 rfl (fun K hK => ?_);have bC := bm bC lX (Xr x s1 d1);have gX := setRow_heap w6 X _ (Xr x s1 d1) _ _ fX;have TT : (w6.setRow X (Xr x s1 d1)).rangeAt g (o + k * 7) [.int .i64 x.op, .int .i64 x.n, .string ⟨x.typ.toArray⟩, .string ⟨x.value.toArray⟩, .string ⟨x.init.toArray⟩, .string ⟨x.final.toArray⟩, .slice s1 x.any.length d1] ∧ (w6.setRow X (Xr x s1 d1)).rangeAt g' (o' + k * 7) [.int .i64 x.op, .int .i64 x.n, .string ⟨x.typ.toArray⟩, .string ⟨x.value.toArray⟩, .string ⟨x.init.toArray⟩, .string ⟨x.final.toArray⟩, .slice s2 x.any.length d2] := ⟨bZ T0.out.1 bC, bZ T0.out.2 bC⟩;have fY := (setRow_other w6 X Y (Xr x s1 d1) (by omega)).trans fY;refine db 60 (.tmp 6) (.tmp 22) rfl X 60 _ (Xr x s1 d1) (by rfl) (by rfl) fX (by rfl) (by rfl) (by simp [Value.oneCell']) ?_;refine hK _ _ TT ?_; clear hK K
    clear fX;generalize (w6.setRow X (Xr x s1 d1)) = w7 at TT bC gX fY ⊢;have fX := gX;clear gX;refine ao 11 rfl (fun K hK => ?_);have bC := bm bC lY (Xr x s2 d2);have gY := setRow_heap w7 Y _ (Xr x s2 d2) _ _ fY;have TT : (w7.setRow Y (Xr x s2 d2)).rangeAt g (o + k * 7) [.int .i64 x.op, .int .i64 x.n, .string ⟨x.typ.toArray⟩, .string ⟨x.value.toArray⟩, .string ⟨x.init.toArray⟩, .string ⟨x.final.toArray⟩, .slice s1 x.any.length d1] ∧ (w7.setRow Y (Xr x s2 d2)).rangeAt g' (o' + k * 7) [.int .i64 x.op, .int .i64 x.n, .string ⟨x.typ.toArray⟩, .string ⟨x.value.toArray⟩, .string ⟨x.init.toArray⟩, .string ⟨x.final.toArray⟩, .slice s2 x.any.length d2] := ⟨bZ T0.out.1 bC, bZ T0.out.2 bC⟩;have fX := (setRow_other w7 Y X (Xr x s2 d2) (by omega)).trans fX;refine db 60 (.tmp 7) (.tmp 26) rfl Y 60 _ (Xr x s2 d2) (by rfl) (by rfl) fY (by rfl) (by rfl) (by simp [Value.oneCell']) ?_;refine hK _ _ TT ?_; clear hK K
    clear fY;generalize (w7.setRow Y (Xr x s2 d2)) = w8 at TT bC gY fX ⊢;have fY := gY;clear gY
   all_goals
    refine aV (by kernel_rfl) ?_ _
    try simp only [Exit.then]
    refine ‹∀ (a : Act) (w : World), Code.wp _ _ _ a w → _› _ _ ?_;have hb := hb.trans (bC.mono hb.size);have kt := fun n => jm (.slice s1 x.any.length d1) (.slice s2 x.any.length d2) x.any x.any (w8.drewN n) ((Z1.out.below bC).drewN n) ((Z2.out.below bC).drewN n) hxl hxl
    simp only [decide_true] at kt;clear TT T0 bC Z1 Z2;generalize w8 = wF at fX fY hb kt ⊢;have kt := kt 0;have a0 := (ad fX 0).trans (show _ = some (Value.int .i64 x.op) from rfl);have a1 := (ad fX 1).trans (show _ = some (Value.int .i64 x.n) from rfl);have a2 := (ad fX 2).trans (show _ = some (Value.string ⟨x.typ.toArray⟩) from rfl);have a3 := (ad fX 3).trans (show _ = some (Value.string ⟨x.value.toArray⟩) from rfl);have a4 := (ad fX 4).trans (show _ = some (Value.string ⟨x.init.toArray⟩) from rfl);have a5 := (ad fX 5).trans (show _ = some (Value.string ⟨x.final.toArray⟩) from rfl);have a6 := (ad fX 6).trans (show _ = some ((.slice s1 x.any.length d1 : Value)) from rfl);have b0 := (ad fY 0).trans (show _ = some (Value.int .i64 x.op) from rfl);have b1 := (ad fY 1).trans (show _ = some (Value.int .i64 x.n) from rfl);have b2 := (ad fY 2).trans (show _ = some (Value.string ⟨x.typ.toArray⟩) from rfl);have b3 := (ad fY 3).trans (show _ = some (Value.string ⟨x.value.toArray⟩) from rfl);have b4 := (ad fY 4).trans (show _ = some (Value.string ⟨x.init.toArray⟩) from rfl);have b5 := (ad fY 5).trans (show _ = some (Value.string ⟨x.final.toArray⟩) from rfl);have b6 := (ad fY 6).trans (show _ = some ((.slice s2 x.any.length d2 : Value)) from rfl);clear fX fY
    go_wp2_with fail
    refine ag kt ?_;rintro e w9 ⟨rfl, n, rfl⟩;have hb9 := iO hb n;clear kt a0 a1 a2 a3 a4 a5 a6 b0 b1 b2 b3 b4 b5 b6 hb
    go_wp2_with fail
    exact ⟨⟨k + 1, by go_num, by omega, hb9⟩, by simp [RowKit.intOf]; omega⟩
  ·obtain rfl : k = r.length := by omega
   go_wp2_with fail
   go_ret
   exact ⟨rfl, hb⟩
theorem sg (v u : Value) (r : List (List UInt8)) (w : World) (h1 : ct w v r) (h2 : ct w u r) (hl : r.length ≤ 140737488355328) :
  Calls Tryz.prog 50 #[v, u] w fun e w' => e = .returned (.bool true) ∧ Below w.heap.size w w' :=
 (jm v u r r w h1 h2 hl hl).mono fun e w' ⟨h, n, hn⟩ => ⟨by rw [h]; simp, by rw [hn]; exact iO (aq _ _) n⟩
theorem nK (v u : Value) (r : List Md) (w : World) (h1 : eY w v r) (h2 : eY w u r) (hl : r.length ≤ 140737488355328) (hr : ∀ x ∈ r, x.2.2.length ≤ 140737488355328) :
  Calls Tryz.prog 51 #[v, u] w fun e w' => e = .returned (.bool true) ∧ Below w.heap.size w w' :=
 (mI v u r r w h1 h2 hl hl hr hr).mono fun e w' ⟨h, n, hn⟩ => ⟨by rw [h]; simp, by rw [hn]; exact iO (aq _ _) n⟩
theorem mJ (v u : Value) (r : List (List UInt8 × List (List UInt8))) (w : World) (h1 : eG w v r) (h2 : eG w u r) (hl : r.length ≤ 140737488355328) (hr : ∀ x ∈ r, x.2.length ≤ 140737488355328) :
  Calls Tryz.prog 52 #[v, u] w fun e w' => e = .returned (.bool true) ∧ Below w.heap.size w w' :=
 (lT v u r r w h1 h2 hl hl hr hr).mono fun e w' ⟨h, n, hn⟩ => ⟨by rw [h]; simp, by rw [hn]; exact iO (aq _ _) n⟩
theorem gx (m m' : Mg) (l : Ls) (w : World) (hm : MgM w m l) (hm' : MgM w m' l) (hp : m'.pl = m.pl) (hk : LsOk m l) :
  Cr 18 #[.agg m.row, .agg m'.row] w (.bool true) := by
 have k1 := hid (fun W (h : Below w.heap.size w W) => lU m.filt m'.filt l.filt W (hm.filt.below h) (hm'.filt.below h) (by have := hk.filt.1; omega) (fun x hx => by have := (hk.filt.2 x hx).1.2.2.2.2.1; omega));have k2 := hid (fun W (h : Below w.heap.size w W) => sg m.sel m'.sel l.sel W (hm.sel.below h) (hm'.sel.below h) (by have := hk.sel; omega));have k3 := hid (fun W (h : Below w.heap.size w W) => nK m.mods m'.mods l.mods W (hm.mods.below h) (hm'.mods.below h) (by have := hk.mods; omega) (fun x hx => by have := (hk.modss x hx).2.1; omega));have k4 := hid (fun W (h : Below w.heap.size w W) => mJ m.attrs m'.attrs l.attrs W (hm.attrs.below h) (hm'.attrs.below h) (by have := hk.attrs.1; omega) (fun x hx => by have := (hk.attrs.2 x hx).2.1; omega));have k5 := hid (fun W (h : Below w.heap.size w W) => kF m.ctl m'.ctl l.ctl W (hm.ctl.below h) (hm'.ctl.below h) (by have := hk.ctl; omega));have E0 := hid (show m'.id = m.id from (congrArg Mg.id hp : m'.pl.id = m.pl.id));have E1 := hid (show m'.op = m.op from (congrArg Mg.op hp : m'.pl.op = m.pl.op));have E2 := hid (show m'.dn = m.dn from (congrArg Mg.dn hp : m'.pl.dn = m.pl.dn));have E3 := hid (show m'.ver = m.ver from (congrArg Mg.ver hp : m'.pl.ver = m.pl.ver));have E4 := hid (show m'.sasl = m.sasl from (congrArg Mg.sasl hp : m'.pl.sasl = m.pl.sasl));have E5 := hid (show m'.secret = m.secret from (congrArg Mg.secret hp : m'.pl.secret = m.pl.secret));have E6 := hid (show m'.scope = m.scope from (congrArg Mg.scope hp : m'.pl.scope = m.pl.scope));have E7 := hid (show m'.deref = m.deref from (congrArg Mg.deref hp : m'.pl.deref = m.pl.deref));have E8 := hid (show m'.size = m.size from (congrArg Mg.size hp : m'.pl.size = m.pl.size));have E9 := hid (show m'.time = m.time from (congrArg Mg.time hp : m'.pl.time = m.pl.time));have E10 := hid (show m'.types = m.types from (congrArg Mg.types hp : m'.pl.types = m.pl.types));have E15 := hid (show m'.newRdn = m.newRdn from (congrArg Mg.newRdn hp : m'.pl.newRdn = m.pl.newRdn));have E16 := hid (show m'.newSup = m.newSup from (congrArg Mg.newSup hp : m'.pl.newSup = m.pl.newSup));have E17 := hid (show m'.delOld = m.delOld from (congrArg Mg.delOld hp : m'.pl.delOld = m.pl.delOld));have E18 := hid (show m'.hasSup = m.hasSup from (congrArg Mg.hasSup hp : m'.pl.hasSup = m.pl.hasSup));have E19 := hid (show m'.typ = m.typ from (congrArg Mg.typ hp : m'.pl.typ = m.pl.typ));have E20 := hid (show m'.value = m.value from (congrArg Mg.value hp : m'.pl.value = m.pl.value));have E21 := hid (show m'.oid = m.oid from (congrArg Mg.oid hp : m'.pl.oid = m.pl.oid));have E22 := hid (show m'.has = m.has from (congrArg Mg.has hp : m'.pl.has = m.pl.has));have E23 := hid (show m'.target = m.target from (congrArg Mg.target hp : m'.pl.target = m.pl.target));have E24 := hid (show m'.code = m.code from (congrArg Mg.code hp : m'.pl.code = m.pl.code));have E25 := hid (show m'.matched = m.matched from (congrArg Mg.matched hp : m'.pl.matched = m.pl.matched));have E26 := hid (show m'.text = m.text from (congrArg Mg.text hp : m'.pl.text = m.pl.text))
 clear hm hm' hp hk;have b2 : Below w.heap.size w ((w.alloc (.cells m.row 28)).alloc (.cells m'.row 28)) := ((aq _ _).alloc (ah _) _).alloc (by simp) _;have fA : ((w.alloc (.cells m.row 28)).alloc (.cells m'.row 28)).heap[w.heap.size]? = some (.cells m.row 28 (0, 0)) := (alloc_old _ _ _ (by simp)).trans (bi _ _ _ rfl);have fB : ((w.alloc (.cells m.row 28)).alloc (.cells m'.row 28)).heap[w.heap.size + 1]? = some (.cells m'.row 28 (0, 0)) := bi _ _ _ (by simp)
 go_enter Tryz.func18, Tryz.ntmps18
 refine wp_seq ?_;refine aQ ?_
 iterate 2 (refine aB rfl fun K hK => ?_; go_simp; refine hK _ _ ?_; clear hK K)
 generalize ((w.alloc (.cells m.row 28)).alloc (.cells m'.row 28)) = w2 at b2 fA fB ⊢;have c0 := (ad fA 0).trans (show _ = some (.int .i64 m.id : Value) from rfl);have d0 := (ad fB 0).trans (show _ = some (.int .i64 m.id : Value) from by rw [← E0.out]; rfl);have c1 := (ad fA 1).trans (show _ = some (.int .i64 m.op : Value) from rfl);have d1 := (ad fB 1).trans (show _ = some (.int .i64 m.op : Value) from by rw [← E1.out]; rfl);have c2 := (ad fA 2).trans (show _ = some (.string ⟨m.dn.toArray⟩ : Value) from rfl);have d2 := (ad fB 2).trans (show _ = some (.string ⟨m.dn.toArray⟩ : Value) from by rw [← E2.out]; rfl);have c3 := (ad fA 3).trans (show _ = some (.int .i64 m.ver : Value) from rfl);have d3 := (ad fB 3).trans (show _ = some (.int .i64 m.ver : Value) from by rw [← E3.out]; rfl);have c4 := (ad fA 4).trans (show _ = some (.bool m.sasl : Value) from rfl);have d4 := (ad fB 4).trans (show _ = some (.bool m.sasl : Value) from by rw [← E4.out]; rfl);have c5 := (ad fA 5).trans (show _ = some (.string ⟨m.secret.toArray⟩ : Value) from rfl);have d5 := (ad fB 5).trans (show _ = some (.string ⟨m.secret.toArray⟩ : Value) from by rw [← E5.out]; rfl);have c6 := (ad fA 6).trans (show _ = some (.int .i64 m.scope : Value) from rfl);have d6 := (ad fB 6).trans (show _ = some (.int .i64 m.scope : Value) from by rw [← E6.out]; rfl);have c7 := (ad fA 7).trans (show _ = some (.int .i64 m.deref : Value) from rfl);have d7 := (ad fB 7).trans (show _ = some (.int .i64 m.deref : Value) from by rw [← E7.out]; rfl);have c8 := (ad fA 8).trans (show _ = some (.int .i64 m.size : Value) from rfl);have d8 := (ad fB 8).trans (show _ = some (.int .i64 m.size : Value) from by rw [← E8.out]; rfl);have c9 := (ad fA 9).trans (show _ = some (.int .i64 m.time : Value) from rfl);have d9 := (ad fB 9).trans (show _ = some (.int .i64 m.time : Value) from by rw [← E9.out]; rfl);have c10 := (ad fA 10).trans (show _ = some (.bool m.types : Value) from rfl);have d10 := (ad fB 10).trans (show _ = some (.bool m.types : Value) from by rw [← E10.out]; rfl);have c11 := (ad fA 11).trans (show _ = some (m.filt : Value) from rfl);have d11 := (ad fB 11).trans (show _ = some (m'.filt : Value) from rfl);have FA := hid fA;have FB := hid fB;have kc := k1.out w2 b2;clear fA fB k1
 go_wp2_with fail
 refine ag kc ?_;rintro e w3 ⟨rfl, hb⟩;have b3 := b2.trans (hb.mono b2.size);have fA := (hb.block _ (gl FA.out)).trans FA.out;have fB := (hb.block _ (gl FB.out)).trans FB.out;clear kc hb b2 FA FB c0 d0 c1 d1 c2 d2 c3 d3 c4 d4 c5 d5 c6 d6 c7 d7 c8 d8 c9 d9 c10 d10 c11 d11;have c12 := (ad fA 12).trans (show _ = some (m.sel : Value) from rfl);have d12 := (ad fB 12).trans (show _ = some (m'.sel : Value) from rfl);have FA := hid fA;have FB := hid fB;have kc := k2.out w3 b3;clear fA fB k2
 go_wp2_with fail
 refine ag kc ?_;rintro e w4 ⟨rfl, hb⟩;have b4 := b3.trans (hb.mono b3.size);have fA := (hb.block _ (gl FA.out)).trans FA.out;have fB := (hb.block _ (gl FB.out)).trans FB.out;clear kc hb b3 FA FB c12 d12;have c13 := (ad fA 13).trans (show _ = some (m.mods : Value) from rfl);have d13 := (ad fB 13).trans (show _ = some (m'.mods : Value) from rfl);have FA := hid fA;have FB := hid fB;have kc := k3.out w4 b4;clear fA fB k3
 go_wp2_with fail
 refine ag kc ?_;rintro e w5 ⟨rfl, hb⟩;have b5 := b4.trans (hb.mono b4.size);have fA := (hb.block _ (gl FA.out)).trans FA.out;have fB := (hb.block _ (gl FB.out)).trans FB.out;clear kc hb b4 FA FB c13 d13;have c14 := (ad fA 14).trans (show _ = some (m.attrs : Value) from rfl);have d14 := (ad fB 14).trans (show _ = some (m'.attrs : Value) from rfl);have FA := hid fA;have FB := hid fB;have kc := k4.out w5 b5;clear fA fB k4
 go_wp2_with fail
 refine ag kc ?_;rintro e w6 ⟨rfl, hb⟩;have b6 := b5.trans (hb.mono b5.size);have fA := (hb.block _ (gl FA.out)).trans FA.out;have fB := (hb.block _ (gl FB.out)).trans FB.out;clear kc hb b5 FA FB c14 d14;have c15 := (ad fA 15).trans (show _ = some (.string ⟨m.newRdn.toArray⟩ : Value) from rfl);have d15 := (ad fB 15).trans (show _ = some (.string ⟨m.newRdn.toArray⟩ : Value) from by rw [← E15.out]; rfl);have c16 := (ad fA 16).trans (show _ = some (.string ⟨m.newSup.toArray⟩ : Value) from rfl);have d16 := (ad fB 16).trans (show _ = some (.string ⟨m.newSup.toArray⟩ : Value) from by rw [← E16.out]; rfl);have c17 := (ad fA 17).trans (show _ = some (.bool m.delOld : Value) from rfl);have d17 := (ad fB 17).trans (show _ = some (.bool m.delOld : Value) from by rw [← E17.out]; rfl);have c18 := (ad fA 18).trans (show _ = some (.bool m.hasSup : Value) from rfl);have d18 := (ad fB 18).trans (show _ = some (.bool m.hasSup : Value) from by rw [← E18.out]; rfl);have c19 := (ad fA 19).trans (show _ = some (.string ⟨m.typ.toArray⟩ : Value) from rfl);have d19 := (ad fB 19).trans (show _ = some (.string ⟨m.typ.toArray⟩ : Value) from by rw [← E19.out]; rfl);have c20 := (ad fA 20).trans (show _ = some (.string ⟨m.value.toArray⟩ : Value) from rfl);have d20 := (ad fB 20).trans (show _ = some (.string ⟨m.value.toArray⟩ : Value) from by rw [← E20.out]; rfl);have c21 := (ad fA 21).trans (show _ = some (.string ⟨m.oid.toArray⟩ : Value) from rfl);have d21 := (ad fB 21).trans (show _ = some (.string ⟨m.oid.toArray⟩ : Value) from by rw [← E21.out]; rfl);have c22 := (ad fA 22).trans (show _ = some (.bool m.has : Value) from rfl);have d22 := (ad fB 22).trans (show _ = some (.bool m.has : Value) from by rw [← E22.out]; rfl);have c23 := (ad fA 23).trans (show _ = some (.int .i64 m.target : Value) from rfl);have d23 := (ad fB 23).trans (show _ = some (.int .i64 m.target : Value) from by rw [← E23.out]; rfl);have c24 := (ad fA 24).trans (show _ = some (.int .i64 m.code : Value) from rfl);have d24 := (ad fB 24).trans (show _ = some (.int .i64 m.code : Value) from by rw [← E24.out]; rfl);have c25 := (ad fA 25).trans (show _ = some (.string ⟨m.matched.toArray⟩ : Value) from rfl);have d25 := (ad fB 25).trans (show _ = some (.string ⟨m.matched.toArray⟩ : Value) from by rw [← E25.out]; rfl);have c26 := (ad fA 26).trans (show _ = some (.string ⟨m.text.toArray⟩ : Value) from rfl);have d26 := (ad fB 26).trans (show _ = some (.string ⟨m.text.toArray⟩ : Value) from by rw [← E26.out]; rfl);have c27 := (ad fA 27).trans (show _ = some (m.ctl : Value) from rfl);have d27 := (ad fB 27).trans (show _ = some (m'.ctl : Value) from rfl);have FA := hid fA;have FB := hid fB;have kc := k5.out w6 b6;clear fA fB k5
 go_wp2_with fail
 refine ag kc ?_;rintro e w7 ⟨rfl, hb⟩;have b7 := b6.trans (hb.mono b6.size);have fA := (hb.block _ (gl FA.out)).trans FA.out;have fB := (hb.block _ (gl FB.out)).trans FB.out;clear kc hb b6 FA FB c15 d15 c16 d16 c17 d17 c18 d18 c19 d19 c20 d20 c21 d21 c22 d22 c23 d23 c24 d24 c25 d25 c26 d26 c27 d27;clear fA fB
 go_wp2_with fail
 first | exact ⟨rfl, b7⟩ | (go_ret; exact ⟨rfl, b7⟩)
theorem LL.nat {t n : Int} {l : List El} {y : Int × List El} {r : List El} (h : em t l = some y) (hn : n = y.1) (h0 : 0 ≤ n) (k : LL r y.2) : LL (.mk 0 t false (sgB n.toNat) [] :: r) l := by
 subst hn;exact LL.num h h0 k
theorem sh {t : Int} {l : List El} {y : (List UInt8 × Bool) × List El} (h : ea t l = some y) (hf : y.1.2 = false) : y.1.1 = [] := by
 unfold ea at h
 split at h
 ·simp only [aC] at h
  obtain ⟨x, hx, rfl⟩ := h;cases hf
 ·cases h
  rfl
theorem tP {id op : Int} {ks rest : List El} {m : Mg} {l : Ls} (h : oDo id op ks = some ((m, l), rest)) : l.ctl = [] := by
 have key : ∀ {p : Prop} [Decidable p] {a b : Option ((Mg × Ls) × List El)}, (a = some ((m, l), rest) → l.ctl = []) → (b = some ((m, l), rest) → l.ctl = []) → ((if p then a else b) = some ((m, l), rest) → l.ctl = []) := fun ha hb h => by split at h; exact ha h; exact hb h
 revert h
 unfold oDo;refine key (fun h => ?_) (key (fun h => ?_) (key (fun h => ?_) (key (fun h => ?_) (key (fun h => ?_) (key (fun h => ?_) (key (fun h => ?_) (key (fun h => ?_) (key (fun h => ?_) (fun h => ?_)))))))))
 ·simp only [gU, ax] at h
  obtain ⟨v, -, d, -, s, -, h⟩ := h
  split at h
  ·cases h; rfl
  ·simp only [ax] at h
   obtain ⟨k, -, t, -, z, -, h7⟩ := h;cases (bY h7).1
   rfl
 ·simp only [fG, ax, aC] at h
  obtain ⟨d, -, s, -, r, -, z, -, t, -, y, -, f, -, k, -, a, -, h⟩ := h;cases h; rfl
 ·simp only [fH, ax, aC] at h
  obtain ⟨d, -, x, -, h⟩ := h;cases h; rfl
 ·simp only [fh, ax, aC] at h
  obtain ⟨d, -, x, -, h⟩ := h;cases h; rfl
 ·simp only [fh, ax, aC] at h
  obtain ⟨d, -, x, -, h⟩ := h;cases h; rfl
 ·simp only [gV, ax, aC] at h
  obtain ⟨d, -, n, -, y, -, s, -, h⟩ := h;cases h; rfl
 ·simp only [eZ, ax] at h
  obtain ⟨d, -, k, -, t, -, v, -, h⟩ := h;cases (bY h).1
  rfl
 ·simp only [fI, ax, aC] at h
  obtain ⟨o, -, v, -, h⟩ := h;cases h; rfl
 ·simp only [dI, ax] at h
  obtain ⟨c, -, a, -, t, -, h⟩ := h
  split at h
  ·simp only [ax] at h
   obtain ⟨o, -, h⟩ := h
   split at h
   ·cases h
   ·simp only [aC] at h
    obtain ⟨v, -, h⟩ := h;cases h; rfl
  ·cases h; rfl
 ·cases h
theorem tQ {id : Int} {e : El} {x : Mg × Ls} (h : oOp id e = some x) : x.2.ctl = [] := by
 unfold oOp at h
 split at h
 ·simp only [ax] at h
  obtain ⟨s, -, h⟩ := h
  split at h
  ·cases h; rfl
  ·cases h
 ·split at h
  ·simp only [aC] at h
   obtain ⟨s, -, h⟩ := h;cases h; rfl
  ·split at h
   ·simp only [aC] at h
    obtain ⟨s, -, h⟩ := h;cases h; rfl
   ·simp only [ax] at h
    obtain ⟨r, -, y, h3, h4⟩ := h;obtain ⟨e1, _⟩ := bY h4;obtain ⟨y1, y2⟩ := y;simp only at e1;subst e1;exact tP h3
theorem vt {id op : Int} {ks rest : List El} {m : Mg} {l : Ls} (h : oDo id op ks = some ((m, l), rest)) (hk : br m l = true) : m.id = id ∧ m.op = op ∧ ∃ ks', opE m l = .mk 1 op true [] ks' ∧ LL ks' ks := by
 unfold oDo at h
 by_cases h0 : op = 0
 ·subst h0
  rw [if_pos rfl] at h;simp only [gU, ax] at h;obtain ⟨v, h1, d, h2, s, h3, h⟩ := h
  split at h
  ·rename_i hs
   cases h;simp only [br, if_true, aI, aT] at hk;refine ⟨rfl, rfl, _, by rw [opE, if_pos rfl], LL.nat h1 rfl (by omega) (LL.str h2 ?_)⟩;have := LL.opt (r := []) h3 (LL.nil _);rw [hs] at this;exact this
  ·rename_i hs
   simp only [ax] at h;obtain ⟨k, h4, t, h5, z, h6, h7⟩ := h;obtain ⟨e1, _⟩ := bY h7;cases e1;simp only [br, if_true, aI, aT] at hk;refine ⟨rfl, rfl, _, by rw [opE, if_pos rfl], LL.nat h1 rfl (by omega) (LL.str h2 ?_)⟩;have hs2 : s.2 = d.2 := by
    unfold ea at h3
    split at h3
    ·simp only [aC] at h3
     obtain ⟨x, hx, rfl⟩ := h3;exact absurd rfl hs
    ·cases h3
     rfl
   rw [← hs2];exact LL.get h4 (fun _ he => Le.kid he (LL.str h5 (LL.nil _))) (LL.nil _)
 rw [if_neg h0] at h
 by_cases h3 : op = 3
 ·subst h3
  rw [if_pos rfl] at h;simp only [fG, ax, aC] at h;obtain ⟨d, h1, s, h2, r, h4, z, h5, t, h6, y, h7, f, h8, k, h9, a, h10, h⟩ := h;cases h;simp only [br, if_true, show ¬ ((3 : Int) = 0) by decide, show ¬ ((3 : Int) = 2) by decide, if_false, aI] at hk;obtain ⟨⟨⟨⟨k1, k2⟩, k3⟩, k4⟩, k5⟩ := hk;refine ⟨rfl, rfl, _, by rw [opE, if_neg (by simp), if_neg (by simp), if_pos rfl], ?_⟩;exact LL.str h1 (LL.nat h2 rfl (ef k1).1 (LL.nat h4 rfl (ef k2).1 (LL.nat h5 rfl (ef k3).1 (LL.nat h6 rfl (ef k4).1 (LL.flag h7 _ (LL.get h8 (fun _ he => rY he k5) (LL.get h9 (fun _ he => Le.kid he (LL.strs h10)) (LL.nil _))))))))
 rw [if_neg h3] at h
 by_cases h6 : op = 6
 ·subst h6
  rw [if_pos rfl] at h;simp only [fH, ax, aC] at h;obtain ⟨d, h1, x, h2, h⟩ := h;cases h;simp only [br, if_true, show ¬ ((6 : Int) = 0) by decide, show ¬ ((6 : Int) = 2) by decide, show ¬ ((6 : Int) = 3) by decide, if_false] at hk;refine ⟨rfl, rfl, _, by rw [opE, if_neg (by simp), if_neg (by simp), if_neg (by simp), if_pos rfl], ?_⟩;refine LL.str h1 (LL.get h2 (fun e he => ?_) (LL.nil _));simp only [eA, ax] at he;obtain ⟨ks, h3, h4⟩ := he;refine Le.kid h3 ?_;simp only [dR, List.map_map];exact LL.all h4 fun y hy e he => Le.mod he (gD hk hy).1
 rw [if_neg h6] at h;have hat : ∀ (o : Int) (h : fh id o ks = some ((m, l), rest)), m = { id := id, op := o, dn := m.dn } ∧ l = { attrs := l.attrs } ∧ LL [.mk 0 4 false m.dn [], .mk 0 16 true [] (l.attrs.map bI)] ks := by
  intro o h;simp only [fh, ax, aC] at h;obtain ⟨d, h1, x, h2, h⟩ := h;cases h;refine ⟨rfl, rfl, LL.str h1 (LL.get h2 (fun e he => ?_) (LL.nil _))⟩;simp only [eA, ax] at he;obtain ⟨ks, h3, h4⟩ := he;exact Le.kid h3 (LL.all h4 fun y hy e he => Le.attr he)
 by_cases h8 : op = 8
 ·subst h8
  rw [if_pos rfl] at h;obtain ⟨e1, e2, e3⟩ := hat 8 h;refine ⟨by rw [e1], by rw [e1], _, ?_, e3⟩;rw [e1, e2]
  rfl
 rw [if_neg h8] at h
 by_cases h4 : op = 4
 ·subst h4
  rw [if_pos rfl] at h;obtain ⟨e1, e2, e3⟩ := hat 4 h;refine ⟨by rw [e1], by rw [e1], _, ?_, e3⟩;rw [e1, e2]
  rfl
 rw [if_neg h4] at h;clear hat
 by_cases h12 : op = 12
 ·subst h12
  rw [if_pos rfl] at h;simp only [gV, ax, aC] at h;obtain ⟨d, h1, n, h2, y, h5, s, h7, h⟩ := h;cases h;refine ⟨rfl, rfl, _, rfl, LL.str h1 (LL.str h2 (LL.flag h5 _ ?_))⟩;have := LL.opt (r := []) h7 (LL.nil _)
  rwa [List.append_nil] at this
 rw [if_neg h12] at h
 by_cases h14 : op = 14
 ·subst h14
  rw [if_pos rfl] at h;simp only [eZ, ax] at h;obtain ⟨d, h1, k, h2, t, h5, v, h7, h⟩ := h;obtain ⟨e1, _⟩ := bY h;cases e1;exact ⟨rfl, rfl, _, rfl, LL.str h1 (LL.get h2 (fun _ he => Le.kid he (LL.str h5 (LL.str h7 (LL.nil _)))) (LL.nil _))⟩
 rw [if_neg h14] at h
 by_cases h23 : op = 23
 ·subst h23
  rw [if_pos rfl] at h;simp only [fI, ax, aC] at h;obtain ⟨o, h1, v, h7, h⟩ := h;cases h;refine ⟨rfl, rfl, _, rfl, LL.get h1 (fun _ he => Le.txt he) ?_⟩;have := LL.opt (r := []) h7 (LL.nil _)
  rwa [List.append_nil] at this
 rw [if_neg h23] at h
 split at h
 ·rename_i hc
  have n2 : op ≠ 2 := by rintro rfl; cases hc
  have n10 : op ≠ 10 := by rintro rfl; cases hc
  have n16 : op ≠ 16 := by rintro rfl; cases hc
  have hop : m.op = op → opE m l = .mk 1 op true [] (dh m) := by
   rintro rfl;rw [opE, if_neg h0, if_neg n2, if_neg h3, if_neg h6, if_neg (by omega), if_neg n10, if_neg h12, if_neg h14, if_neg n16, if_neg h23]
  have hcode : m.op = op → 0 ≤ m.code := by
   rintro rfl;have n8 : ¬ (m.op = 8 ∨ m.op = 4) := by omega
   simp only [br, h0, n2, h3, h6, n8, n10, h12, h14, n16, h23, hc, if_false, if_true] at hk
   split at hk
   ·simp only [aI] at hk
    exact (ef hk.1).1
   ·exact (ef hk).1
  simp only [dI, ax] at h;obtain ⟨c, h1, a, h2, t, h5, h⟩ := h
  split at h
  ·simp only [ax] at h
   obtain ⟨o, h7, h⟩ := h
   split at h
   ·cases h
   ·rename_i hoo
    simp only [aC] at h;obtain ⟨v, h9, h⟩ := h;cases h;refine ⟨rfl, rfl, _, hop rfl, ?_⟩;have q1 := LL.opt (r := []) h9 (LL.nil _);rw [List.append_nil] at q1;have q2 := LL.opt h7 q1;have e : (if o.1.1 = [] then [] else [El.mk 2 10 false o.1.1 []]) = (if o.1.2 = true then [El.mk 2 10 false o.1.1 []] else []) := by
     cases hb : o.1.2 with
     | true => rw [hb] at hoo; simp only [true_and] at hoo; rw [if_neg hoo, if_pos rfl]
     | false => rw [sh h7 hb, if_pos rfl, if_neg (by decide)]
    simp only [dh, List.cons_append, List.nil_append];rw [e];exact LL.nat h1 rfl (hcode rfl) (LL.str h2 (LL.str h5 q2))
  ·cases h
   refine ⟨rfl, rfl, _, hop rfl, ?_⟩;simp only [dh, if_true, aW, if_false, List.append_nil];exact LL.nat h1 rfl (hcode rfl) (LL.str h2 (LL.str h5 (LL.nil _)))
 ·cases h
theorem sB {id : Int} {e : El} {m : Mg} {l : Ls} (h : oOp id e = some (m, l)) (hk : br m l = true) : m.id = id ∧ Le (opE m l) e := by
 unfold oOp at h
 by_cases h2 : e.tag = 2
 ·rw [if_pos h2] at h
  simp only [ax] at h;obtain ⟨s, h1, h⟩ := h
  split at h
  ·rename_i hs
   cases h;subst hs;exact ⟨rfl, Le.txt h1⟩
  ·cases h
 rw [if_neg h2] at h
 by_cases h10 : e.tag = 10
 ·rw [if_pos h10] at h
  simp only [aC] at h;obtain ⟨s, h1, h⟩ := h;cases h;exact ⟨rfl, Le.txt h1⟩
 rw [if_neg h10] at h
 by_cases h16 : e.tag = 16
 ·rw [if_pos h16] at h
  simp only [aC] at h;obtain ⟨n, h1, h⟩ := h;cases h;have hv : bB n 2147483647 = true := hk;exact ⟨rfl, Le.int h1 (ef hv).1⟩
 rw [if_neg h16] at h;simp only [ax] at h;obtain ⟨r, h1, x, h3, h4⟩ := h;obtain ⟨e1, _⟩ := bY h4;obtain ⟨x1, x2⟩ := x;simp only at e1;subst e1;obtain ⟨q1, q2, ks', q3, q4⟩ := vt h3 hk;rw [q3];exact ⟨q1, Le.kid h1 q4⟩
theorem td {e : El} {m : Mg} {l : Ls} (h : dU e = some (m, l)) (hid : 0 ≤ m.id) (hk : br m l = true) : Le (gF m l) e := by
 simp only [dU, ax] at h;obtain ⟨r, h1, n, h2, x, h3, h⟩ := h
 split at h
 ·simp only [ax] at h
  obtain ⟨c, h4, h5⟩ := h;obtain ⟨e1, _⟩ := bY h5;cases e1;have hop : ∀ e, oOp n.1 e = some x.1 → x.1.1.id = n.1 ∧ Le (opE x.1.1 x.1.2) e := fun e he => sB he hk
  have hn : x.1.1.id = n.1 := by
   cases hr : n.2 with
   | nil => rw [hr] at h3; simp [bS, ch] at h3
   | cons e t =>
    rw [hr] at h3;simp only [bS, ch, ai, aC] at h3;obtain ⟨a, ha, rfl⟩ := h3;exact (hop e ha).1
  refine Le.kid h1 (LL.nat h2 hn hid (LL.get h3 (fun e he => (hop e he).2) ?_));show LL (if c.1 = [] then [] else [.mk 2 0 true [] (c.1.map ei)]) x.2
  split
  ·exact LL.nil _
  ·refine LL.get h4 (fun e he => ?_) (LL.nil _)
   simp only [ax] at he;obtain ⟨k, h6, h7⟩ := he;exact Le.kid h6 (LL.all h7 fun y hy e he => Le.ctl he)
 ·obtain ⟨e1, _⟩ := bY h
  have hop : ∀ e, oOp n.1 e = some x.1 → x.1.1.id = n.1 ∧ Le (opE x.1.1 x.1.2) e := fun e he => sB he (by rw [e1]; exact hk)
  have hn : x.1.1.id = n.1 := by
   cases hr : n.2 with
   | nil => rw [hr] at h3; simp [bS, ch] at h3
   | cons e t =>
    rw [hr] at h3;simp only [bS, ch, ai, aC] at h3;obtain ⟨a, ha, rfl⟩ := h3;exact (hop e ha).1
  have hx1 : x.1.1 = m := by rw [e1]
  have hx2 : x.1.2 = l := by rw [e1]
  have hc : l.ctl = [] := by
   rw [← hx2];cases hr : n.2 with
   | nil => rw [hr] at h3; simp [bS, ch] at h3
   | cons e t =>
    rw [hr] at h3;simp only [bS, ch, ai, aC] at h3;obtain ⟨a, ha, rfl⟩ := h3;exact tQ ha
  rw [hx1] at hn;rw [hx1, hx2] at hop;refine Le.kid h1 ?_;rw [mn, if_pos hc];exact LL.nat h2 hn hid (LL.get h3 (fun e he => (hop e (by rw [he, e1])).2) (LL.nil _))
theorem pn {b : List UInt8} {e : El} {m0 m : Mg} {l : Ls} (h : bP 20 b = .ok (e, [])) (ho : dU e = some (m0, l)) (hm : m.pl = m0) (hv : bH m l = true) : cR m l = (eJ (gF m l), 0) := by
 have hr := (fL 20 b e [] h).2;have hok := mB 20 b e [] h;have hid := (bT hv).2.1.1;have hk := (bT hv).1;have hl := td (m := m.pl) (l := l) (by rw [hm]; exact ho) hid hk;have hE : gF m l = gF m.pl l := rfl;unfold cR;rw [hv, if_pos rfl, hE];exact qI (hl.2 20 hok) (by have := hl.1; omega)
def ej (l : Ls) : Bool := decide (l.filt.length ≤ 150) && decide (l.attrs.length ≤ 200) && decide (l.mods.length ≤ 200) && decide (l.ctl.length ≤ 200) && decide (l.sel.length ≤ 500)
theorem fe (m : Mg) (l : Ls) (w : World) (hm : MgM w m l) :
  Cr 9 #[.agg m.row] w (.bool (ej l)) := by
 obtain ⟨a1, c1, e1⟩ := hm.filt.shape;obtain ⟨a2, c2, e2, -, -⟩ := hm.sel;obtain ⟨a3, c3, e3, -, -⟩ := hm.mods;obtain ⟨a4, c4, e4, -, -⟩ := hm.attrs;obtain ⟨a5, c5, e5, -, -⟩ := hm.ctl;generalize hR : ej l = R;unfold ej at hR;obtain ⟨nF, hF⟩ : ∃ n, l.filt.length = n := ⟨_, rfl⟩;obtain ⟨nS, hS⟩ : ∃ n, l.sel.length = n := ⟨_, rfl⟩;obtain ⟨nM, hM⟩ : ∃ n, l.mods.length = n := ⟨_, rfl⟩;obtain ⟨nA, hA⟩ : ∃ n, l.attrs.length = n := ⟨_, rfl⟩;obtain ⟨nC, hC⟩ : ∃ n, l.ctl.length = n := ⟨_, rfl⟩;rw [hF] at e1 hR;rw [hS] at e2 hR;rw [hM] at e3 hR;rw [hA] at e4 hR;rw [hC] at e5 hR;clear hF hS hM hA hC;obtain ⟨B, hB⟩ : ∃ B, m.row = B := ⟨_, rfl⟩;have g11 : B[11]? = some (.slice a1 nF c1) := by rw [← hB]; simp [Mg.row, e1]
 have g12 : B[12]? = some (.slice a2 nS c2) := by rw [← hB]; simp [Mg.row, e2]
 have g13 : B[13]? = some (.slice a3 nM c3) := by rw [← hB]; simp [Mg.row, e3]
 have g14 : B[14]? = some (.slice a4 nA c4) := by rw [← hB]; simp [Mg.row, e4]
 have g27 : B[27]? = some (.slice a5 nC c5) := by rw [← hB]; simp [Mg.row, e5]
 rw [hB];clear hB e1 e2 e3 e4 e5 hm;have b1 := alb w B 28;have r1 := alz w B 28
 go_enter Tryz.func9, Tryz.ntmps9
 go_upto_region 1 with fail
 generalize w.alloc (.cells B 28) = w1 at b1 r1 ⊢;have q11 := (ad r1 11).trans g11;have q12 := (ad r1 12).trans g12;have q13 := (ad r1 13).trans g13;have q14 := (ad r1 14).trans g14;have q27 := (ad r1 27).trans g27;clear r1 g11 g12 g13 g14 g27
 by_cases h0 : nF ≤ 150
 ·have d0 : decide ((nF : Int) ≤ 150) = true := aA (by omega)
  have i0 : (nF : Int) ≤ 150 := by omega
  by_cases h1 : nA ≤ 200
  ·have d1 : decide ((nA : Int) ≤ 200) = true := aA (by omega)
   have i1 : (nA : Int) ≤ 200 := by omega
   by_cases h2 : nM ≤ 200
   ·have d2 : decide ((nM : Int) ≤ 200) = true := aA (by omega)
    have i2 : (nM : Int) ≤ 200 := by omega
    by_cases h3 : nC ≤ 200
    ·have d3 : decide ((nC : Int) ≤ 200) = true := aA (by omega)
     have i3 : (nC : Int) ≤ 200 := by omega
     by_cases h4 : nS ≤ 500
     ·have d4 : decide ((nS : Int) ≤ 500) = true := aA (by omega)
      have i4 : (nS : Int) ≤ 500 := by omega
      obtain rfl : R = true := by rw [← hR]; simp [h0, h1, h2, h3, h4]
      clear hR
      go_wp2_with fail
      go_ret
      exact ⟨rfl, b1⟩
     ·have d4 : decide ((nS : Int) ≤ 500) = false := an (by omega)
      have i4 : ¬ ((nS : Int) ≤ 500) := by omega
      have j4 : 500 < (nS : Int) := by omega
      obtain rfl : R = false := by rw [← hR]; simp [h0, h1, h2, h3, h4]
      clear hR
      go_wp2_with fail
      go_ret
      exact ⟨rfl, b1⟩
    ·have d3 : decide ((nC : Int) ≤ 200) = false := an (by omega)
     have i3 : ¬ ((nC : Int) ≤ 200) := by omega
     have j3 : 200 < (nC : Int) := by omega
     obtain rfl : R = false := by rw [← hR]; simp [h0, h1, h2, h3]
     clear hR
     go_wp2_with fail
     go_ret
     exact ⟨rfl, b1⟩
   ·have d2 : decide ((nM : Int) ≤ 200) = false := an (by omega)
    have i2 : ¬ ((nM : Int) ≤ 200) := by omega
    have j2 : 200 < (nM : Int) := by omega
    obtain rfl : R = false := by rw [← hR]; simp [h0, h1, h2]
    clear hR
    go_wp2_with fail
    go_ret
    exact ⟨rfl, b1⟩
  ·have d1 : decide ((nA : Int) ≤ 200) = false := an (by omega)
   have i1 : ¬ ((nA : Int) ≤ 200) := by omega
   have j1 : 200 < (nA : Int) := by omega
   obtain rfl : R = false := by rw [← hR]; simp [h0, h1]
   clear hR
   go_wp2_with fail
   go_ret
   exact ⟨rfl, b1⟩
 ·have d0 : decide ((nF : Int) ≤ 150) = false := an (by omega)
  have i0 : ¬ ((nF : Int) ≤ 150) := by omega
  have j0 : 150 < (nF : Int) := by omega
  obtain rfl : R = false := by rw [← hR]; simp [h0]
  clear hR
  go_wp2_with fail
  go_ret
  exact ⟨rfl, b1⟩
theorem MgM.nil (w : World) (m : Mg) (h1 : m.filt = Sn) (h2 : m.sel = Sn) (h3 : m.mods = Sn) (h4 : m.attrs = Sn) (h5 : m.ctl = Sn) : MgM w m {} :=
 ⟨⟨none, 0, h1, by simp, fun h => absurd rfl h⟩, ⟨none, 0, h2, by simp, fun h => absurd rfl h⟩, ⟨none, 0, h3, by simp, fun h => absurd rfl h⟩, ⟨none, 0, h4, by simp, fun h => absurd rfl h⟩, ⟨none, 0, h5, by simp, fun h => absurd rfl h⟩⟩
theorem LsOk.nil (m : Mg) (h1 : m.dn.length ≤ 100000000) (h2 : m.secret.length ≤ 100000000) (h3 : m.newRdn = []) (h4 : m.newSup = []) (h5 : m.typ = []) (h6 : m.value = []) (h7 : m.oid = []) (h8 : m.matched = []) (h9 : m.text = []) : LsOk m {} :=
 ⟨h1, h2, by simp [h3], by simp [h4], by simp [h5], by simp [h6], by simp [h7], by simp [h8], by simp [h9], ⟨by simp, by simp⟩, by simp, by simp, by simp, by simp, ⟨by simp, by simp⟩, by simp, by simp⟩
theorem nL (w : World) (hE : Env w) : Cr 12 #[.agg (Mg.row { id := 2, op := 0, ver := 3, secret := [115] })] w (.tuple #[.string ⟨#[48, 13, 2, 1, 2, 96, 8, 2, 1, 3, 4, 0, 128, 1, 115]⟩, I0]) := by
 have h : cR { id := 2, op := 0, ver := 3, secret := [115] } {} = ([48, 13, 2, 1, 2, 96, 8, 2, 1, 3, 4, 0, 128, 1, 115], 0) := by decide
 have k := fa { id := 2, op := 0, ver := 3, secret := [115] } {} w (MgM.nil w _ rfl rfl rfl rfl rfl) (LsOk.nil _ (by simp) (by simp) rfl rfl rfl rfl rfl rfl rfl) hE;rw [h] at k;exact k
theorem fy {b : List UInt8} {y : Mg × Ls} (h : dy b = .ok y) (hl : b.length ≤ 1000000) (w : World) (hE : Env w) :
  Calls Tryz.prog 17 #[.string ⟨b.toArray⟩] w fun e w' => (∃ m : Mg, e = .returned (.tuple #[.agg m.row, I0]) ∧ m.pl = y.1 ∧ MgM w' m y.2) ∧ Below w.heap.size w w' := by
 refine (lG b hl w hE).mono fun e w' k => ?_
 unfold MrP at k;rw [h] at k;obtain ⟨⟨m, h1, h2, h3⟩, h4⟩ := k;exact ⟨⟨m, h1, h2, h3.mgm⟩, h4⟩
theorem lH {b : List UInt8} {c : Int} (h : dy b = .error c) (hl : b.length ≤ 1000000) (w : World) (hE : Env w) :
  Cr 17 #[.string ⟨b.toArray⟩] w (.tuple #[.agg (Mg.row {}), .int .i64 c]) := by
 refine (lG b hl w hE).mono fun e w' k => ?_
 unfold MrP at k;rw [h] at k;exact k
theorem ff {w : World} {m : Mg} {l : Ls} (h : MgM w m l) : m.row.all (·.oneCell') = true := by
 obtain ⟨a1, c1, e1⟩ := h.filt.shape;obtain ⟨a2, c2, e2, -, -⟩ := h.sel;obtain ⟨a3, c3, e3, -, -⟩ := h.mods;obtain ⟨a4, c4, e4, -, -⟩ := h.attrs;obtain ⟨a5, c5, e5, -, -⟩ := h.ctl;exact Mg.one m ⟨by rw [e5]; rfl, by rw [e1]; rfl, by rw [e2]; rfl, by rw [e3]; rfl, by rw [e4]; rfl⟩
theorem fg (w : World) (hE : Env w) : Cr 10 #[] w (.bool true) := by
 have k1 := nL w hE
 go_enter Tryz.func10, Tryz.ntmps10
 go_wp2_with fail
 refine ag k1 ?_;rintro e w1 ⟨rfl, b1⟩;clear k1;have k2 := fy (b := [48, 9, 2, 1, 1, 74, 4, 100, 99, 61, 122]) (y := ({ id := 1, op := 10, dn := [100, 99, 61, 122] }, {})) (by rfl) (by simp) w1 (hE.below b1);clear hE
 go_wp2_with fail
 refine ag k2 ?_;rintro e w2 ⟨⟨m, rfl, hpl, hm⟩, hb⟩;obtain ⟨D, hD⟩ : ∃ D, m.row = D := ⟨_, rfl⟩;have HD1 := hid (show D.all (·.oneCell') = true by rw [← hD]; exact ff hm);have HD2 := hid (show D.size = 28 by rw [← hD]; rfl);have HO := hid (show m.op = 10 from congrArg Mg.op hpl);have HN := hid (show m.dn = [100, 99, 61, 122] from congrArg Mg.dn hpl);rw [hD];have HD := hid hD;clear hD hpl hm;have b2 := b1.trans (hb.mono b1.size);clear k2 hb b1;have x3 := alz w2 Zm 28;have b3 : Below w.heap.size w ((w2.alloc (.cells Zm 28)).setRow w2.heap.size D) := bm (b2.alloc b2.size _) b2.size D;have e3 := setRow_heap (w2.alloc (.cells Zm 28)) w2.heap.size _ D _ _ x3;have X3 := hid x3;have q1 : ((w2.alloc (.cells Zm 28)).setRow w2.heap.size D).cell? ⟨w2.heap.size, 1, none⟩ = some (.int .i64 10) := (ad e3 1).trans (by rw [← HD.out]; show some (Value.int .i64 m.op) = _; rw [HO.out]);have q2 : ((w2.alloc (.cells Zm 28)).setRow w2.heap.size D).cell? ⟨w2.heap.size, 2, none⟩ = some (.string ⟨#[100, 99, 61, 122]⟩) := (ad e3 2).trans (by rw [← HD.out]; show some (Value.string ⟨m.dn.toArray⟩) = _; rw [HN.out]);have Q1 := hid q1;have Q2 := hid q2;clear q1 q2;have B3 := hid b3;clear x3 b2 b3 e3
 go_wp2_with (refine bh rfl 28 (.tmp 3) (.tmp 12) rfl w2.heap.size 28 Zm D (by rfl) (by rfl) X3.out (by rw [HD2.out]; rfl) (by rw [HD2.out]; rfl) HD1.out ?_; have q1 := Q1.out; have q2 := Q2.out; generalize ((w2.alloc (.cells Zm 28)).setRow w2.heap.size D) = w4 at q1 q2 B3 ⊢; clear Q1 Q2 X3)
 go_ret
 exact ⟨rfl, B3.out⟩
theorem ir {m : Mg} {l : Ls} (h : (cR m l).2 = 0) : bH m l = true ∧ bP 20 (cR m l).1 = .ok (gF m l, []) ∧ (cR m l).1.length ≤ 65536 := by
 unfold cR at h ⊢;cases hv : bH m l with
 | false => rw [hv] at h; simp at h
 | true =>
  rw [hv] at h;simp only [if_true] at h ⊢;obtain ⟨h1, h2, h3, h4, _⟩ := ng _ h;refine ⟨trivial, ?_, by rw [h2, h3]; exact h4⟩;unfold fO at h1
  split at h1
  ·cases h1
  ·rename_i e0 q; cases h1; exact q
  ·cases h1
theorem fo {m : Mg} {l : Ls} (h : (cR m l).2 = 0) : dy (cR m l).1 = .ok (m.pl, l) := by
 obtain ⟨hv, hr, _⟩ := ir h;unfold dy fO;rw [hr];simp only [qF hv, fM, hv, if_true]
theorem mK {b : List UInt8} {y : Mg × Ls} (h : dy b = .ok y) : bH y.1 y.2 = true ∧ LsOk y.1 y.2 ∧ ∀ m : Mg, m.pl = y.1 → (cR m y.2).2 = 0 := by
 unfold dy fO at h;cases hr : bP 20 b with
 | error c => rw [hr] at h; cases h
 | ok p =>
  obtain ⟨el, r⟩ := p;rw [hr] at h;cases r with
  | cons x r => cases h
  | nil =>
   simp only at h;cases hT : dU el with
   | none => rw [hT] at h; cases h
   | some z =>
    rw [hT] at h;simp only at h
    split at h
    ·rename_i hv
     cases h;have hraw := (fL 20 b el [] hr).2;refine ⟨hv, kQ (m := y.1) (l := y.2) hT (by omega), fun m hm => ?_⟩;rw [pn hr hT hm (by rw [← fM, hm]; exact hv)]
    ·cases h
theorem gy (w : World) : MgM w {} {} := (LsL.none 0 w {}).mgm
theorem lI {b : List UInt8} {c : Int} (h : dy b = .error c) : c ≠ 0 := by
 unfold dy fO at h;cases hr : bP 20 b with
 | error c' =>
  rw [hr] at h;simp only [Except.error.injEq] at h;rw [← h];exact lE b 20 c' hr
 | ok p =>
  obtain ⟨el, r⟩ := p;rw [hr] at h;cases r with
  | cons x r => simp only [Except.error.injEq] at h; omega
  | nil =>
   simp only at h;cases hT : dU el with
   | none => rw [hT] at h; simp only [Except.error.injEq] at h; omega
   | some z =>
    rw [hT] at h;simp only at h
    split at h
    ·cases h
    ·simp only [Except.error.injEq] at h; omega
theorem gq (m : Mg) (l : Ls) (w : World) (hm : MgM w m l) (hk : LsOk m l) (hE : Env w) :
  Calls Tryz.prog 14 #[.agg m.row] w fun e w' => e = .returned (.bool (bH m l)) ∧ Below w.heap.size w w' :=
 gR m l w hm (by have := hk.mods; omega) (by have := hk.ctl; omega) (fun _ w2 hb2 => gu l.filt m.filt w2 (hm.filt.below hb2) hk.filt (hE.below hb2))
theorem LsOk.to {m n : Mg} {l : Ls} (h : LsOk m l) (hp : n.pl = m.pl) : LsOk n l := LsOk.pl (by rw [hp]; exact ⟨h.dn, h.secret, h.newRdn, h.newSup, h.typ, h.value, h.oid, h.matched, h.text, h.filt, h.sel, h.sels, h.mods, h.modss, h.attrs, h.ctl, h.ctls⟩)
def bn (s : List UInt8) (k : Nat) (y : UInt8) : List UInt8 := s.set k ((s[k]?.getD 0) ^^^ y)
theorem bq (s : List UInt8) (k : Nat) (y : UInt8) : (bn s k y).length = s.length := by simp [bn]
theorem xor_self (a y : UInt8) : a ^^^ y = a ↔ y = 0 := by
 constructor
 ·intro h
  have h2 : a ^^^ (a ^^^ y) = a ^^^ a := by rw [h]
  rw [← UInt8.xor_assoc, UInt8.xor_self, UInt8.zero_xor] at h2;exact h2
 ·rintro rfl
  exact UInt8.xor_zero
theorem rx {s : List UInt8} {k : Nat} {y : UInt8} (hk : k < s.length) : bn s k y = s ↔ y = 0 := by
 unfold bn;rw [aM hk, Option.getD_some]
 constructor
 ·intro h
  have h2 : (s.set k (s[k] ^^^ y))[k]? = s[k]? := by rw [h]
  rw [List.getElem?_set_self hk, aM hk] at h2;exact (xor_self _ _).1 (aD h2)
 ·rintro rfl
  rw [UInt8.xor_zero];exact List.set_getElem_self hk
def byB (n : Int) : UInt8 := UInt8.ofNat (n % 256).toNat
theorem vZ (n : Int) : IntKind.u8.wrap n = ((byB n).toNat : Int) := by
 rw [IntKind.wrap_u8'];unfold byB;simp only [UInt8.toNat_ofNat']
 omega
theorem wa (n : Int) : ((((byB n).toNat : Nat) : Int) == 0) = decide (byB n = 0) := by
 rw [Bool.eq_iff_iff, beq_iff_eq, aT]
 constructor
 ·intro h
  exact UInt8.toNat_inj.1 (by simpa using h)
 ·intro h
  rw [h]; rfl
theorem wk (a y : UInt8) : bits .xor .u8 (a.toNat : Int) (y.toNat : Int) = ((a ^^^ y).toNat : Int) := by
 rw [u8_xor_nat _ _ a.toNat_lt y.toNat_lt, UInt8.toNat_xor]
def rv (W : World) (s : List UInt8) (cap k : Nat) (v : Value) : World :=
 ((W.alloc (.cells (bytesRow ⟨s.toArray⟩ cap) 5 ((bytesRow ⟨s.toArray⟩ cap).size, (bytesRow ⟨s.toArray⟩ cap).size + 1))).setCell ⟨W.heap.size, k, none⟩ v).drew
theorem hU (W : World) (s : List UInt8) (cap k : Nat) (v : Value) : Below W.heap.size W (rv W s cap k v) :=
 (((aq _ _).alloc (ah _) _).setCell (p := ⟨W.heap.size, k, none⟩) (ah _) _).drew
theorem kq (W : World) (s : List UInt8) (cap k : Nat) (y : UInt8) (hk : k < s.length) (j : Nat) (u : Value)
  (h : (bV (bn s k y))[j]? = some u) : (rv W s cap k (.int .u8 (((s[k] ^^^ y).toNat : Nat) : Int))).cell? ((⟨W.heap.size, 0, none⟩ : Addr).add j) = some u := by
 have hj : j < s.length := by
  have := (List.getElem?_eq_some_iff.1 h).1
  rwa [fD, bq] at this
 rw [wj _ _ (by rw [bq]; exact hj)] at h;cases h;have e0 : ∀ i (hi : i < s.length), (W.alloc (.cells (bytesRow ⟨s.toArray⟩ cap) 5 ((bytesRow ⟨s.toArray⟩ cap).size, (bytesRow ⟨s.toArray⟩ cap).size + 1))).cell? ⟨W.heap.size, i, none⟩ = some (.int .u8 ((s[i].toNat : Nat) : Int)) := fun i hi => by
  rw [World.cell?_alloc_mark, bytesRow_at ⟨s.toArray⟩ cap i (by simpa using hi)]
  simp
 show ((W.alloc _).setCell _ _).cell? _ = _;rw [Addr.add_lit, Nat.zero_add]
 by_cases hjk : j = k
 ·subst hjk
  rw [World.cell?_setCell_same _ _ _ (e0 j hk)]
  simp [bn, hk]
 ·rw [World.cell?_setCell_other _ _ _ _ (by simp only [ne_eq, Addr.mk.injEq, true_and, and_true]; omega), e0 j hj]
  simp only [bn, List.getElem_set];rw [if_neg (fun e => hjk e.symm)]
theorem we (at_ : Int) (n : Nat) (hn : 0 < n) : ∃ k : Nat, k < n ∧ ((0 ≤ at_.tmod (n : Int) ∧ at_.tmod (n : Int) = (k : Int)) ∨ (at_.tmod (n : Int) < 0 ∧ at_.tmod (n : Int) + (n : Int) = (k : Int))) := by
 have h1 : at_.tmod (n : Int) < (n : Int) := Int.tmod_lt_of_pos _ (by omega);have h2 : -(n : Int) < at_.tmod (n : Int) := by
  have := Int.tmod_lt_of_pos (-at_) (show (0 : Int) < (n : Int) by omega);rw [Int.neg_tmod] at this
  omega
 by_cases h : 0 ≤ at_.tmod (n : Int)
 ·exact ⟨(at_.tmod (n : Int)).toNat, by omega, .inl ⟨h, by omega⟩⟩
 ·exact ⟨(at_.tmod (n : Int) + (n : Int)).toNat, by omega, .inr ⟨by omega, by omega⟩⟩
theorem wb (m : Mg) (l : Ls) (at_ by_ : Int) (hl : ej l = false) (w : World) (hm : MgM w m l) (_ : LsOk m l) (hE : Env w) :
  Cr 5 #[.agg m.row, .int .i64 at_, .int .i64 by_] w (.bool true) := by
 obtain ⟨B, hB⟩ : ∃ B, m.row = B := ⟨_, rfl⟩;have hsz : B.size = 28 := by rw [← hB]; rfl
 have b := alb w B 28;have r := alz w B 28;have KL := hid (show ∀ w', Below w.heap.size w w' → Calls Tryz.prog 9 #[.agg B] w' fun e w'' => e = .returned (.bool (ej l)) ∧ Below w'.heap.size w' w'' from fun w' hb => by rw [← hB]; exact fe m l w' (hm.below hb));have KA := hid (show ∀ w', Below w.heap.size w w' → Calls Tryz.prog 10 #[] w' fun e w'' => e = .returned (.bool true) ∧ Below w'.heap.size w' w'' from fun w' hb => fg w' (hE.below hb));rw [hB];rw [hl] at KL;have HZ := hid hsz;clear hB hsz hm hE hl
 go_enter Tryz.func5, Tryz.ntmps5
 go_upto_region 1 with fail
 generalize w.alloc (.cells B 28) = w1 at b r ⊢;have kc := KL.out w1 b
 go_wp2_with (refine bg rfl 28 (.tmp 3) rfl w.heap.size 28 _ (0, 0) (by rfl) r _ Tryz.underlying28 rfl (by rw [HZ.out]; rfl) ?_)
 refine ag kc ?_;rintro e w2 ⟨rfl, hb⟩;replace b := b.trans (hb.mono b.size);replace r := bk hb r;clear kc hb;have kc := KA.out w2 b
 go_wp2_with fail
 refine ag kc ?_;rintro e w3 ⟨rfl, hb⟩;replace b := b.trans (hb.mono b.size);replace r := bk hb r;clear kc hb
 go_wp2_with fail
 go_ret
 exact ⟨rfl, b⟩
theorem wg (m : Mg) (l : Ls) (at_ by_ : Int) (hl : ej l = true) (hc0 : (cR m l).2 ≠ 0) (w : World) (hm : MgM w m l) (hk : LsOk m l) (hE : Env w) :
  Cr 5 #[.agg m.row, .int .i64 at_, .int .i64 by_] w (.bool true) := by
 obtain ⟨S, hS⟩ : ∃ S, (cR m l).1 = S := ⟨_, rfl⟩;obtain ⟨c, hc⟩ : ∃ c, (cR m l).2 = c := ⟨_, rfl⟩;obtain ⟨B, hB⟩ : ∃ B, m.row = B := ⟨_, rfl⟩;have hsz : B.size = 28 := by rw [← hB]; rfl
 have b := alb w B 28;have r := alz w B 28;have KL := hid (show ∀ w', Below w.heap.size w w' → Calls Tryz.prog 9 #[.agg B] w' fun e w'' => e = .returned (.bool (ej l)) ∧ Below w'.heap.size w' w'' from fun w' hb => by rw [← hB]; exact fe m l w' (hm.below hb));have KA := hid (show ∀ w', Below w.heap.size w w' → Calls Tryz.prog 10 #[] w' fun e w'' => e = .returned (.bool true) ∧ Below w'.heap.size w' w'' from fun w' hb => fg w' (hE.below hb));have KW := hid (show ∀ w', Below w.heap.size w w' → Calls Tryz.prog 12 #[.agg B] w' fun e w'' => e = .returned (.tuple #[.string ⟨S.toArray⟩, .int .i64 c]) ∧ Below w'.heap.size w' w'' from fun w' hb => by rw [← hB, ← hS, ← hc]; exact fa m l w' (hm.below hb) hk (hE.below hb));rw [hc] at hc0;have j0 : decide (c = 0) = false := an hc0;have j1 : (c == 0) = false := aE hc0;have j2 : (c != 0) = true := by simp [hc0]
 rw [hB];rw [hl] at KL;have HE := hid hE;have HZ := hid hsz;clear hB hsz hm hk hE hl hS hc hc0
 go_enter Tryz.func5, Tryz.ntmps5
 go_upto_region 1 with fail
 generalize w.alloc (.cells B 28) = w1 at b r ⊢;have kc := KL.out w1 b
 go_wp2_with (refine bg rfl 28 (.tmp 3) rfl w.heap.size 28 _ (0, 0) (by rfl) r _ Tryz.underlying28 rfl (by rw [HZ.out]; rfl) ?_)
 refine ag kc ?_;rintro e w2 ⟨rfl, hb⟩;replace b := b.trans (hb.mono b.size);replace r := bk hb r;clear kc hb;have kc := KW.out w2 b
 go_wp2_with (refine bg rfl 28 (.tmp 3) rfl w.heap.size 28 _ (0, 0) (by rfl) r _ Tryz.underlying28 rfl (by rw [HZ.out]; rfl) ?_)
 refine ag kc ?_;rintro e w3 ⟨rfl, hb⟩;replace b := b.trans (hb.mono b.size);replace r := bk hb r;clear kc hb;have kc := KA.out w3 b
 go_wp2_with fail
 refine ag kc ?_;rintro e w4 ⟨rfl, hb⟩;replace b := b.trans (hb.mono b.size);replace r := bk hb r;clear kc hb
 go_wp2_with fail
 go_ret
 exact ⟨rfl, b⟩
theorem wd (m : Mg) (l : Ls) (at_ by_ : Int) (hl : ej l = true) (hc0 : (cR m l).2 = 0) (hb0 : 20000 < (cR m l).1.length) (w : World) (hm : MgM w m l) (hk : LsOk m l) (hE : Env w) :
  Cr 5 #[.agg m.row, .int .i64 at_, .int .i64 by_] w (.bool true) := by
 obtain ⟨S, hS⟩ : ∃ S, (cR m l).1 = S := ⟨_, rfl⟩;obtain ⟨c, hc⟩ : ∃ c, (cR m l).2 = c := ⟨_, rfl⟩;obtain ⟨B, hB⟩ : ∃ B, m.row = B := ⟨_, rfl⟩;have hsz : B.size = 28 := by rw [← hB]; rfl
 have b := alb w B 28;have r := alz w B 28;have KL := hid (show ∀ w', Below w.heap.size w w' → Calls Tryz.prog 9 #[.agg B] w' fun e w'' => e = .returned (.bool (ej l)) ∧ Below w'.heap.size w' w'' from fun w' hb => by rw [← hB]; exact fe m l w' (hm.below hb));have KA := hid (show ∀ w', Below w.heap.size w w' → Calls Tryz.prog 10 #[] w' fun e w'' => e = .returned (.bool true) ∧ Below w'.heap.size w' w'' from fun w' hb => fg w' (hE.below hb));have KW := hid (show ∀ w', Below w.heap.size w w' → Calls Tryz.prog 12 #[.agg B] w' fun e w'' => e = .returned (.tuple #[.string ⟨S.toArray⟩, .int .i64 c]) ∧ Below w'.heap.size w' w'' from fun w' hb => by rw [← hB, ← hS, ← hc]; exact fa m l w' (hm.below hb) hk (hE.below hb));rw [hS] at hb0;rw [hc0] at hc;subst hc;rw [hB];rw [hl] at KL;have HE := hid hE;have HZ := hid hsz;have g1 : decide ((20000 : Int) < (S.length : Int)) = true := aA (by omega);have g3 : decide ((S.length : Int) > 20000) = true := aA (by omega);clear hB hsz hm hk hE hl hS hc0 hb0
 go_enter Tryz.func5, Tryz.ntmps5
 go_upto_region 1 with fail
 generalize w.alloc (.cells B 28) = w1 at b r ⊢;have kc := KL.out w1 b
 go_wp2_with (refine bg rfl 28 (.tmp 3) rfl w.heap.size 28 _ (0, 0) (by rfl) r _ Tryz.underlying28 rfl (by rw [HZ.out]; rfl) ?_)
 refine ag kc ?_;rintro e w2 ⟨rfl, hb⟩;replace b := b.trans (hb.mono b.size);replace r := bk hb r;clear kc hb;have kc := KW.out w2 b
 go_wp2_with (refine bg rfl 28 (.tmp 3) rfl w.heap.size 28 _ (0, 0) (by rfl) r _ Tryz.underlying28 rfl (by rw [HZ.out]; rfl) ?_)
 refine ag kc ?_;rintro e w3 ⟨rfl, hb⟩;replace b := b.trans (hb.mono b.size);replace r := bk hb r;clear kc hb;have kc := KA.out w3 b
 go_wp2_with fail
 refine ag kc ?_;rintro e w4 ⟨rfl, hb⟩;replace b := b.trans (hb.mono b.size);replace r := bk hb r;clear kc hb
 go_wp2_with fail
 go_ret
 exact ⟨rfl, b⟩
theorem wh (m : Mg) (l : Ls) (at_ by_ : Int) (hl : ej l = true) (hc0 : (cR m l).2 = 0) (hb0 : (cR m l).1.length ≤ 20000) (kk : Nat) (hkk : kk < (cR m l).1.length) (hplace : (0 ≤ at_.tmod ((cR m l).1.length : Int) ∧ at_.tmod ((cR m l).1.length : Int) = (kk : Int)) ∨ (at_.tmod ((cR m l).1.length : Int) < 0 ∧ at_.tmod ((cR m l).1.length : Int) + ((cR m l).1.length : Int) = (kk : Int))) (d : Int) (hR : dy (bn (cR m l).1 kk (byB by_)) = .error d) (w : World) (hm : MgM w m l) (hk : LsOk m l) (hE : Env w) :
  Cr 5 #[.agg m.row, .int .i64 at_, .int .i64 by_] w (.bool true) := by
 obtain ⟨S, hS⟩ : ∃ S, (cR m l).1 = S := ⟨_, rfl⟩;obtain ⟨c, hc⟩ : ∃ c, (cR m l).2 = c := ⟨_, rfl⟩;obtain ⟨B, hB⟩ : ∃ B, m.row = B := ⟨_, rfl⟩;have hsz : B.size = 28 := by rw [← hB]; rfl
 have b := alb w B 28;have r := alz w B 28;have KL := hid (show ∀ w', Below w.heap.size w w' → Calls Tryz.prog 9 #[.agg B] w' fun e w'' => e = .returned (.bool (ej l)) ∧ Below w'.heap.size w' w'' from fun w' hb => by rw [← hB]; exact fe m l w' (hm.below hb));have KA := hid (show ∀ w', Below w.heap.size w w' → Calls Tryz.prog 10 #[] w' fun e w'' => e = .returned (.bool true) ∧ Below w'.heap.size w' w'' from fun w' hb => fg w' (hE.below hb));have KW := hid (show ∀ w', Below w.heap.size w w' → Calls Tryz.prog 12 #[.agg B] w' fun e w'' => e = .returned (.tuple #[.string ⟨S.toArray⟩, .int .i64 c]) ∧ Below w'.heap.size w' w'' from fun w' hb => by rw [← hB, ← hS, ← hc]; exact fa m l w' (hm.below hb) hk (hE.below hb));rw [hS] at hb0;obtain ⟨hv, hrr, hSl⟩ := ir hc0;have hRS := fo hc0;rw [hS] at hRS hSl hR hplace;have hkk : kk < S.length := by rw [← hS]; exact hkk
 have hpos : 0 < S.length := by omega
 have KS := hid (show ∀ (n : Mg) (w' : World), n.pl = m.pl → MgM w' n l → Below w.heap.size w w' → Calls Tryz.prog 18 #[.agg B, .agg n.row] w' fun e w'' => e = .returned (.bool true) ∧ Below w'.heap.size w' w'' from fun n w' hp hn hb => by rw [← hB]; exact gx m n l w' (hm.below hb) hn hp hk);rw [hc0] at hc;subst hc;rw [hB];rw [hl] at KL;have HE := hid hE;have HZ := hid hsz;have g1 : decide ((20000 : Int) < (S.length : Int)) = false := an (by omega);have g3 : decide ((S.length : Int) > 20000) = false := an (by omega);have g2 : ((S.length : Int) == 0) = false := aE (by omega);have hul : (bn S kk (byB by_)).length = S.length := bq _ _ _;have hwr : wrap64 (kk : Int) = (kk : Int) := by unfold wrap64; omega
 have hus : byB by_ = 0 → bn S kk (byB by_) = S := fun h => (rx hkk).2 h
 have hd := lI hR;have KX := hid (fun W (h : Below w.heap.size w W) => lH hR (by omega) W (hE.below h));have i4 : (d == 0) = false := aE hd;have KZ := hid (fun (W : World) => gx {} {} {} W (gy W) (gy W) rfl ⟨by simp, by simp, by simp, by simp, by simp, by simp, by simp, by simp, by simp, dF, by simp, by simp, by simp, by simp, dx, by simp, by simp⟩);clear hB hsz hm hk hE hl hS hv hrr hSl hRS hc0 hR hd hb0
 go_enter Tryz.func5, Tryz.ntmps5
 go_upto_region 1 with fail
 generalize w.alloc (.cells B 28) = w1 at b r ⊢;have kc := KL.out w1 b
 go_wp2_with (refine bg rfl 28 (.tmp 3) rfl w.heap.size 28 _ (0, 0) (by rfl) r _ Tryz.underlying28 rfl (by rw [HZ.out]; rfl) ?_)
 refine ag kc ?_;rintro e w2 ⟨rfl, hb⟩;replace b := b.trans (hb.mono b.size);replace r := bk hb r;clear kc hb;have kc := KW.out w2 b
 go_wp2_with (refine bg rfl 28 (.tmp 3) rfl w.heap.size 28 _ (0, 0) (by rfl) r _ Tryz.underlying28 rfl (by rw [HZ.out]; rfl) ?_)
 refine ag kc ?_;rintro e w3 ⟨rfl, hb⟩;replace b := b.trans (hb.mono b.size);replace r := bk hb r;clear kc hb;have HPL := hid hplace;clear hplace;have hcv := run_bytes_of_string (P := Tryz.prog) w3 9 39 5 ⟨S.toArray⟩ Tryz.underlying9 Tryz.underlying39 Tryz.underlying5;obtain ⟨cap, hcap⟩ : ∃ cap, grownCap w3 (ByteArray.mk S.toArray).size 0 5 = cap := ⟨_, rfl⟩;rw [hcap] at hcv;clear hcap;obtain ⟨x0, hx0⟩ : ∃ x0, S[kk] = x0 := ⟨_, rfl⟩;have hc0 : (w3.alloc (.cells (bytesRow ⟨S.toArray⟩ cap) 5 ((bytesRow ⟨S.toArray⟩ cap).size, (bytesRow ⟨S.toArray⟩ cap).size + 1))).cell? ⟨w3.heap.size, kk, none⟩ = some (.int .u8 ((x0.toNat : Nat) : Int)) := by
  rw [World.cell?_alloc_mark, bytesRow_at ⟨S.toArray⟩ cap kk (by simpa using hkk), ← hx0]
  simp
 have hz0 : (w3.alloc (.cells (bytesRow ⟨S.toArray⟩ cap) 5 ((bytesRow ⟨S.toArray⟩ cap).size, (bytesRow ⟨S.toArray⟩ cap).size + 1))).frozen? ⟨w3.heap.size, kk, none⟩ = false := by
  rw [World.frozen?_alloc_mark];have hsz : S.length ≤ (bytesRow ⟨S.toArray⟩ cap).size := by simp [bytesRow]
  rw [an (by omega)]
  rfl
 have hby := vZ by_;have hzero := wa by_;obtain ⟨z, hz⟩ : ∃ z, byB by_ = z := ⟨_, rfl⟩;rw [hz] at hby hzero hul KX ;obtain ⟨u, hu⟩ : ∃ u, bn S kk z = u := ⟨_, rfl⟩;have hcells := kq w3 S cap kk z hkk;rw [hx0, hu, ← wk] at hcells;rw [hu] at hul KX;have hbt := hU w3 S cap kk (.int .u8 (bits .xor .u8 ((x0.toNat : Nat) : Int) ((z.toNat : Nat) : Int)));have HCL := hid hcells;have HBT := hid hbt;unfold rv at HCL HBT;have HZR := hid hzero;clear hus hcells hbt hzero hz hu;rcases HPL.out with ⟨h0, hk⟩ | ⟨h0, hk⟩
 case' inl => have d1 : decide (at_.tmod (S.length : Int) < 0) = false := an (by omega)
 case' inr => have d1 : decide (at_.tmod (S.length : Int) < 0) = true := aA (by omega)
 all_goals
  go_wp2_with fail
  generalize ((w3.alloc (.cells (bytesRow ⟨S.toArray⟩ cap) 5 ((bytesRow ⟨S.toArray⟩ cap).size, (bytesRow ⟨S.toArray⟩ cap).size + 1))).setCell ⟨w3.heap.size, kk, none⟩ (.int .u8 (bits .xor .u8 ((x0.toNat : Nat) : Int) ((z.toNat : Nat) : Int)))).drew = w4 at HCL HBT ⊢;have hback := eU (P := Tryz.prog) w4 39 9 5 ⟨w3.heap.size, 0, none⟩ cap u Tryz.underlying39 Tryz.underlying5 Tryz.underlying9 HCL.out;rw [hul] at hback
  try rw [hback]
  clear hcv hc0 hz0;replace b := b.trans (HBT.out.mono b.size);replace r := bk HBT.out r;have kc := KX.out w4 b
  go_wp2_with fail
  refine ag kc ?_;rintro e w5 ⟨rfl, hb⟩;replace b := b.trans (hb.mono b.size);replace r := bk hb r;clear kc hb;obtain ⟨G, hG⟩ : ∃ F, Mg.row {} = F := ⟨_, rfl⟩;have G1 := hid (show G.size = 28 by rw [← hG]; rfl);have G2 := hid (show G.all (·.oneCell') = true by rw [← hG]; exact ff (gy w));rw [hG];have HG := hid hG;clear hG;have x := hid (show (w5.alloc (.cells Zm 28)).heap[w5.heap.size]? = some (.cells Zm 28 (0, 0)) from bi _ _ _ rfl);have hb : Below w5.heap.size w5 ((w5.alloc (.cells Zm 28)).setRow w5.heap.size G) := bm ((aq _ _).alloc (ah _) _) (ah _) G;have ry := setRow_heap (w5.alloc (.cells Zm 28)) w5.heap.size _ G _ _ x.out;replace b := b.trans (hb.mono b.size);replace r := bk hb r;have Hb := hid b;clear b;have Hr := hid r;clear r;have Hry := hid ry;clear ry;clear hb
  go_upto_region 14 with (refine bh rfl 28 (.tmp 11) (.tmp 57) rfl w5.heap.size 28 _ G (by rfl) (by rfl) x.out (by rw [G1.out]; rfl) (by rw [G1.out]; rfl) G2.out ?_)
  have b := Hb.out;clear Hb;have r := Hr.out;clear Hr;have ry := Hry.out;clear Hry;obtain ⟨Y, hY⟩ : ∃ z, w5.heap.size = z := ⟨_, rfl⟩;generalize ((w5.alloc (.cells Zm 28)).setRow w5.heap.size G) = w6 at b r ry ⊢;rw [hY] at ry ⊢;clear x hY;have kc := KA.out w6 b
  go_wp2_with fail
  refine ag kc ?_;rintro e w7 ⟨rfl, hb⟩;replace b := b.trans (hb.mono b.size);replace r := bk hb r;replace ry := bk hb ry;clear kc hb;have ks : Calls Tryz.prog 18 #[.agg G, .agg Zm] w7 fun e w' => e = .returned (.bool true) ∧ Below w7.heap.size w7 w' := by
   have h := KZ.out w7;have e : (#[Value.agg G, .agg Zm] : Array Value) = #[.agg (Mg.row {}), .agg (Mg.row {})] := by rw [← HG.out]; rfl
   rw [e];exact h
  have kc := ks;clear ks
  go_wp2_with (refine bQ (by rfl) 28 (.tmp 11) rfl Y 28 _ (0, 0) (by rfl) ry _ Tryz.underlying28 rfl (by rw [G1.out]; rfl) ?_)
  refine ag kc ?_;rintro e w8 ⟨rfl, hb⟩;replace b := b.trans (hb.mono b.size);replace r := bk hb r;replace ry := bk hb ry;clear kc hb
  go_wp2_with fail
  go_ret
  exact ⟨rfl, b⟩
theorem wi (m : Mg) (l : Ls) (at_ by_ : Int) (hl : ej l = true) (hc0 : (cR m l).2 = 0) (hb0 : (cR m l).1.length ≤ 20000) (kk : Nat) (hkk : kk < (cR m l).1.length) (hplace : (0 ≤ at_.tmod ((cR m l).1.length : Int) ∧ at_.tmod ((cR m l).1.length : Int) = (kk : Int)) ∨ (at_.tmod ((cR m l).1.length : Int) < 0 ∧ at_.tmod ((cR m l).1.length : Int) + ((cR m l).1.length : Int) = (kk : Int))) (y : Mg × Ls) (hR : dy (bn (cR m l).1 kk (byB by_)) = .ok y) (w : World) (hm : MgM w m l) (hk : LsOk m l) (hE : Env w) :
  Cr 5 #[.agg m.row, .int .i64 at_, .int .i64 by_] w (.bool true) := by
 obtain ⟨S, hS⟩ : ∃ S, (cR m l).1 = S := ⟨_, rfl⟩;obtain ⟨c, hc⟩ : ∃ c, (cR m l).2 = c := ⟨_, rfl⟩;obtain ⟨B, hB⟩ : ∃ B, m.row = B := ⟨_, rfl⟩;have hsz : B.size = 28 := by rw [← hB]; rfl
 have b := alb w B 28;have r := alz w B 28;have KL := hid (show ∀ w', Below w.heap.size w w' → Calls Tryz.prog 9 #[.agg B] w' fun e w'' => e = .returned (.bool (ej l)) ∧ Below w'.heap.size w' w'' from fun w' hb => by rw [← hB]; exact fe m l w' (hm.below hb));have KA := hid (show ∀ w', Below w.heap.size w w' → Calls Tryz.prog 10 #[] w' fun e w'' => e = .returned (.bool true) ∧ Below w'.heap.size w' w'' from fun w' hb => fg w' (hE.below hb));have KW := hid (show ∀ w', Below w.heap.size w w' → Calls Tryz.prog 12 #[.agg B] w' fun e w'' => e = .returned (.tuple #[.string ⟨S.toArray⟩, .int .i64 c]) ∧ Below w'.heap.size w' w'' from fun w' hb => by rw [← hB, ← hS, ← hc]; exact fa m l w' (hm.below hb) hk (hE.below hb));rw [hS] at hb0;obtain ⟨hv, hrr, hSl⟩ := ir hc0;have hRS := fo hc0;rw [hS] at hRS hSl hR hplace;have hkk : kk < S.length := by rw [← hS]; exact hkk
 have hpos : 0 < S.length := by omega
 have KS := hid (show ∀ (n : Mg) (w' : World), n.pl = m.pl → MgM w' n l → Below w.heap.size w w' → Calls Tryz.prog 18 #[.agg B, .agg n.row] w' fun e w'' => e = .returned (.bool true) ∧ Below w'.heap.size w' w'' from fun n w' hp hn hb => by rw [← hB]; exact gx m n l w' (hm.below hb) hn hp hk);rw [hc0] at hc;subst hc;rw [hB];rw [hl] at KL;have HE := hid hE;have HZ := hid hsz;have g1 : decide ((20000 : Int) < (S.length : Int)) = false := an (by omega);have g3 : decide ((S.length : Int) > 20000) = false := an (by omega);have g2 : ((S.length : Int) == 0) = false := aE (by omega);have hul : (bn S kk (byB by_)).length = S.length := bq _ _ _;have hwr : wrap64 (kk : Int) = (kk : Int) := by unfold wrap64; omega
 have hus : byB by_ = 0 → bn S kk (byB by_) = S := fun h => (rx hkk).2 h
 obtain ⟨hvy, hky, hwy⟩ := mK hR;have KX := hid (fun W (h : Below w.heap.size w W) => fy hR (by omega) W (hE.below h));have HKY := hid hky;have HVY := hid hvy;have hsame : byB by_ = 0 → y = (m.pl, l) := fun h => by
  rw [hus h, hRS] at hR
  injection hR with hR
  exact hR.symm
 have HSAME := hid hsame;clear hB hsz hm hk hE hl hS hv hrr hSl hRS hc0 hR hvy hky hwy hsame hb0
 go_enter Tryz.func5, Tryz.ntmps5
 go_upto_region 1 with fail
 generalize w.alloc (.cells B 28) = w1 at b r ⊢;have kc := KL.out w1 b
 go_wp2_with (refine bg rfl 28 (.tmp 3) rfl w.heap.size 28 _ (0, 0) (by rfl) r _ Tryz.underlying28 rfl (by rw [HZ.out]; rfl) ?_)
 refine ag kc ?_;rintro e w2 ⟨rfl, hb⟩;replace b := b.trans (hb.mono b.size);replace r := bk hb r;clear kc hb;have kc := KW.out w2 b
 go_wp2_with (refine bg rfl 28 (.tmp 3) rfl w.heap.size 28 _ (0, 0) (by rfl) r _ Tryz.underlying28 rfl (by rw [HZ.out]; rfl) ?_)
 refine ag kc ?_;rintro e w3 ⟨rfl, hb⟩;replace b := b.trans (hb.mono b.size);replace r := bk hb r;clear kc hb;have HPL := hid hplace;clear hplace;have hcv := run_bytes_of_string (P := Tryz.prog) w3 9 39 5 ⟨S.toArray⟩ Tryz.underlying9 Tryz.underlying39 Tryz.underlying5;obtain ⟨cap, hcap⟩ : ∃ cap, grownCap w3 (ByteArray.mk S.toArray).size 0 5 = cap := ⟨_, rfl⟩;rw [hcap] at hcv;clear hcap;obtain ⟨x0, hx0⟩ : ∃ x0, S[kk] = x0 := ⟨_, rfl⟩;have hc0 : (w3.alloc (.cells (bytesRow ⟨S.toArray⟩ cap) 5 ((bytesRow ⟨S.toArray⟩ cap).size, (bytesRow ⟨S.toArray⟩ cap).size + 1))).cell? ⟨w3.heap.size, kk, none⟩ = some (.int .u8 ((x0.toNat : Nat) : Int)) := by
  rw [World.cell?_alloc_mark, bytesRow_at ⟨S.toArray⟩ cap kk (by simpa using hkk), ← hx0]
  simp
 have hz0 : (w3.alloc (.cells (bytesRow ⟨S.toArray⟩ cap) 5 ((bytesRow ⟨S.toArray⟩ cap).size, (bytesRow ⟨S.toArray⟩ cap).size + 1))).frozen? ⟨w3.heap.size, kk, none⟩ = false := by
  rw [World.frozen?_alloc_mark];have hsz : S.length ≤ (bytesRow ⟨S.toArray⟩ cap).size := by simp [bytesRow]
  rw [an (by omega)]
  rfl
 have hby := vZ by_;have hzero := wa by_;obtain ⟨z, hz⟩ : ∃ z, byB by_ = z := ⟨_, rfl⟩;rw [hz] at hby hzero hul KX HSAME ;obtain ⟨u, hu⟩ : ∃ u, bn S kk z = u := ⟨_, rfl⟩;have hcells := kq w3 S cap kk z hkk;rw [hx0, hu, ← wk] at hcells;rw [hu] at hul KX;have hbt := hU w3 S cap kk (.int .u8 (bits .xor .u8 ((x0.toNat : Nat) : Int) ((z.toNat : Nat) : Int)));have HCL := hid hcells;have HBT := hid hbt;unfold rv at HCL HBT;have HZR := hid hzero;clear hus hcells hbt hzero hz hu;rcases HPL.out with ⟨h0, hk⟩ | ⟨h0, hk⟩
 case' inl => have d1 : decide (at_.tmod (S.length : Int) < 0) = false := an (by omega)
 case' inr => have d1 : decide (at_.tmod (S.length : Int) < 0) = true := aA (by omega)
 all_goals
  go_wp2_with fail
  generalize ((w3.alloc (.cells (bytesRow ⟨S.toArray⟩ cap) 5 ((bytesRow ⟨S.toArray⟩ cap).size, (bytesRow ⟨S.toArray⟩ cap).size + 1))).setCell ⟨w3.heap.size, kk, none⟩ (.int .u8 (bits .xor .u8 ((x0.toNat : Nat) : Int) ((z.toNat : Nat) : Int)))).drew = w4 at HCL HBT ⊢;have hback := eU (P := Tryz.prog) w4 39 9 5 ⟨w3.heap.size, 0, none⟩ cap u Tryz.underlying39 Tryz.underlying5 Tryz.underlying9 HCL.out;rw [hul] at hback
  try rw [hback]
  clear hcv hc0 hz0;replace b := b.trans (HBT.out.mono b.size);replace r := bk HBT.out r;have kc := KX.out w4 b
  go_wp2_with fail
  refine ag kc ?_;rintro e w5 ⟨⟨p, rfl, hpl2, hp⟩, hb⟩;replace b := b.trans (hb.mono b.size);replace r := bk hb r;clear kc hb;obtain ⟨G, hG⟩ : ∃ F, Mg.row p = F := ⟨_, rfl⟩;have G1 := hid (show G.size = 28 by rw [← hG]; rfl);have G2 := hid (show G.all (·.oneCell') = true by rw [← hG]; exact ff hp);rw [hG];have HG := hid hG;clear hG;have PM := hid hp;clear hp;have bp := aq w5.heap.size w5;have hkp : LsOk p y.2 := LsOk.pl (by rw [hpl2]; exact HKY.out);have hvp : bH p y.2 = true := by rw [← fM, hpl2]; exact HVY.out
  have KVP := hid (fun W (h : Below w5.heap.size w5 W) (hE : Env W) => gq p y.2 W (PM.out.below h) hkp hE);rw [hvp] at KVP;rw [HG.out] at KVP;have HPL2 := hid hpl2;clear hkp hvp hpl2;have x := hid (show (w5.alloc (.cells Zm 28)).heap[w5.heap.size]? = some (.cells Zm 28 (0, 0)) from bi _ _ _ rfl);have hb : Below w5.heap.size w5 ((w5.alloc (.cells Zm 28)).setRow w5.heap.size G) := bm ((aq _ _).alloc (ah _) _) (ah _) G;have ry := setRow_heap (w5.alloc (.cells Zm 28)) w5.heap.size _ G _ _ x.out;replace b := b.trans (hb.mono b.size);replace bp := bp.trans (hb.mono bp.size);replace r := bk hb r;have Hb := hid b;clear b;have Hbp := hid bp;clear bp;have Hr := hid r;clear r;have Hry := hid ry;clear ry;clear hb
  go_upto_region 14 with (refine bh rfl 28 (.tmp 11) (.tmp 57) rfl w5.heap.size 28 _ G (by rfl) (by rfl) x.out (by rw [G1.out]; rfl) (by rw [G1.out]; rfl) G2.out ?_)
  have b := Hb.out;clear Hb;have bp := Hbp.out;clear Hbp;have r := Hr.out;clear Hr;have ry := Hry.out;clear Hry;obtain ⟨Y, hY⟩ : ∃ z, w5.heap.size = z := ⟨_, rfl⟩;generalize ((w5.alloc (.cells Zm 28)).setRow w5.heap.size G) = w6 at b bp r ry ⊢;rw [hY] at ry ⊢;clear x hY;have kc := KA.out w6 b
  go_wp2_with fail
  refine ag kc ?_;rintro e w7 ⟨rfl, hb⟩;replace b := b.trans (hb.mono b.size);replace bp := bp.trans (hb.mono bp.size);replace r := bk hb r;replace ry := bk hb ry;clear kc hb;have kc := KVP.out w7 bp (HE.out.below b)
  go_wp2_with (refine bQ (by rfl) 28 (.tmp 11) rfl Y 28 _ (0, 0) (by rfl) ry _ Tryz.underlying28 rfl (by rw [G1.out]; rfl) ?_)
  refine ag kc ?_;rintro e w8 ⟨rfl, hb⟩;replace b := b.trans (hb.mono b.size);replace bp := bp.trans (hb.mono bp.size);replace r := bk hb r;replace ry := bk hb ry;clear kc hb
  by_cases hz0 : z = 0
  ·have hy := HSAME.out hz0
   have hq0 : (((z.toNat : Nat) : Int) == 0) = true := by rw [HZR.out, hz0]; rfl
   have ks : Calls Tryz.prog 18 #[.agg B, .agg G] w8 fun e w' => e = .returned (.bool true) ∧ Below w8.heap.size w8 w' := by
    have h := KS.out p w8 (by rw [HPL2.out, hy]) (by have h := PM.out.below bp; rw [hy] at h; exact h) b;rw [HG.out] at h;exact h
   subst hz0;have kc := ks;clear ks
   go_wp2_with (first | (refine bQ (by rfl) 28 (.tmp 3) rfl w.heap.size 28 _ (0, 0) (by rfl) r _ Tryz.underlying28 rfl (by rw [HZ.out]; rfl) ?_) | (refine bQ (by rfl) 28 (.tmp 11) rfl Y 28 _ (0, 0) (by rfl) ry _ Tryz.underlying28 rfl (by rw [G1.out]; rfl) ?_))
   refine ag kc ?_;rintro e w9 ⟨rfl, hb⟩;replace b := b.trans (hb.mono b.size);replace bp := bp.trans (hb.mono bp.size);replace r := bk hb r;replace ry := bk hb ry;clear kc hb
   go_wp2_with fail
   go_ret
   exact ⟨rfl, b⟩
  ·have hq0 : (((z.toNat : Nat) : Int) == 0) = false := by rw [HZR.out]; exact an hz0
   have hq1 : (((z.toNat : Nat) : Int) != 0) = true := by simp only [bne, hq0, Bool.not_false]
   have hq2 : ¬ z.toNat = 0 := fun h => by rw [h] at hq0; cases hq0
   have hq3 : (z.toNat == 0) = false := aE hq2;have hq4 : ¬ (((z.toNat : Nat) : Int) = 0) := by omega
   clear hz0
   go_wp2_with fail
   go_ret
   exact ⟨rfl, b⟩
theorem hJ (m : Mg) (l : Ls) (at_ by_ : Int) (w : World) (hm : MgM w m l) (hk : LsOk m l) (hE : Env w) : Cr 5 #[.agg m.row, .int .i64 at_, .int .i64 by_] w (.bool true) := by
 cases hl : ej l with
 | false => exact wb m l at_ by_ hl w hm hk hE
 | true =>
  by_cases hc : (cR m l).2 = 0
  ·by_cases hb : (cR m l).1.length ≤ 20000
   ·have hpos : 0 < (cR m l).1.length := by
     obtain ⟨_, hr, _⟩ := ir hc;have := (fL 20 _ _ _ hr).1;have := iK (gF m l);simp only [aU] at *
     omega
    obtain ⟨kk, hkk, hplace⟩ := we at_ (cR m l).1.length hpos;cases hR : dy (bn (cR m l).1 kk (byB by_)) with
    | error d => exact wh m l at_ by_ hl hc hb kk hkk hplace d hR w hm hk hE
    | ok y => exact wi m l at_ by_ hl hc hb kk hkk hplace y hR w hm hk hE
   ·exact wd m l at_ by_ hl hc (by omega) w hm hk hE
  ·exact wg m l at_ by_ hl hc w hm hk hE
end Go.Proofs.YthjaiigijbjloaaGreatDoor
