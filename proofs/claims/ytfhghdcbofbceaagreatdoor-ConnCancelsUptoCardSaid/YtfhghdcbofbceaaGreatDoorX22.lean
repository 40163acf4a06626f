/- SmB, SmC, MgAt, SmM, CoW, CoO, CoS. -/
import Derived.Deep.MidRow
import Derived.Test.YtfhghdcbofbceaaGreatDoorX21
namespace Go.Proofs.YtfhghdcbofbceaaGreatDoor
open Go.RowKit Go.Lib
set_option maxRecDepth 100000
set_option maxHeartbeats 16000000
theorem iN{P:Program}{md:Region.Mode}{ops:Array Oper}{Q:Exit→Act→World→Prop}{S:World→Prop}(i:Nat)(ty:TypeId)(x:Operand)(b o:Nat)(cs:List Value)(d:TypeDesc){oi:Oper}{fuel:Nat}{listed:Array Bool}{a:Act}{w:World}(hi:ops[i]?=some oi)(ho:oi.op=.load ty x)
  (hs:Region.noSelect ops=true) (hf:Region.free md ops listed i=true) (hr:(Region.ready md ops listed).contains i=true) (hQ:∀c a w,Q (.panic c) (a.put oi.dst (.agg cs.toArray)) w→Q (.panic c) a w)
  (hw:Region.wanted oi (yielded ops a.tmps)=true) (hx:a.eval x=.pointer (some ⟨b,o,none⟩)) (hS:∀w,S w→w.rangeAt b o cs) (hu:P.underlying ty=some d) (hd:d.isRow=true) (hn:(P.info? ty).map (·.size)=some cs.length) (hSw:S w)
  (h:∀K':Act→World→Prop,(∀a w,wpAnyH P md ops Q S fuel (listed.setIfInBounds i true) a w→K' a w)→K' (a.put oi.dst (.agg cs.toArray)) w):wpAnyH P md ops Q S (fuel+1) listed a w:=
 wpAnyH_take hi hs hf hr hQ (yieldsIf_load_mid hw ty x ho b o hx cs d hS hu hd hn) hSw (h _ (fun _ _ k=>k))
theorem tN{w:World}{g o:Nat}{a b c d:Value}(h:w.cell? ⟨g,o,none⟩=some a∧w.cell? ⟨g,o+1,none⟩=some b∧w.cell? ⟨g,o+2,none⟩=some c∧w.cell? ⟨g,o+3,none⟩=some d):w.rangeAt g o [a,b,c,d]:=by
 obtain⟨h0,h1,h2,h3⟩:=h;intro j v hv
 match j,hv with
 |0,hv=>simp at hv;subst hv;exact h0
 |1,hv=>simp at hv;subst hv;exact h1
 |2,hv=>simp at hv;subst hv;exact h2
 |3,hv=>simp at hv;subst hv;exact h3
 |_+4,hv=>simp at hv
theorem kF(v u:Value)(r:List Ct)(w:World)(h1:ig w v r)(h2:ig w u r)(hl:r.length≤140737488355328):
  Cr 66 #[v,u] w (.bool true):=by
 obtain⟨H1,H2⟩:=Cg h1 h2;obtain⟨a1,c1,rfl,hc1,hx1⟩:=h1;obtain⟨a2,c2,rfl,hc2,hx2⟩:=h2;clear hx1 hx2;have hq:((r.length:Int)==(r.length:Int))=true:=by simp
 go_enter Tryz.func66,Tryz.ntmps66
 go_wp2_with fail
 go_loopw [5] (fun i wr=>∃k:Nat,i=.int .i64 (k:Int)∧k≤r.length∧Bw w wr) (fun i _=>r.length -(RowKit.intOf i).toNat)
 case atStart=>exact⟨0,rfl,by omega,aA _ _⟩
 case round=>
  obtain⟨k,rfl,hk,hb⟩:=hrel
  by_cases hkl:k<r.length
  ·obtain⟨x,hx⟩:∃x,r[k]=x:=⟨_,rfl⟩
   have hxk:r[k]?=some x:=by rw[aM hkl,hx]
   have hr0:r≠[]:=by intro e;rw[e] at hkl;simp at hkl
   obtain⟨a3,cap3,e3,_,hcell⟩:=(H1.out).below hb;obtain⟨g,o,ha,hcc⟩:=hcell hr0;obtain⟨a4,cap4,e4,_,hcell4⟩:=(H2.out).below hb;obtain⟨g',o',ha',hcc'⟩:=hcell4 hr0;cases e3;cases e4;subst ha ha';have i1:(k:Int)<(r.length:Int):=by omega
   have i3:decide ((k:Int)<(r.length:Int))=true:=aC i1;have hbs:=hb.size;have R1:wr.rangeAt g (o+k*4) [.string ⟨x.oid.toArray⟩,.bool x.crit,.bool x.has,.string ⟨x.value.toArray⟩]:=tN (hcc k x hxk);have R2:wr.rangeAt g' (o'+k*4) [.string ⟨x.oid.toArray⟩,.bool x.crit,.bool x.has,.string ⟨x.value.toArray⟩]:=tN (hcc' k x hxk);clear hcc hcell hcc' hcell4 hxk hx
   go_upto_region 6 with fail
   refine aR (S:=fun w'=>w'.rangeAt g (o+k*4) [.string ⟨x.oid.toArray⟩,.bool x.crit,.bool x.has,.string ⟨x.value.toArray⟩]∧w'.rangeAt g' (o'+k*4) [.string ⟨x.oid.toArray⟩,.bool x.crit,.bool x.has,.string ⟨x.value.toArray⟩]) (by kernel_rfl) ?_;have TT:wr.drew.rangeAt g (o+k*4) [.string ⟨x.oid.toArray⟩,.bool x.crit,.bool x.has,.string ⟨x.value.toArray⟩]∧wr.drew.rangeAt g' (o'+k*4) [.string ⟨x.oid.toArray⟩,.bool x.crit,.bool x.has,.string ⟨x.value.toArray⟩]:=⟨R1,R2⟩;have hb:=hb.drew
   change wpAnyH _ _ _ _ _ _ _ _ wr.drew
   clear R1 R2;generalize wr.drew=w4 at TT hb⊢;refine tn 0 (.slice (some ⟨g,o,none⟩) r.length c1) rfl (fun w' hS=>by go_simp) TT ?_;refine tn 1 (.int .i64 (k:Int)) rfl (fun w' hS=>by go_simp) TT ?_;refine tp 2 ⟨g,o+k*4,none⟩ rfl TT ?_;refine iN 3 83 (.tmp 19) g (o+k*4) [.string ⟨x.oid.toArray⟩,.bool x.crit,.bool x.has,.string ⟨x.value.toArray⟩] _ rfl rfl (by kernel_rfl) (by kernel_rfl) (by kernel_rfl) (fun _ _ _ h=>h) (by rfl) (by rfl) (fun w' hS=>hS.1) Tryz.underlying83 rfl (by rfl) TT (kkn ?_);refine tn 4 (.slice (some ⟨g',o',none⟩) r.length c2) rfl (fun w' hS=>by go_simp) TT ?_;refine tn 5 (.int .i64 (k:Int)) rfl (fun w' hS=>by go_simp) TT ?_;refine tp 6 ⟨g',o'+k*4,none⟩ rfl TT ?_;refine iN 7 83 (.tmp 23) g' (o'+k*4) [.string ⟨x.oid.toArray⟩,.bool x.crit,.bool x.has,.string ⟨x.value.toArray⟩] _ rfl rfl (by kernel_rfl) (by kernel_rfl) (by kernel_rfl) (fun _ _ _ h=>h) (by rfl) (by rfl) (fun w' hS=>hS.2) Tryz.underlying83 rfl (by rfl) TT (kkn ?_);refine ao 8 rfl (kks TT ?_);refine xk (by kernel_rfl) ?_ _;simp only[Exit.then];refine‹∀(a:Act) (w:World),Code.wp _ _ _ a w→_› _ _ ?_
   go_wp2_with fail
   exact⟨⟨k+1,by go_num,by omega,hb⟩,by simp[RowKit.intOf];omega⟩
  ·obtain rfl:k=r.length:=by omega
   go_wp2_with fail
   go_ret
   exact⟨rfl,hb⟩
theorem tO{w:World}{g o:Nat}{p:Fl}{u:Value}(h0:w.cell? ⟨g,o,none⟩=some (.int .i64 p.op))(h1:w.cell? ⟨g,o+1,none⟩=some (.int .i64 p.n))(h2:w.cell? ⟨g,o+2,none⟩=some (.string ⟨p.typ.toArray⟩))(h3:w.cell? ⟨g,o+3,none⟩=some (.string ⟨p.value.toArray⟩))(h4:w.cell? ⟨g,o+4,none⟩=some (.string ⟨p.init.toArray⟩))(h5:w.cell? ⟨g,o+5,none⟩=some (.string ⟨p.final.toArray⟩))(h6:w.cell? ⟨g,o+6,none⟩=some u):
  w.rangeAt g o [.int .i64 p.op,.int .i64 p.n,.string ⟨p.typ.toArray⟩,.string ⟨p.value.toArray⟩,.string ⟨p.init.toArray⟩,.string ⟨p.final.toArray⟩,u]:=by
 intro j v hv
 match j,hv with
 |0,hv=>simp at hv;subst hv;exact h0
 |1,hv=>simp at hv;subst hv;exact h1
 |2,hv=>simp at hv;subst hv;exact h2
 |3,hv=>simp at hv;subst hv;exact h3
 |4,hv=>simp at hv;subst hv;exact h4
 |5,hv=>simp at hv;subst hv;exact h5
 |6,hv=>simp at hv;subst hv;exact h6
 |_+7,hv=>simp at hv
theorem bZ{w w':World}{g o:Nat}{cs:List Value}(h:w.rangeAt g o cs)(hb:Bw w w'):w'.rangeAt g o cs:=fun j v hv=>(hb.cell (bj (h j v hv))).trans (h j v hv)
theorem Bl{w w':World}{g:Nat}{x:Obj}(h:Bw w w')(hx:w.heap[g]?=some x):w'.heap[g]?=some x:=(h.block g (gl hx)).trans hx
theorem iO{B:Nat}{a w:World}(h:Below B a w)(n:Nat):Below B a (w.drewN n):=⟨h.os,h.tape,h.output,h.size,h.block⟩
theorem lU(v u:Value)(r:List Fl)(w:World)(h1:de w v r)(h2:de w u r)(hl:r.length≤140737488355328)(hf:∀x∈r,x.any.length≤140737488355328):
  Cr 62 #[v,u] w (.bool true):=by
 obtain⟨H1,H2⟩:=Cg h1 h2;obtain⟨a1,c1,rfl,hc1,hx1⟩:=h1;obtain⟨a2,c2,rfl,hc2,hx2⟩:=h2;clear hx1 hx2;have H3:=hid hf;clear hf;have hq:((r.length:Int)==(r.length:Int))=true:=by simp
 go_enter Tryz.func62,Tryz.ntmps62
 go_wp2_with fail
 go_loopw [5] (fun i wr=>∃k:Nat,i=.int .i64 (k:Int)∧k≤r.length∧Bw w wr) (fun i _=>r.length -(RowKit.intOf i).toNat)
 case atStart=>exact⟨0,rfl,by omega,aA _ _⟩
 case round=>
  obtain⟨k,rfl,hk,hb⟩:=hrel
  by_cases hkl:k<r.length
  ·obtain⟨x,hx⟩:∃x,r[k]=x:=⟨_,rfl⟩
   have hxk:r[k]?=some x:=by rw[aM hkl,hx]
   have hr0:r≠[]:=by intro e;rw[e] at hkl;simp at hkl
   obtain⟨a3,cap3,e3,_,hcell⟩:=(H1.out).below hb;obtain⟨g,o,ha,hcc⟩:=hcell hr0;obtain⟨a4,cap4,e4,_,hcell4⟩:=(H2.out).below hb;obtain⟨g',o',ha',hcc'⟩:=hcell4 hr0;cases e3;cases e4;subst ha ha';have i1:(k:Int)<(r.length:Int):=by omega
   have i3:decide ((k:Int)<(r.length:Int))=true:=aC i1;have hbs:=hb.size;obtain⟨p0,p1,p2,p3,p4,p5,z1,p6,hz1⟩:=hcc k x hxk;obtain⟨r0,r1,r2,r3,r4,r5,z2,r6,hz2⟩:=hcc' k x hxk;have hxl:=H3.out x (List.mem_of_getElem? hxk);have R1:=tO p0 p1 p2 p3 p4 p5 p6;have R2:=tO r0 r1 r2 r3 r4 r5 r6;obtain⟨HZ1,HZ2⟩:=Cg hz1 hz2;obtain⟨s1,d1,e5,_,_⟩:=hz1;obtain⟨s2,d2,e6,_,_⟩:=hz2;subst e5 e6;clear hcc hcell hcc' hcell4 hxk hx p0 p1 p2 p3 p4 p5 p6 r0 r1 r2 r3 r4 r5 r6
   go_upto_region 6 with fail
   refine aR (S:=fun w'=>w'.rangeAt g (o+k*7) [.int .i64 x.op,.int .i64 x.n,.string ⟨x.typ.toArray⟩,.string ⟨x.value.toArray⟩,.string ⟨x.init.toArray⟩,.string ⟨x.final.toArray⟩,.slice s1 x.any.length d1]∧w'.rangeAt g' (o'+k*7) [.int .i64 x.op,.int .i64 x.n,.string ⟨x.typ.toArray⟩,.string ⟨x.value.toArray⟩,.string ⟨x.init.toArray⟩,.string ⟨x.final.toArray⟩,.slice s2 x.any.length d2]) (by kernel_rfl) ?_;have TT:wr.drew.rangeAt g (o+k*7) [.int .i64 x.op,.int .i64 x.n,.string ⟨x.typ.toArray⟩,.string ⟨x.value.toArray⟩,.string ⟨x.init.toArray⟩,.string ⟨x.final.toArray⟩,.slice s1 x.any.length d1]∧wr.drew.rangeAt g' (o'+k*7) [.int .i64 x.op,.int .i64 x.n,.string ⟨x.typ.toArray⟩,.string ⟨x.value.toArray⟩,.string ⟨x.init.toArray⟩,.string ⟨x.final.toArray⟩,.slice s2 x.any.length d2]:=⟨R1,R2⟩;obtain⟨Z1,Z2⟩:=Cg (HZ1.out.below (w':=wr.drew) (aA _ _).drew) (HZ2.out.below (w':=wr.drew) (aA _ _).drew);have hb:=hb.drew
   change wpAnyH _ _ _ _ _ _ _ _ wr.drew
   clear R1 R2 HZ1 HZ2;generalize wr.drew=w4 at TT hb Z1 Z2⊢;have bC:=aA w4.heap.size w4;refine tn 0 (.slice (some ⟨g,o,none⟩) r.length c1) rfl (fun w' hS=>by go_simp) TT ?_;refine tn 1 (.int .i64 (k:Int)) rfl (fun w' hS=>by go_simp) TT ?_;refine tp 2 ⟨g,o+k*7,none⟩ rfl TT ?_;refine iN 3 141 (.tmp 21) g (o+k*7) [.int .i64 x.op,.int .i64 x.n,.string ⟨x.typ.toArray⟩,.string ⟨x.value.toArray⟩,.string ⟨x.init.toArray⟩,.string ⟨x.final.toArray⟩,.slice s1 x.any.length d1] _ rfl rfl (by kernel_rfl) (by kernel_rfl) (by kernel_rfl) (fun _ _ _ h=>h) (by rfl) (by rfl) (fun w' hS=>hS.1) Tryz.underlying141 rfl (by rfl) TT (kkn ?_);refine tn 4 (.slice (some ⟨g',o',none⟩) r.length c2) rfl (fun w' hS=>by go_simp) TT ?_;refine tn 5 (.int .i64 (k:Int)) rfl (fun w' hS=>by go_simp) TT ?_;refine tp 6 ⟨g',o'+k*7,none⟩ rfl TT ?_;refine iN 7 141 (.tmp 25) g' (o'+k*7) [.int .i64 x.op,.int .i64 x.n,.string ⟨x.typ.toArray⟩,.string ⟨x.value.toArray⟩,.string ⟨x.init.toArray⟩,.string ⟨x.final.toArray⟩,.slice s2 x.any.length d2] _ rfl rfl (by kernel_rfl) (by kernel_rfl) (by kernel_rfl) (fun _ _ _ h=>h) (by rfl) (by rfl) (fun w' hS=>hS.2) Tryz.underlying141 rfl (by rfl) TT (kkn ?_);have T0:=hid TT;refine fq 8 9 (by kernel_rfl) rfl (by rfl) rfl (by rfl) (fun K hK=>?P1) (fun K hK=>?P2)
   case' P1=>
    have fX:=alz w4 Zf 141;have m:=alb w4 Zf 141;have bC:=btt bC m;have TT:(w4.alloc (.cells Zf 141)).rangeAt g (o+k*7) [.int .i64 x.op,.int .i64 x.n,.string ⟨x.typ.toArray⟩,.string ⟨x.value.toArray⟩,.string ⟨x.init.toArray⟩,.string ⟨x.final.toArray⟩,.slice s1 x.any.length d1]∧(w4.alloc (.cells Zf 141)).rangeAt g' (o'+k*7) [.int .i64 x.op,.int .i64 x.n,.string ⟨x.typ.toArray⟩,.string ⟨x.value.toArray⟩,.string ⟨x.init.toArray⟩,.string ⟨x.final.toArray⟩,.slice s2 x.any.length d2]:=⟨bZ TT.1 m,bZ TT.2 m⟩;go_simp;refine hK _ _ TT ?_;clear hK K
    clear m;obtain⟨X,hX⟩:=nmm w4.heap.size;generalize(w4.alloc (.cells Zf 141))=w5 at TT bC fX⊢;rw[hX] at fX⊢;have lX:w4.heap.size≤X:=Nat.le_of_eq hX;clear hX;refine ao 9 rfl (fun K hK=>?_);have fY:=alz w5 Zf 141;have m:=alb w5 Zf 141;have lw:=bC.size;have bC:=btt bC m;have lY:w4.heap.size≤w5.heap.size:=lw;have TT:(w5.alloc (.cells Zf 141)).rangeAt g (o+k*7) [.int .i64 x.op,.int .i64 x.n,.string ⟨x.typ.toArray⟩,.string ⟨x.value.toArray⟩,.string ⟨x.init.toArray⟩,.string ⟨x.final.toArray⟩,.slice s1 x.any.length d1]∧(w5.alloc (.cells Zf 141)).rangeAt g' (o'+k*7) [.int .i64 x.op,.int .i64 x.n,.string ⟨x.typ.toArray⟩,.string ⟨x.value.toArray⟩,.string ⟨x.init.toArray⟩,.string ⟨x.final.toArray⟩,.slice s2 x.any.length d2]:=⟨bZ TT.1 m,bZ TT.2 m⟩;have dX:X≠w5.heap.size:=by have:=(gl fX);omega
    have fX:=Bl m fX;go_simp;refine hK _ _ TT ?_;clear hK K
    clear m;obtain⟨Y,hY⟩:=nmm w5.heap.size;generalize(w5.alloc (.cells Zf 141))=w6 at TT bC fY fX⊢;rw[hY] at fY lY dX⊢
    
    clear hY;refine ao 10 rfl (fun K hK=>?_);have bC:=xo bC lX (Xr x s1 d1);have gX:=setRow_heap w6 X _ (Xr x s1 d1) _ _ fX;have TT:(w6.setRow X (Xr x s1 d1)).rangeAt g (o+k*7) [.int .i64 x.op,.int .i64 x.n,.string ⟨x.typ.toArray⟩,.string ⟨x.value.toArray⟩,.string ⟨x.init.toArray⟩,.string ⟨x.final.toArray⟩,.slice s1 x.any.length d1]∧(w6.setRow X (Xr x s1 d1)).rangeAt g' (o'+k*7) [.int .i64 x.op,.int .i64 x.n,.string ⟨x.typ.toArray⟩,.string ⟨x.value.toArray⟩,.string ⟨x.init.toArray⟩,.string ⟨x.final.toArray⟩,.slice s2 x.any.length d2]:=⟨bZ T0.out.1 bC,bZ T0.out.2 bC⟩;have fY:=(setRow_other w6 X Y (Xr x s1 d1) (by omega)).trans fY;refine xx 141 (.tmp 6) (.tmp 22) rfl X 141 _ (Xr x s1 d1) (by rfl) (by rfl) fX (by rfl) (by rfl) (by simp[Value.oneCell']) ?_;refine hK _ _ TT ?_;clear hK K
    clear fX;generalize(w6.setRow X (Xr x s1 d1))=w7 at TT bC gX fY⊢;have fX:=gX;clear gX;refine ao 11 rfl (fun K hK=>?_);have bC:=xo bC lY (Xr x s2 d2);have gY:=setRow_heap w7 Y _ (Xr x s2 d2) _ _ fY;have TT:(w7.setRow Y (Xr x s2 d2)).rangeAt g (o+k*7) [.int .i64 x.op,.int .i64 x.n,.string ⟨x.typ.toArray⟩,.string ⟨x.value.toArray⟩,.string ⟨x.init.toArray⟩,.string ⟨x.final.toArray⟩,.slice s1 x.any.length d1]∧(w7.setRow Y (Xr x s2 d2)).rangeAt g' (o'+k*7) [.int .i64 x.op,.int .i64 x.n,.string ⟨x.typ.toArray⟩,.string ⟨x.value.toArray⟩,.string ⟨x.init.toArray⟩,.string ⟨x.final.toArray⟩,.slice s2 x.any.length d2]:=⟨bZ T0.out.1 bC,bZ T0.out.2 bC⟩;have fX:=(setRow_other w7 Y X (Xr x s2 d2) (by omega)).trans fX;refine xx 141 (.tmp 7) (.tmp 26) rfl Y 141 _ (Xr x s2 d2) (by rfl) (by rfl) fY (by rfl) (by rfl) (by simp[Value.oneCell']) ?_;refine hK _ _ TT ?_;clear hK K
    clear fY;generalize(w7.setRow Y (Xr x s2 d2))=w8 at TT bC gY fX⊢;have fY:=gY;clear gY
   case' P2=>
    have fY:=alz w4 Zf 141;have m:=alb w4 Zf 141;have bC:=btt bC m;have TT:(w4.alloc (.cells Zf 141)).rangeAt g (o+k*7) [.int .i64 x.op,.int .i64 x.n,.string ⟨x.typ.toArray⟩,.string ⟨x.value.toArray⟩,.string ⟨x.init.toArray⟩,.string ⟨x.final.toArray⟩,.slice s1 x.any.length d1]∧(w4.alloc (.cells Zf 141)).rangeAt g' (o'+k*7) [.int .i64 x.op,.int .i64 x.n,.string ⟨x.typ.toArray⟩,.string ⟨x.value.toArray⟩,.string ⟨x.init.toArray⟩,.string ⟨x.final.toArray⟩,.slice s2 x.any.length d2]:=⟨bZ TT.1 m,bZ TT.2 m⟩;go_simp;refine hK _ _ TT ?_;clear hK K
    clear m;obtain⟨Y,hY⟩:=nmm w4.heap.size;generalize(w4.alloc (.cells Zf 141))=w5 at TT bC fY⊢;rw[hY] at fY⊢;have lY:w4.heap.size≤Y:=Nat.le_of_eq hY;clear hY;refine ao 8 rfl (fun K hK=>?_);have fX:=alz w5 Zf 141;have m:=alb w5 Zf 141;have lw:=bC.size;have bC:=btt bC m;have lX:w4.heap.size≤w5.heap.size:=lw;have TT:(w5.alloc (.cells Zf 141)).rangeAt g (o+k*7) [.int .i64 x.op,.int .i64 x.n,.string ⟨x.typ.toArray⟩,.string ⟨x.value.toArray⟩,.string ⟨x.init.toArray⟩,.string ⟨x.final.toArray⟩,.slice s1 x.any.length d1]∧(w5.alloc (.cells Zf 141)).rangeAt g' (o'+k*7) [.int .i64 x.op,.int .i64 x.n,.string ⟨x.typ.toArray⟩,.string ⟨x.value.toArray⟩,.string ⟨x.init.toArray⟩,.string ⟨x.final.toArray⟩,.slice s2 x.any.length d2]:=⟨bZ TT.1 m,bZ TT.2 m⟩;have dY:Y≠w5.heap.size:=by have:=(gl fY);omega
    have fY:=Bl m fY;go_simp;refine hK _ _ TT ?_;clear hK K
    clear m;obtain⟨X,hX⟩:=nmm w5.heap.size;generalize(w5.alloc (.cells Zf 141))=w6 at TT bC fX fY⊢;rw[hX] at fX lX dY⊢
    
    clear hX;refine ao 10 rfl (fun K hK=>?_);have bC:=xo bC lX (Xr x s1 d1);have gX:=setRow_heap w6 X _ (Xr x s1 d1) _ _ fX;have TT:(w6.setRow X (Xr x s1 d1)).rangeAt g (o+k*7) [.int .i64 x.op,.int .i64 x.n,.string ⟨x.typ.toArray⟩,.string ⟨x.value.toArray⟩,.string ⟨x.init.toArray⟩,.string ⟨x.final.toArray⟩,.slice s1 x.any.length d1]∧(w6.setRow X (Xr x s1 d1)).rangeAt g' (o'+k*7) [.int .i64 x.op,.int .i64 x.n,.string ⟨x.typ.toArray⟩,.string ⟨x.value.toArray⟩,.string ⟨x.init.toArray⟩,.string ⟨x.final.toArray⟩,.slice s2 x.any.length d2]:=⟨bZ T0.out.1 bC,bZ T0.out.2 bC⟩;have fY:=(setRow_other w6 X Y (Xr x s1 d1) (by omega)).trans fY;refine xx 141 (.tmp 6) (.tmp 22) rfl X 141 _ (Xr x s1 d1) (by rfl) (by rfl) fX (by rfl) (by rfl) (by simp[Value.oneCell']) ?_;refine hK _ _ TT ?_;clear hK K
    clear fX;generalize(w6.setRow X (Xr x s1 d1))=w7 at TT bC gX fY⊢;have fX:=gX;clear gX;refine ao 11 rfl (fun K hK=>?_);have bC:=xo bC lY (Xr x s2 d2);have gY:=setRow_heap w7 Y _ (Xr x s2 d2) _ _ fY;have TT:(w7.setRow Y (Xr x s2 d2)).rangeAt g (o+k*7) [.int .i64 x.op,.int .i64 x.n,.string ⟨x.typ.toArray⟩,.string ⟨x.value.toArray⟩,.string ⟨x.init.toArray⟩,.string ⟨x.final.toArray⟩,.slice s1 x.any.length d1]∧(w7.setRow Y (Xr x s2 d2)).rangeAt g' (o'+k*7) [.int .i64 x.op,.int .i64 x.n,.string ⟨x.typ.toArray⟩,.string ⟨x.value.toArray⟩,.string ⟨x.init.toArray⟩,.string ⟨x.final.toArray⟩,.slice s2 x.any.length d2]:=⟨bZ T0.out.1 bC,bZ T0.out.2 bC⟩;have fX:=(setRow_other w7 Y X (Xr x s2 d2) (by omega)).trans fX;refine xx 141 (.tmp 7) (.tmp 26) rfl Y 141 _ (Xr x s2 d2) (by rfl) (by rfl) fY (by rfl) (by rfl) (by simp[Value.oneCell']) ?_;refine hK _ _ TT ?_;clear hK K
    clear fY;generalize(w7.setRow Y (Xr x s2 d2))=w8 at TT bC gY fX⊢;have fY:=gY;clear gY
   all_goals
    refine xk (by kernel_rfl) ?_ _
    try simp only[Exit.then]
    refine‹∀(a:Act) (w:World),Code.wp _ _ _ a w→_› _ _ ?_;have hb:=btt hb bC;have kt:=fun n=>jm (.slice s1 x.any.length d1) (.slice s2 x.any.length d2) x.any x.any (w8.drewN n) ((Z1.out.below bC).drewN n) ((Z2.out.below bC).drewN n) hxl hxl
    simp only[decide_true] at kt;clear TT T0 bC Z1 Z2;generalize w8=wF at fX fY hb kt⊢;have kt:=kt 0;have a0:=cval fX 0 (.int .i64 x.op);have a1:=cval fX 1 (.int .i64 x.n);have a2:=cval fX 2 (.string ⟨x.typ.toArray⟩);have a3:=cval fX 3 (.string ⟨x.value.toArray⟩);have a4:=cval fX 4 (.string ⟨x.init.toArray⟩);have a5:=cval fX 5 (.string ⟨x.final.toArray⟩);have a6:=cval fX 6 (.slice s1 x.any.length d1:Value);have b0:=cval fY 0 (.int .i64 x.op);have b1:=cval fY 1 (.int .i64 x.n);have b2:=cval fY 2 (.string ⟨x.typ.toArray⟩);have b3:=cval fY 3 (.string ⟨x.value.toArray⟩);have b4:=cval fY 4 (.string ⟨x.init.toArray⟩);have b5:=cval fY 5 (.string ⟨x.final.toArray⟩);have b6:=cval fY 6 (.slice s2 x.any.length d2:Value);clear fX fY
    go_wp2_with fail
    refine ag kt ?_;rintro e w9 ⟨rfl,n,rfl⟩;have hb9:=iO hb n;clear kt a0 a1 a2 a3 a4 a5 a6 b0 b1 b2 b3 b4 b5 b6 hb
    go_wp2_with fail
    exact⟨⟨k+1,by go_num,by omega,hb9⟩,by simp[RowKit.intOf];omega⟩
  ·obtain rfl:k=r.length:=by omega
   go_wp2_with fail
   go_ret
   exact⟨rfl,hb⟩
theorem sg(v u:Value)(r:List (List UInt8))(w:World)(h1:ct w v r)(h2:ct w u r)(hl:r.length≤140737488355328):
  Calls Tryz.prog 63 #[v,u] w fun e w'=>e=.returned (.bool true)∧Bw w w':=
 (jm v u r r w h1 h2 hl hl).mono fun e w' ⟨h,n,hn⟩=>⟨by rw[h];simp,by rw[hn];exact iO (aA _ _) n⟩
theorem nK(v u:Value)(r:List Md)(w:World)(h1:eY w v r)(h2:eY w u r)(hl:r.length≤140737488355328)(hr:∀x∈r,x.2.2.length≤140737488355328):
  Calls Tryz.prog 64 #[v,u] w fun e w'=>e=.returned (.bool true)∧Bw w w':=
 (mI v u r r w h1 h2 hl hl hr hr).mono fun e w' ⟨h,n,hn⟩=>⟨by rw[h];simp,by rw[hn];exact iO (aA _ _) n⟩
theorem mJ(v u:Value)(r:List (List UInt8×List (List UInt8)))(w:World)(h1:eG w v r)(h2:eG w u r)(hl:r.length≤140737488355328)(hr:∀x∈r,x.2.length≤140737488355328):
  Calls Tryz.prog 65 #[v,u] w fun e w'=>e=.returned (.bool true)∧Bw w w':=
 (lT v u r r w h1 h2 hl hl hr hr).mono fun e w' ⟨h,n,hn⟩=>⟨by rw[h];simp,by rw[hn];exact iO (aA _ _) n⟩
theorem Ev(m m':Mg)(l:Ls)(w:World)(hm:MgM w m l)(hm':MgM w m' l)(hp:m'.pl=m.pl)(hk:LsOk m l):
  Cr 37 #[.agg m.row,.agg m'.row] w (.bool true):=by
 obtain⟨k1,k2,k3,k4,k5,E0,E1,E2,E3,E4⟩:=Cz (fun W (h:Bw w W)=>lU m.filt m'.filt l.filt W (hm.filt.below h) (hm'.filt.below h) (by have:=hk.filt.1;omega) (fun x hx=>by have:=(hk.filt.2 x hx).1.2.2.2.2.1;omega)) (fun W (h:Bw w W)=>sg m.sel m'.sel l.sel W (hm.sel.below h) (hm'.sel.below h) (by have:=hk.sel;omega)) (fun W (h:Bw w W)=>nK m.mods m'.mods l.mods W (hm.mods.below h) (hm'.mods.below h) (by have:=hk.mods;omega) (fun x hx=>by have:=(hk.modss x hx).2.1;omega)) (fun W (h:Bw w W)=>mJ m.attrs m'.attrs l.attrs W (hm.attrs.below h) (hm'.attrs.below h) (by have:=hk.attrs.1;omega) (fun x hx=>by have:=(hk.attrs.2 x hx).2.1;omega)) (fun W (h:Bw w W)=>kF m.ctl m'.ctl l.ctl W (hm.ctl.below h) (hm'.ctl.below h) (by have:=hk.ctl;omega)) (show m'.id=m.id from(congrArg Mg.id hp:m'.pl.id=m.pl.id)) (show m'.op=m.op from(congrArg Mg.op hp:m'.pl.op=m.pl.op)) (show m'.dn=m.dn from(congrArg Mg.dn hp:m'.pl.dn=m.pl.dn)) (show m'.ver=m.ver from(congrArg Mg.ver hp:m'.pl.ver=m.pl.ver)) (show m'.sasl=m.sasl from(congrArg Mg.sasl hp:m'.pl.sasl=m.pl.sasl));obtain⟨E5,E6,E7,E8,E9,E10,E15,E16,E17,E18⟩:=Cz (show m'.secret=m.secret from(congrArg Mg.secret hp:m'.pl.secret=m.pl.secret)) (show m'.scope=m.scope from(congrArg Mg.scope hp:m'.pl.scope=m.pl.scope)) (show m'.deref=m.deref from(congrArg Mg.deref hp:m'.pl.deref=m.pl.deref)) (show m'.size=m.size from(congrArg Mg.size hp:m'.pl.size=m.pl.size)) (show m'.time=m.time from(congrArg Mg.time hp:m'.pl.time=m.pl.time)) (show m'.types=m.types from(congrArg Mg.types hp:m'.pl.types=m.pl.types)) (show m'.newRdn=m.newRdn from(congrArg Mg.newRdn hp:m'.pl.newRdn=m.pl.newRdn)) (show m'.newSup=m.newSup from(congrArg Mg.newSup hp:m'.pl.newSup=m.pl.newSup)) (show m'.delOld=m.delOld from(congrArg Mg.delOld hp:m'.pl.delOld=m.pl.delOld)) (show m'.hasSup=m.hasSup from(congrArg Mg.hasSup hp:m'.pl.hasSup=m.pl.hasSup));obtain⟨E19,E20,E21,E22,E23,E24,E25,E26⟩:=Cx (show m'.typ=m.typ from(congrArg Mg.typ hp:m'.pl.typ=m.pl.typ)) (show m'.value=m.value from(congrArg Mg.value hp:m'.pl.value=m.pl.value)) (show m'.oid=m.oid from(congrArg Mg.oid hp:m'.pl.oid=m.pl.oid)) (show m'.has=m.has from(congrArg Mg.has hp:m'.pl.has=m.pl.has)) (show m'.target=m.target from(congrArg Mg.target hp:m'.pl.target=m.pl.target)) (show m'.code=m.code from(congrArg Mg.code hp:m'.pl.code=m.pl.code)) (show m'.matched=m.matched from(congrArg Mg.matched hp:m'.pl.matched=m.pl.matched)) (show m'.text=m.text from(congrArg Mg.text hp:m'.pl.text=m.pl.text));clear hm hm' hp hk;have b2:Bw w ((w.alloc (.cells m.row 32)).alloc (.cells m'.row 32)):=((aA _ _).alloc (ah _) _).alloc (by simp) _;have fA:Hc ((w.alloc (.cells m.row 32)).alloc (.cells m'.row 32)) w.heap.size m.row 32:=(alloc_old _ _ _ (by simp)).trans (fb _ _ _ rfl)
 have fB:Hc ((w.alloc (.cells m.row 32)).alloc (.cells m'.row 32)) (w.heap.size+1) m'.row 32:=fb _ _ _ (by simp)
 go_enter Tryz.func37,Tryz.ntmps37
 refine wp_seq ?_;refine aQ ?_
 iterate 2 (refine aB rfl (kkn ?_))
 generalize((w.alloc (.cells m.row 32)).alloc (.cells m'.row 32))=w2 at b2 fA fB⊢;have c0:=cval fA 0 (.int .i64 m.id);have d0:=(aq fB 0).trans (show _=some (.int .i64 m.id:Value) from by rw[←E0.out];rfl);have c1:=cval fA 1 (.int .i64 m.op);have d1:=(aq fB 1).trans (show _=some (.int .i64 m.op:Value) from by rw[←E1.out];rfl);have c2:=cval fA 2 (.string ⟨m.dn.toArray⟩);have d2:=(aq fB 2).trans (show _=some (.string ⟨m.dn.toArray⟩:Value) from by rw[←E2.out];rfl);have c3:=cval fA 3 (.int .i64 m.ver);have d3:=(aq fB 3).trans (show _=some (.int .i64 m.ver:Value) from by rw[←E3.out];rfl);have c4:=cval fA 4 (.bool m.sasl);have d4:=(aq fB 4).trans (show _=some (.bool m.sasl:Value) from by rw[←E4.out];rfl);have c5:=cval fA 5 (.string ⟨m.secret.toArray⟩);have d5:=(aq fB 5).trans (show _=some (.string ⟨m.secret.toArray⟩:Value) from by rw[←E5.out];rfl);have c6:=cval fA 6 (.int .i64 m.scope);have d6:=(aq fB 6).trans (show _=some (.int .i64 m.scope:Value) from by rw[←E6.out];rfl);have c7:=cval fA 7 (.int .i64 m.deref);have d7:=(aq fB 7).trans (show _=some (.int .i64 m.deref:Value) from by rw[←E7.out];rfl);have c8:=cval fA 8 (.int .i64 m.size);have d8:=(aq fB 8).trans (show _=some (.int .i64 m.size:Value) from by rw[←E8.out];rfl);have c9:=cval fA 9 (.int .i64 m.time);have d9:=(aq fB 9).trans (show _=some (.int .i64 m.time:Value) from by rw[←E9.out];rfl);have c10:=cval fA 10 (.bool m.types);have d10:=(aq fB 10).trans (show _=some (.bool m.types:Value) from by rw[←E10.out];rfl);have c11:=cval fA 11 m.filt;have d11:=cval fB 11 m'.filt;obtain⟨FA,FB⟩:=Cg fA fB;have kc:=k1.out w2 b2;clear fA fB k1
 go_wp2_with fail
 refine ag kc ?_;rintro e w3 ⟨rfl,hb⟩;have b3:=btt b2 hb;have fA:=(hb.block _ (gl FA.out)).trans FA.out;have fB:=(hb.block _ (gl FB.out)).trans FB.out;clear kc hb b2 FA FB c0 d0 c1 d1 c2 d2 c3 d3 c4 d4 c5 d5 c6 d6 c7 d7 c8 d8 c9 d9 c10 d10 c11 d11;have c12:=cval fA 12 m.sel;have d12:=cval fB 12 m'.sel;obtain⟨FA,FB⟩:=Cg fA fB;have kc:=k2.out w3 b3;clear fA fB k2
 go_wp2_with fail
 refine ag kc ?_;rintro e w4 ⟨rfl,hb⟩;have b4:=btt b3 hb;have fA:=(hb.block _ (gl FA.out)).trans FA.out;have fB:=(hb.block _ (gl FB.out)).trans FB.out;clear kc hb b3 FA FB c12 d12;have c13:=cval fA 13 m.mods;have d13:=cval fB 13 m'.mods;obtain⟨FA,FB⟩:=Cg fA fB;have kc:=k3.out w4 b4;clear fA fB k3
 go_wp2_with fail
 refine ag kc ?_;rintro e w5 ⟨rfl,hb⟩;have b5:=btt b4 hb;have fA:=(hb.block _ (gl FA.out)).trans FA.out;have fB:=(hb.block _ (gl FB.out)).trans FB.out;clear kc hb b4 FA FB c13 d13;have c14:=cval fA 14 m.attrs;have d14:=cval fB 14 m'.attrs;obtain⟨FA,FB⟩:=Cg fA fB;have kc:=k4.out w5 b5;clear fA fB k4
 go_wp2_with fail
 refine ag kc ?_;rintro e w6 ⟨rfl,hb⟩;have b6:=btt b5 hb;have fA:=(hb.block _ (gl FA.out)).trans FA.out;have fB:=(hb.block _ (gl FB.out)).trans FB.out;clear kc hb b5 FA FB c14 d14;have c15:=cval fA 15 (.string ⟨m.newRdn.toArray⟩);have d15:=(aq fB 15).trans (show _=some (.string ⟨m.newRdn.toArray⟩:Value) from by rw[←E15.out];rfl);have c16:=cval fA 16 (.string ⟨m.newSup.toArray⟩);have d16:=(aq fB 16).trans (show _=some (.string ⟨m.newSup.toArray⟩:Value) from by rw[←E16.out];rfl);have c17:=cval fA 17 (.bool m.delOld);have d17:=(aq fB 17).trans (show _=some (.bool m.delOld:Value) from by rw[←E17.out];rfl);have c18:=cval fA 18 (.bool m.hasSup);have d18:=(aq fB 18).trans (show _=some (.bool m.hasSup:Value) from by rw[←E18.out];rfl);have c19:=cval fA 19 (.string ⟨m.typ.toArray⟩);have d19:=(aq fB 19).trans (show _=some (.string ⟨m.typ.toArray⟩:Value) from by rw[←E19.out];rfl);have c20:=cval fA 20 (.string ⟨m.value.toArray⟩);have d20:=(aq fB 20).trans (show _=some (.string ⟨m.value.toArray⟩:Value) from by rw[←E20.out];rfl);have c21:=cval fA 21 (.string ⟨m.oid.toArray⟩);have d21:=(aq fB 21).trans (show _=some (.string ⟨m.oid.toArray⟩:Value) from by rw[←E21.out];rfl);have c22:=cval fA 22 (.bool m.has);have d22:=(aq fB 22).trans (show _=some (.bool m.has:Value) from by rw[←E22.out];rfl);have c23:=cval fA 23 (.int .i64 m.target);have d23:=(aq fB 23).trans (show _=some (.int .i64 m.target:Value) from by rw[←E23.out];rfl);have c24:=cval fA 24 (.int .i64 m.code);have d24:=(aq fB 24).trans (show _=some (.int .i64 m.code:Value) from by rw[←E24.out];rfl);have c25:=cval fA 25 (.string ⟨m.matched.toArray⟩);have d25:=(aq fB 25).trans (show _=some (.string ⟨m.matched.toArray⟩:Value) from by rw[←E25.out];rfl);have c26:=cval fA 26 (.string ⟨m.text.toArray⟩);have d26:=(aq fB 26).trans (show _=some (.string ⟨m.text.toArray⟩:Value) from by rw[←E26.out];rfl);have c27:=cval fA 27 m.ctl;have d27:=cval fB 27 m'.ctl;obtain⟨FA,FB⟩:=Cg fA fB;have kc:=k5.out w6 b6;clear fA fB k5
 go_wp2_with fail
 refine ag kc ?_;rintro e w7 ⟨rfl,hb⟩;have b7:=btt b6 hb;have fA:=(hb.block _ (gl FA.out)).trans FA.out;have fB:=(hb.block _ (gl FB.out)).trans FB.out;clear kc hb b6 FA FB c15 d15 c16 d16 c17 d17 c18 d18 c19 d19 c20 d20 c21 d21 c22 d22 c23 d23 c24 d24 c25 d25 c26 d26 c27 d27;clear fA fB
 go_wp2_with fail
 first|exact⟨rfl,b7⟩|(go_ret;exact⟨rfl,b7⟩)
def BC(W:World)(v:Value)(ys:List (Mg×Ls)):Prop:=
 ∃a c,v=.slice a ys.length c∧ys.length≤c∧(ys≠[]→∃g o,a=some ⟨g,o,none⟩∧∀j y,ys[j]?=some y→W.rangeAt g (o+j*28) y.1.row.toList∧MgM W y.1 y.2)
theorem BC.below{w w':World}{v:Value}{ys:List (Mg×Ls)}(h:BC w v ys)(hb:Bw w w'):BC w' v ys:=by
 obtain⟨a,c,h1,h2,h3⟩:=h;refine⟨a,c,h1,h2,fun hne=>?_⟩;obtain⟨g,o,e,h4⟩:=h3 hne;refine⟨g,o,e,fun j y hj=>?_⟩;obtain⟨q1,q2⟩:=h4 j y hj;exact⟨fun k x hk=>(hb.cell (bj (q1 k x hk))).trans (q1 k x hk),q2.below hb⟩
section
variable {md:Region.Mode} {ops:Array Oper} {Q:Exit→Act→World→Prop} {S:World→Prop} {fuel:Nat} {listed:Array Bool} {a a':Act} {w:World} {v:Value} {o:Oper}
theorem hc(i:Nat){f:FuncId}{args:Array Value}(kc:Calls Tryz.prog f args w fun e w'=>e=.returned v∧Bw w w')(ho:ops[i]?=some o)(hT:∀w',Bw w w'→S w')
  (h:∀w',Bw w w'→wpAnyH Tryz.prog md ops Q S fuel (listed.setIfInBounds i true) a' w')
  (hrun:(execOp a.eval o).run Tryz.prog w=.ok (.enter f args) w:=by first|rfl|go_simp) (ha:a.put o.dst v=a':=by first|(go_simp;rfl)|rfl) (hr:Region.ready md ops listed=[i]:=by kernel_rfl) (hw:Region.wanted o (yielded ops a.tmps)=true:=by rfl):wpAnyH Tryz.prog md ops Q S (fuel+1) listed a w:=
 rn i hr ho hw fun K hK=>by
  unfold Oper.wp;rw[hrun,Oper.upon_enter];refine kc.mono fun e w' hh=>?_
  obtain⟨rfl,hb⟩:=hh;show K _ _;rw[ha];exact hK _ _ (hT w' hb) (h w' hb)
end
theorem Ed(v u:Value)(ys zs:List (Mg×Ls))(w:World)(h1:BC w v ys)(h2:BC w u zs)(hl:zs.length≤100000)(hk:∀y∈zs,LsOk y.1 y.2)(hs:ys.map (fun y=>(y.1.pl,y.2))=zs.map fun y=>(y.1.pl,y.2)):
  Cr 14 #[v,u] w (.bool true):=by
 obtain⟨n,hn⟩:=nmm zs.length;have hny:ys.length=n:=by have:=congrArg List.length hs;simpa[hn] using this
 obtain⟨av,c1,rfl⟩:∃a c,v=.slice a n c:=by obtain⟨a,c,q,_⟩:=h1;exact⟨a,c,by rw[q,hny]⟩
 obtain⟨au,c2,rfl⟩:∃a c,u=.slice a n c:=by obtain⟨a,c,q,_⟩:=h2;exact⟨a,c,by rw[q,hn]⟩
 rw[hn] at hl;obtain⟨H1,H2,HK,HS,HN⟩:=Cj h1 h2 hk hs (show _∧_ from⟨hn,hny⟩);clear h1 h2 hk hs hn hny;have hq:((n:Int)==(n:Int))=true:=by simp
 go_enter Tryz.func14,Tryz.ntmps14
 go_wp2_with fail
 go_loopw [5] (fun i wr=>∃k:Nat,i=.int .i64 (k:Int)∧k≤n∧Bw w wr) (fun i _=>n -(RowKit.intOf i).toNat)
 case atStart=>exact⟨0,rfl,by omega,aA _ _⟩
 case round=>
  obtain⟨k,rfl,hk,hb⟩:=hrel
  by_cases hkl:k<n
  ·obtain⟨z,hz⟩:∃z,zs[k]?=some z:=⟨_,aM (by rw[HN.out.1];exact hkl)⟩
   obtain⟨y,hy⟩:∃y,ys[k]?=some y:=⟨_,aM (by rw[HN.out.2];exact hkl)⟩;have hyz:(y.1.pl,y.2)=(z.1.pl,z.2):=by
    have:=congrArg (fun l=>l[k]?) HS.out;simp only[List.getElem?_map,hy,hz,aw] at this;exact aD this
   obtain⟨a3,c3,e3,_,hq3⟩:=H1.out;obtain⟨g,o,ha3,hc3⟩:=hq3 (by intro e;rw[e] at hy;cases hy);obtain⟨a4,c4,e4,_,hq4⟩:=H2.out;obtain⟨g',o',ha4,hc4⟩:=hq4 (by intro e;rw[e] at hz;cases hz)
   injection e3 with e5 q1 q2
   injection e4 with e6 q3 q4
   clear q1 q2 q3 q4;rw[ha3] at e5;rw[ha4] at e6;subst e5 e6;obtain⟨r1,m1⟩:=hc3 k y hy;obtain⟨r2,m2⟩:=hc4 k z hz;have R1:wr.rangeAt g (o+k*28) y.1.row.toList:=fun i x hi=>(hb.cell (bj (r1 i x hi))).trans (r1 i x hi)
   have R2:wr.rangeAt g' (o'+k*28) z.1.row.toList:=fun i x hi=>(hb.cell (bj (r2 i x hi))).trans (r2 i x hi)
   have ks:∀W,Bw wr W→Calls Tryz.prog 37 #[.agg y.1.row,.agg z.1.row] W fun e w'=>e=.returned (.bool true)∧Bw W w':=fun W hW=>by
    have hp:y.1.pl=z.1.pl:=(aP hyz).1;have hl2:y.2=z.2:=(aP hyz).2;exact Ev y.1 z.1 z.2 W (hl2▸(m1.below hb).below hW) ((m2.below hb).below hW) hp.symm ((HK.out z (List.mem_of_getElem? hz)).to hp)
   obtain⟨L1,hL1⟩:=nmm y.1.row.toList;obtain⟨L2,hL2⟩:=nmm z.1.row.toList;have z1:L1.length=28:=by rw[←hL1];rfl
   have z2:L2.length=28:=by rw[←hL2];rfl
   have x1:y.1.row=L1.toArray:=by rw[←hL1]
   have x2:z.1.row=L2.toArray:=by rw[←hL2]
   rw[hL1] at R1;rw[hL2] at R2;rw[x1,x2] at ks;obtain⟨Z1,Z2,KS⟩:=Ch z1 z2 ks;have i1:(k:Int)<(n:Int):=by omega
   have i3:decide ((k:Int)<(n:Int))=true:=aC i1;have hbs:=hb.size;clear hyz hq3 hq4 hc3 hc4 r1 m1 r2 m2 ks hL1 hL2 x1 x2 z1 z2 hy hz
   go_upto_region 6 with fail
   refine hg (fun w'=>w'.rangeAt g (o+k*28) L1∧w'.rangeAt g' (o'+k*28) L2) ?_;intro w4 hb4 _ _;have TT:w4.rangeAt g (o+k*28) L1∧w4.rangeAt g' (o'+k*28) L2:=⟨bZ R1 hb4,bZ R2 hb4⟩;refine hu 0 (.slice (some ⟨g,o,none⟩) n c1) rfl TT ?_;refine hu 1 (.int .i64 (k:Int)) rfl TT ?_;refine hu 2 (.pointer (some ⟨g,o+k*28,none⟩)) rfl TT ?_;refine iN 3 32 (.tmp 19) g (o+k*28) L1 _ rfl rfl (by kernel_rfl) (by kernel_rfl) (by kernel_rfl) (fun _ _ _ h=>h) (by rfl) (by rfl) (fun w' hS=>hS.1) Tryz.underlying32 rfl (by rw[Z1.out];rfl) TT (kkn ?_);refine hu 4 (.slice (some ⟨g',o',none⟩) n c2) rfl TT ?_;refine hu 5 (.int .i64 (k:Int)) rfl TT ?_;refine hu 6 (.pointer (some ⟨g',o'+k*28,none⟩)) rfl TT ?_;refine iN 7 32 (.tmp 23) g' (o'+k*28) L2 _ rfl rfl (by kernel_rfl) (by kernel_rfl) (by kernel_rfl) (fun _ _ _ h=>h) (by rfl) (by rfl) (fun w' hS=>hS.2) Tryz.underlying32 rfl (by rw[Z2.out];rfl) TT (kkn ?_);refine hc 8 (KS.out w4 hb4) rfl (fun w' hb'=>⟨bZ TT.1 hb',bZ TT.2 hb'⟩) ?_;intro w5 hb5;have T5:w5.rangeAt g (o+k*28) L1∧w5.rangeAt g' (o'+k*28) L2:=⟨bZ TT.1 hb5,bZ TT.2 hb5⟩;have B5:=cM hb (cM hb4 hb5);refine oS 9 w5 rfl T5 ?_;simp only[Exit.then];refine‹∀(a:Act) (w:World),Code.wp _ _ _ a w→_› _ _ ?_
   go_wp2_with fail
   go_roundw
   case rel=>exact⟨k+1,by go_num,by omega,B5⟩
   case measure=>simp[RowKit.intOf];omega
  ·obtain rfl:k=n:=by omega
   go_wp2_with fail
   go_ret
   exact⟨rfl,hb⟩
def EK(P X:Nat→Prop)(C:Nat)(w:World)(r:Option (Mg×Ls)×Cs)(e:Ending)(w':World):Prop:=
 match r.1 with
 |some y=>Dd P X C w y r.2 e w'
 |none=>e=.returned (.tuple #[.agg (Mg.row {}),Bf])∧em P X C w r.2 w'
def mx(NX:Cs→Option (Mg×Ls)×Cs):Nat→Cs→List (Mg×Ls)×Cs
 |0,s=>([],s)
 |n+1,s=>match NX s with
  |(none,s')=>([],s')
  |(some y,s')=>(y::(mx NX n {s' with cur:=none}).1,(mx NX n {s' with cur:=none}).2)
theorem DV{NX:Cs→Option (Mg×Ls)×Cs}{s s':Cs}(n:Nat)(h:NX s=(none,s')):mx NX (n+1) s=([],s'):=by
 unfold mx;rw[h]
theorem DW{NX:Cs→Option (Mg×Ls)×Cs}{s s':Cs}{y:Mg×Ls}(n:Nat)(h:NX s=(some y,s')):mx NX (n+1) s=(y::(mx NX n {s' with cur:=none}).1,(mx NX n {s' with cur:=none}).2):=by
 conv=>lhs;unfold mx
 rw[h]
theorem Kb.own{X:Nat→Prop}{w w':World}{B:Nat}{e:TypeId}{k n:Nat}{v:Value}{xs:List Value}(h:w.ownsRow B e k v n xs)(kb:Kb X w w')(hv:∀g,v.ownBlock=some g→¬X g):w'.ownsRow B e k v n xs:=
 gM h fun g hg=>kb.block g (h.lt g hg).2 (hv g hg)
structure Rw2 (X Z:Nat→Prop) (B:Nat) (v:Value) (Ms:List Mg) (ys:List (Mg×Ls)) (w:World):Prop where
 own:w.ownsRow B 32 28 v ys.length (cC Ms)
 msg:eq (fun g=>g<w.heap.size∧¬X g∧v.ownBlock≠some g∧Z g) w Ms ys
def Ei(I:Cs→Prop)(NX:Cs→Option (Mg×Ls)×Cs)(P X:Nat→Prop)(C:Nat)(w:World)(ANS:List (Mg×Ls)×Cs)(v i:Value)(wr:World):Prop:=
 ∃(j:Nat) (s:Cs) (ys:List (Mg×Ls)) (Ms:List Mg) (P' X':Nat→Prop),j≤400∧i=.int .i64 (j:Int)∧ys.length=j∧dc P' X' C s wr∧Nx P X w P' X' wr∧I s∧
  Rw2 X' (fun g=>g<w.heap.size→P g) w.heap.size v Ms ys wr∧(∀g,v.ownBlock=some g→¬P' g)∧(ys++(mx NX (400 -j) s).1,(mx NX (400 -j) s).2)=ANS
theorem Em(I:Cs→Prop)(NX:Cs→Option (Mg×Ls)×Cs)(w0:World)(P X:Nat→Prop)(C:Nat)(s:Cs)(w:World)(h:dc P X C s w)(hH:Hm w0 X w)(hI:I s)
  (hnx:∀(P X:Nat→Prop) (s:Cs) (w:World),dc P X C s w→Hm w0 X w→I s→Calls Tryz.prog 17 #[.pointer (some ⟨C,0,none⟩)] w (EK P X C w (NX s)))
  (hId:∀s y,I s→(NX s).1=some y→I {(NX s).2 with cur:=none}):
  Calls Tryz.prog 13 #[.pointer (some ⟨C,0,none⟩)] w fun e w'=>∃(v:Value) (Ms:List Mg) (P' X':Nat→Prop),e=.returned v∧dc P' X' C (mx NX 400 s).2 w'∧Nx P X w P' X' w'∧Rw2 X' (fun g=>g<w.heap.size→P g) w.heap.size v Ms (mx NX 400 s).1 w'∧(∀g,v.ownBlock=some g→¬P' g):=by
 obtain⟨i0,hi0,hz0,hz1,hz2⟩:=info_parts Tryz.infoMessage;generalize hPR:((fun e w'=>∃(v:Value) (Ms:List Mg) (P' X':Nat→Prop),e=.returned v∧dc P' X' C (mx NX 400 s).2 w'∧Nx P X w P' X' w'∧Rw2 X' (fun g=>g<w.heap.size→P g) w.heap.size v Ms (mx NX 400 s).1 w'∧(∀g,v.ownBlock=some g→¬P' g)):Ending→World→Prop)=PR;have HPR:=hid hPR;obtain⟨ANS,hA⟩:=nmm (mx NX 400 s);obtain⟨HREL,HA,HH⟩:=Ch (show Ei I NX P X C w ANS (Sn) (I0) w from⟨0,s,[],[],P,X,by omega,rfl,rfl,h,Nx.refl _ _ _,hI,⟨World.ownsRow_nil _ _ _ _,trivial⟩,(fun g hg=>by cases hg),by simpa using hA⟩) hA hH;clear hPR hA hH h hI
 go_enter Tryz.func13,Tryz.ntmps13
 go_wp2_with fail
 go_loopw [3,4] (fun v i wr=>Ei I NX P X C w ANS v i wr) (fun _ i _=>400 -(RowKit.intOf i).toNat)
 case atStart=>exact HREL.out
 case round=>
  obtain⟨j,s1,ys,Ms,P1,X1,hj,rfl,hjl,hcn,hn1,hI1,hrw,hvP,hans⟩:=hrel;have hvX:∀g,u3.ownBlock=some g→¬X1 g:=fun g hg q=>hvP g hg (by obtain⟨_,_,_,_,_,_,q2⟩:=hcn;exact q2.b.xP g q)
  by_cases hlt:j<400
  ·have g1:decide ((j:Int)<400)=true:=aC (by omega)
   have kn:=hnx P1 X1 s1 wr hcn (HH.out.to hn1) hI1;have hId1:=hId s1;obtain⟨r,hr⟩:=nmm (NX s1);rw[hr] at kn hId1;obtain⟨o,s2⟩:=r
   go_wp2_with fail
   refine ag kn ?_;intro e w2 hT;clear kn;have h40:400 -j=(400 -(j+1))+1:=by omega
   rw[h40] at hans;cases o with
   |none=>
    obtain⟨rfl,P2,X2,hc2,hn2⟩:=hT;obtain⟨Z,hZ⟩:=nmm (Mg.row {});have hZ1:Z.all (·.oneCell')=true:=by rw[←hZ];exact row_one _ ⟨rfl,rfl,rfl,rfl,rfl⟩
    have hZ2:Z.size=28:=by rw[←hZ];rfl
    rw[hZ];have y2:=alz w2 Zm 32;have g2:Bw w2 ((w2.alloc (.cells Zm 32)).setRow w2.heap.size Z):=xo ((aA _ _).alloc (ah _) _) (ah _) Z;have FIN:PR (.returned u3) ((w2.alloc (.cells Zm 32)).setRow w2.heap.size Z):=by
     rw[DV _ hr,List.append_nil] at hans;rw[←HPR.out,HA.out,←hans];have n3:=hn2.bel g2;refine⟨u3,Ms,P2,X2,rfl,hc2.bel g2,hn1.trans n3,⟨n3.kb.own hrw.own hvX,hrw.msg.kept fun g hg hl=>⟨n3.kb.block g hg.1 hg.2.1,Nat.lt_of_lt_of_le hg.1 n3.kb.size,fun q=>hg.2.1 (n3.xs g hg.1 q),hg.2.2⟩⟩,fun g hg q=>hvP g hg (hn2.ps g (hrw.own.lt g hg).2 q)⟩
    obtain⟨HF,HZ1,HZ2,Y2⟩:=Ci FIN hZ1 hZ2 y2;clear FIN hans hrw hcn hn1 hc2 hn2 hZ hZ1 hZ2 y2 g2 hr
    go_wp2_with (refine stM (.tmp 5) (.tmp 14) Z Y2.out HZ2.out HZ1.out ?_;generalize((w2.alloc (.cells Zm 32)).setRow w2.heap.size Z)=w3 at HF⊢;clear Y2)
    exact HF.out
   |some y=>
    obtain⟨m,P2,X2,rfl,hpl,hc2,hn2,hls⟩:=hT;have hId2:=hId1 y hI1 rfl;obtain⟨A,hA⟩:=nmm m.row;have hA1:A.all (·.oneCell')=true:=by rw[←hA];exact hls.one
    have hA2:A.size=28:=by rw[←hA];rfl
    have hbox:=uM m;have hAl:cC (Ms++[m])=cC Ms++A.toList:=by rw[A8,←hA];simp[cC]
    have hA3:A.toList.length=1*28:=by simpa using hA2
    have hA4:∀u∈A.toList,u.oneCell'=true:=fun u hu=>by have:=(Array.all_eq_true_iff_forall_mem.1 hA1) u (by simpa using hu);exact this
    rw[hA] at hbox⊢;have y2:=alz w2 Zm 32;have g2:Bw w2 ((w2.alloc (.cells Zm 32)).setRow w2.heap.size A):=xo ((aA _ _).alloc (ah _) _) (ah _) A;have e2:=setRow_heap (w2.alloc (.cells Zm 32)) w2.heap.size _ A _ _ y2;have n3:=hn2.bel g2;have hc3:=(hc2.small).bel g2;have own3:=n3.kb.own hrw.own hvX;have msg3:eq (fun g=>g<w2.heap.size∧¬X2 g∧u3.ownBlock≠some g∧(g<w.heap.size→P g)) _ (Ms++[m]) (ys++[y]):=(hrw.msg.kept (w':=(w2.alloc (.cells Zm 32)).setRow w2.heap.size A) fun g hg hl=>⟨n3.kb.block g hg.1 hg.2.1,Nat.lt_of_lt_of_le hg.1 hn2.kb.size,fun q=>hg.2.1 (n3.xs g hg.1 q),hg.2.2⟩).app ⟨⟨hpl,hls.kept fun g hg hl=>⟨g2.block g hg.2.1,hg.2.1,hg.2.2,fun q=>hvP g q (hg.1 (hrw.own.lt g q).2),fun hgw=>hn1.ps g hgw (hg.1 (Nat.lt_of_lt_of_le hgw hn1.kb.size))⟩⟩,trivial⟩;obtain⟨HB,E2,Y2,HA1,HA2,HA3,HA4,HAL,HID,HVP⟩:=Cz (show _∧_∧_∧_∧_ from⟨hc3,own3,msg3,hn1.trans n3,(fun g hg q=>hvP g hg (hn2.ps g (hrw.own.lt g hg).2 q.1):∀g,u3.ownBlock=some g→¬(P2 g∧g<w2.heap.size))⟩) e2 y2 hA1 hA2 hA3 hA4 hAl hId2 hvP;obtain⟨HVX,HRL,HN2⟩:=Ch hvX hrw.own hn2;rw[DW _ hr] at hans;obtain⟨HANS,HSZ⟩:=Cg hans (Nat.le_trans hn1.kb.size hn2.kb.size);clear hA hA1 hA2 hA3 hA4 hAl hId2 hvP hvX hrw hn1 hn2 hc2 hcn hls hpl y2 e2 g2 n3 hc3 own3 msg3 hr hans hId1
    go_upto_region 7 with(refine stM (.tmp 5) (.tmp 14) A Y2.out HA2.out HA1.out ?_;generalize((w2.alloc (.cells Zm 32)).setRow w2.heap.size A)=w3 at HB E2⊢;clear Y2)
    obtain⟨h3,own3,msg3,n3,nP3⟩:=HB.out;have b4:=alb w3 A 32;obtain⟨X4,OWN4,HS3,HS23,B4⟩:=Cj (show Hc (w3.alloc (.cells A 32)) w3.heap.size A 32 from fb _ _ _ rfl) (ge own3 b4) n3.kb.size (show w2.heap.size≤w3.heap.size from Nat.le_of_lt (gl E2.out)) b4;clear h3 own3 msg3 n3 nP3 b4
    go_wp2_with (first
     |(refine ldM (.tmp 5) E2.out HA2.out ?_)
     |(refine aB rfl fun K hK=>jS (v:=.slice (some ⟨w3.heap.size,0,none⟩) 1 1) (w':=w3.alloc (.cells A 32)) (uS hbox rfl rfl _) (hK _ _ ?_);clear hK K;generalize w3.alloc (.cells A 32)=w4 at X4 OWN4 B4⊢)
     |(at_builtin;refine aB rfl fun K hK=>?_;refine wp_append_lies w4 (.tmp 18) (.tmp 20) 22 rfl w.heap.size 32 i0 _ 28 368 Tryz.underlying22 hi0 hz0 hz1 hz2 rfl (by decide) u3 ys.length (cC Ms) rfl OWN4.out ⟨w3.heap.size,0,none⟩ 1 1 A.toList rfl HA3.out (World.news_of_block X4.out) HA4.out (by omega) (by unfold maxLen;omega) (by omega) (by have h1:=B4.out.size;have h2:=HS3.out;omega) _ rfl ?_;intro g cap w5 hown hgrow hat hlt5;refine hK _ _ ?_;clear hK K))
    obtain⟨h3,own3,msg3,n3,nP3⟩:=HB.out;have h34:=B4.out.size;have kb5:Kb (fun k=>u3.ownBlock=some k) w3 w5:=(Kb.of B4.out).grown hgrow fun k hk=>.inl hk
    have h5:=h3.other kb5 fun k _ hp e=>nP3 k e hp
    have n5:Nx P X w (fun k=>(P2 k∧k<w2.heap.size)∧k<w3.heap.size) (fun k=>X2 k∧k<w3.heap.size) w5:=⟨n3.kb.step kb5 fun k hk e=>absurd (own3.lt k e).1 (by omega),fun k hk q=>n3.xs k hk q.1,fun k hk q=>n3.ps k hk q.1.1⟩;have hgP:¬((P2 g∧g<w2.heap.size)∧g<w3.heap.size):=fun q=>by
     rcases hat with e|e
     ·exact nP3 g e q.1
     ·have:=q.2;omega
    have hgX:¬(X2 g∧g<w3.heap.size):=fun q=>hgP (by obtain⟨_,_,_,_,_,_,q2⟩:=h5;exact q2.b.xP g q)
    have msg5:eq (fun k=>k<w5.heap.size∧¬(X2 k∧k<w3.heap.size)∧k≠g∧(k<w.heap.size→P k)) w5 (Ms++[m]) (ys++[y]):=msg3.kept fun k hk hl=>⟨kb5.block k hl fun e=>hk.2.2.1 e,Nat.lt_of_lt_of_le hl kb5.size,fun q=>hk.2.1 q.1,fun e=>by
     rcases hat with e2|e2
     ·exact hk.2.2.1 (e▸e2)
     ·omega,hk.2.2.2⟩
    have kd:=Ek _ _ C s2 w5 h5;obtain⟨OWN5,MSG5,N5,HG⟩:=Ci hown msg5 n5 (show _∧_ from⟨hgP,hgX⟩);clear h3 own3 msg3 n3 nP3 h34 kb5 h5 n5 hgP hgX msg5 hown hgrow hat HB E2 X4 OWN4 B4;refine ag kd ?_;rintro e w6 ⟨rfl,P6,X6,h6,n6⟩;have hgl:=(OWN5.out.lt g rfl).2;have own6:w6.ownsRow w.heap.size 32 28 (.slice (some ⟨g,0,none⟩) (ys.length+1) cap) (ys++[y]).length (cC (Ms++[m])):=by
     rw[HAL.out,xn];exact n6.kb.own OWN5.out fun k hk=>by cases hk;exact HG.out.2
    have REL:Ei I NX P X C w ANS (.slice (some ⟨g,0,none⟩) (ys.length+1) cap) (.int .i64 ((j+1:Nat):Int)) w6:=
     ⟨j+1,{s2 with cur:=none},ys++[y],Ms++[m],P6,X6,by omega,rfl,by rw[xn,hjl];rfl,h6,N5.out.trans n6,HID.out,⟨own6,MSG5.out.kept fun k hk hl=>⟨n6.kb.block k hk.1 hk.2.1,Nat.lt_of_lt_of_le hk.1 n6.kb.size,fun q=>hk.2.1 (n6.xs k hk.1 q),fun e=>hk.2.2.1 (by cases e;rfl),hk.2.2.2⟩⟩,fun k hk=>by cases hk;exact fun q=>HG.out.1 (n6.ps g hgl q),by rw[←HANS.out];simp⟩
    have HR:=hid REL;clear REL own6 kd h6 n6 hgl OWN5 MSG5 N5 HG
    go_wp2_with fail
    go_roundw
    case rel=>have q:=HR.out;rw[hjl] at q;exact q
    case measure=>simp[RowKit.intOf];omega
  ·obtain rfl:j=400:=by omega
   have g1:decide (((400:Nat):Int)<400)=false:=an (by omega);have FIN:PR (.returned u3) wr:=by
    rw[←HPR.out,HA.out,←hans];refine⟨u3,Ms,P1,X1,rfl,hcn,hn1,?_,hvP⟩;rw[show(mx NX (400 -400) s1).1=[] from rfl,List.append_nil];exact hrw
   have HF:=hid FIN;clear FIN hans hrw hcn hn1
   go_wp2_with fail
   exact HF.out
theorem ld(n:Nat)(s:Cs)(h:s.inn=[]):Cs.cut n s=s:=by
 cases n with
 |zero=>rfl
 |succ n=>
  unfold Cs.cut
  split
  ·rfl
  ·rw[h,show eA []=(0,20) from rfl,if_pos (.inl rfl)]
theorem Eq{s:Cs}{m:Mg}{l:Ls}(hw:(cR m l).2=0)(hcl:s.cl=false)(hin:s.inn=[])(hms:s.ms.length<16):
  s.feed (cR m l).1=if s.badB (m.pl,l) then Cs.gone {s with inn:=(cR m l).1} else Cs.comes {s with inn:=[]} (m.pl,l):=by
 obtain⟨hv,_,hf,_⟩:=iC hw;have hr:=fo hw;generalize(cR m l).1=b at hf hr;obtain⟨inn,ms,cur,out,cl⟩:=s;simp only at hcl hin hms;subst hcl hin;unfold Cs.feed;rw[if_neg (by simp)];simp only[List.nil_append,aU];have hl:2≤b.length:=by
  have:=mh b (by have:=congrArg Prod.snd hf;exact this);have h1:=congrArg Prod.fst hf;unfold eA at h1;simp only at h1
  omega
 rw[show 0+b.length+1=b.length+1 by omega]
 conv=>lhs;unfold Cs.cut
 rw[if_neg (by rintro(q|q);cases q;exact absurd q (by simp only;omega))];simp only[hf];rw[if_neg (by rintro(q|q);cases q;exact absurd q.2 (Nat.lt_irrefl _)),if_neg (by decide),List.take_length,hr,List.drop_length];simp only;rw[show Cs.badB ⟨b,ms,cur,out,false⟩ (m.pl,l)=Cs.badB ⟨[],ms,cur,out,false⟩ (m.pl,l) from rfl];cases Cs.badB ⟨[],ms,cur,out,false⟩ (m.pl,l) with
 |true=>rfl
 |false=>
  simp only[aW,if_false];refine ld _ _ ?_;unfold Cs.comes
  split
  ·rfl
  ·split
   ·rfl
   ·rfl
theorem sC{s:Cs}{m:Mg}{l:Ls}(hw:(cR m l).2=0)(hcl:s.cl=false)(hin:s.inn=[])(hms:s.ms.length<16)(hb:s.badB (m.pl,l)=false)(h2:m.op≠2)(h16:m.op≠16):
  s.feed (cR m l).1={s with ms:=s.ms++[(m.pl,l)]}:=by
 rw[Eq hw hcl hin hms,hb];simp only[aW,if_false];unfold Cs.comes;rw[if_neg (show ¬m.pl.op=2 from h2),if_neg (show ¬m.pl.op=16 from h16)];obtain⟨inn,ms,cur,out,cl⟩:=s;simp only at hin;subst hin
 rfl
def DS:Mg:={id:=1,op:=10,dn:=[100,99,61,122]}
theorem CN:cR DS {}=([48,9,2,1,1,74,4,100,99,61,122],0):=by decide
theorem C4:Cs.feed {} [48,9,2]={inn:=[48,9,2]}:=by
 unfold Cs.feed;rw[if_neg (by decide)];show Cs.cut 4 {inn:=[48,9,2]}=_;unfold Cs.cut;rw[if_neg (by decide),show eA [48,9,2]=(11,0) from by decide,if_pos (.inr ⟨rfl,by decide⟩)]
theorem Dn:Cs.feed {inn:=[48,9,2]} [1,1,74,4,100,99,61,122]={ms:=[(DS,{})]}:=by
 have h:=sC (s:={}) (m:=DS) (l:={}) (by rw[CN]) rfl rfl (by decide) (by decide) (by decide) (by decide);rw[CN] at h;exact h
theorem Dv:LsOk DS {}:=by
 constructor<;>first|exact eC|exact dx|(simp;done)|(simp[DS];done)
theorem C7:Cs.took {ms:=[(DS,{})]} (DS,{}) []={cur:=some (1,10)}:=ld _ _ rfl
theorem En(b r:List UInt8)(h:(bt b).2.2=0):bt (b++r)=bt b:=by
 match b with
 |[]=>exact absurd h (by simp[bt])
 |[b0]=>
  by_cases h0:30<b0.toNat% 32
  ·simp[bt,h0] at h
  ·simp[bt,h0] at h
 |b0::b1::t=>
  unfold bt at h⊢;simp only[List.cons_append] at h⊢
  by_cases h0:30<b0.toNat% 32
  ·simp[h0] at h
  ·simp only[if_neg h0] at h⊢
   by_cases h1:b1.toNat<128
   ·simp only[if_pos h1]
   ·simp only[if_neg h1] at h⊢
    by_cases h2:b1.toNat -128<1∨4<b1.toNat -128
    ·simp only[if_pos h2]
    ·simp only[if_neg h2] at h⊢
     by_cases h3:t.length<b1.toNat -128
     ·simp[h3] at h
     ·have h4:¬(t++r).length<b1.toNat -128:=by simp;omega
      simp only[if_neg h3,if_neg h4,List.take_append_of_le_length (Nat.le_of_not_lt h3)]
theorem Ej(b r:List UInt8)(h:(eA b).2=0):eA (b++r)=eA b:=by
 unfold eA at h⊢;rw[En b r h]
def frB(y:Mg×Ls):List UInt8:=(cR y.1 y.2).1
structure Good (y:Mg×Ls):Prop where
 wr:(cR y.1 y.2).2=0
 pl:y.1.pl=y.1
 req:fC.contains y.1.op=true
 sil:gq y.1.op=false
 id0:y.1.id≠0
theorem DY:∀(B:List (Mg×Ls)) (n:Nat) (s:Cs),s.cl=false→s.inn=B.flatMap frB→s.ms.length≤16→(∀y∈B,Good y)→((s.ms++B).map (·.1.id)).Nodup→(∀y∈B,∀c,s.cur=some c→c.1≠y.1.id)→B.length<n→
  Cs.cut n s={s with ms:=(s.ms++B).take 16,inn:=((s.ms++B).drop 16).flatMap frB}
 |[],n,s,hcl,hin,hms,_,_,_,_=>by
  rw[ld _ _ hin,List.append_nil,List.take_of_length_le hms,List.drop_of_length_le hms];obtain⟨inn,ms,cur,out,cl⟩:=s;simp only[List.flatMap_nil] at hin
  simp[hin]
 |y::B,0,_,_,_,_,_,_,_,hn=>by simp at hn
 |y::B,n+1,s,hcl,hin,hms,hg,hnd,hcu,hn=>by
  obtain⟨inn,ms,cur,out,cl⟩:=s;simp only at hcl hin hms hcu hnd⊢;subst hcl hin;unfold Cs.cut
  by_cases h16:16≤ms.length
  ·rw[if_pos (.inr h16)]
   have hl:ms.length=16:=by omega
   rw[List.take_append_of_le_length (by omega),List.drop_append_of_le_length (by omega),List.take_of_length_le (by omega),List.drop_of_length_le (by omega)]
   rfl
  ·rw[if_neg (by rintro(q|q);cases q;exact h16 q)]
   have hy:=hg y (List.mem_cons_self ..);obtain⟨hv,_,hf,_⟩:=iC hy.wr;have hr:=fo hy.wr;rw[hy.pl,show(cR y.1 y.2).1=frB y from rfl] at hr;rw[show(cR y.1 y.2).1=frB y from rfl] at hf;have hfa:=Ej (frB y) (B.flatMap frB) (by rw[hf]);rw[hf] at hfa;have hsp:(y::B).flatMap frB=frB y++B.flatMap frB:=rfl;simp only[hsp,hfa];rw[if_neg (by rintro(q|q);cases q;have:=q.2;rw[xn] at this;omega),if_neg (by decide),List.take_left',List.drop_left',hr];rotate_left
   ·rfl
   ·rfl
   have hb:Cs.badB ⟨frB y++B.flatMap frB,ms,cur,out,false⟩ (y.1,y.2)=false:=by
    unfold Cs.badB Cs.has;simp only;rw[hy.req,hy.sil,aE hy.id0];have h1:(Cs.ids ⟨frB y++B.flatMap frB,ms,cur,out,false⟩).contains y.1.id=false:=by
     cases hc:(Cs.ids ⟨frB y++B.flatMap frB,ms,cur,out,false⟩).contains y.1.id with
     |false=>rfl
     |true=>
      exfalso
      have hm:y.1.id∈ms.map (·.1.id):=List.contains_iff_mem.1 hc;rw[List.map_append,List.nodup_append] at hnd;exact hnd.2.2 _ hm _ (by simp) rfl
    rw[h1];cases hq:cur with
    |none=>rfl
    |some c=>
     have:=hcu y (List.mem_cons_self ..) c hq
     simp[this]
   simp only;rw[hb];simp only[aW,if_false];have hc:Cs.comes ⟨B.flatMap frB,ms,cur,out,false⟩ (y.1,y.2)=⟨B.flatMap frB,ms++[y],cur,out,false⟩:=by
    have hs:=hy.sil;unfold gq at hs;simp only[Bool.or_eq_false_iff,beq_eq_false_iff_ne,ne_eq] at hs;unfold Cs.comes;rw[if_neg hs.1,if_neg hs.2]
   rw[hc,DY B n ⟨B.flatMap frB,ms++[y],cur,out,false⟩ rfl rfl (by simp;omega) (fun z hz=>hg z (List.mem_cons_of_mem _ hz)) (by simpa using hnd) (fun z hz=>hcu z (List.mem_cons_of_mem _ hz)) (by simp at hn;omega)]
   simp
def stA(cur:Option (Int×Int))(out:List UInt8)(B:List (Mg×Ls)):Cs:={ms:=B.take 16,inn:=(B.drop 16).flatMap frB,cur:=cur,out:=out}
theorem DT:∀(B:List (Mg×Ls)),(∀y∈B,Good y)→B.length≤(B.flatMap frB).length∧(B.flatMap frB).length≤B.length*65536
 |[],_=>by simp
 |y::B,hg=>by
  have ih:=DT B fun z hz=>hg z (List.mem_cons_of_mem _ hz)
  obtain⟨_,_,hf,hle⟩:=iC (hg y (List.mem_cons_self ..)).wr;have h1:1≤(frB y).length:=by
   have h2:=congrArg Prod.fst hf;have h3:=mh _ (by have:=congrArg Prod.snd hf;exact this);unfold eA at h2;simp only at h2;show 1≤(cR y.1 y.2).1.length
   omega
  have hle:(frB y).length≤65536:=hle;rw[show(y::B).flatMap frB=frB y++B.flatMap frB from rfl,xn,aG]
  omega
theorem Et{out:List UInt8}{B:List (Mg×Ls)}{y:Mg×Ls}(hg:∀z∈B,Good z)(hy:Good y)(hnd:((B++[y]).map (·.1.id)).Nodup):(stA none out B).feed (frB y)=stA none out (B++[y]):=by
 have hsp:(B.drop 16).flatMap frB++frB y=(B.drop 16++[y]).flatMap frB:=by simp[List.flatMap_append]
 have hall:B.take 16++(B.drop 16++[y])=B++[y]:=by rw[←List.append_assoc,List.take_append_drop]
 have hgd:∀z∈B.drop 16++[y],Good z:=fun z hz=>by
  rw[List.mem_append,List.mem_singleton] at hz;rcases hz with q|rfl
  ·exact hg z (List.mem_of_mem_drop q)
  ·exact hy
 unfold Cs.feed;rw[if_neg (by simp[stA])];show Cs.cut (((B.drop 16).flatMap frB).length+(frB y).length+1) ⟨(B.drop 16).flatMap frB++frB y,B.take 16,none,out,false⟩=_;rw[hsp];have hl:(B.drop 16++[y]).length≤((B.drop 16).flatMap frB).length+(frB y).length:=by rw[←xn,hsp];exact(DT _ hgd).1
 rw[DY (B.drop 16++[y]) _ ⟨(B.drop 16++[y]).flatMap frB,B.take 16,none,out,false⟩ rfl rfl (by simp;omega) hgd (by rw[hall];exact hnd) (fun z hz c hc=>by cases hc) (by omega),hall]
 rfl
theorem Eu{out:List UInt8}{r:List (Mg×Ls)}{y:Mg×Ls}(hg:∀z∈y::r,Good z)(hnd:((y::r).map (·.1.id)).Nodup):Cs.took (stA none out (y::r)) y (r.take 15)=stA (some (y.1.id,y.1.op)) out r:=by
 have hall:r.take 15++r.drop 15=r:=List.take_append_drop ..;have hgd:∀z∈r.drop 15,Good z:=fun z hz=>hg z (List.mem_cons_of_mem _ (List.mem_of_mem_drop hz))
 have hl:=(DT _ hgd).1;have hnd:=List.nodup_cons.1 (by simpa using hnd:(y.1.id::r.map (·.1.id)).Nodup);unfold Cs.took;show Cs.cut (((r.drop 15).flatMap frB).length+1) ⟨(r.drop 15).flatMap frB,r.take 15,some (y.1.id,y.1.op),out,false⟩=_;rw[DY (r.drop 15) _ ⟨(r.drop 15).flatMap frB,r.take 15,some (y.1.id,y.1.op),out,false⟩ rfl rfl (by simp;omega) hgd (by rw[hall];exact hnd.2) (fun z hz c hc=>by
  cases hc;intro e;exact hnd.1 (List.mem_map.2 ⟨z,List.mem_of_mem_drop hz,e.symm⟩)) (by omega),hall]
 rfl
end Go.Proofs.YtfhghdcbofbceaaGreatDoor
