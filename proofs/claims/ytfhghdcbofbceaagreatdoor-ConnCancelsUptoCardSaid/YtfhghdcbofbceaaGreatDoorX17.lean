/- ReL, ReM, ReN. -/
import Derived.Test.YtfhghdcbofbceaaGreatDoorX16
namespace Go.Proofs.YtfhghdcbofbceaaGreatDoor
open Go.RowKit Go.Lib
set_option maxRecDepth 100000
set_option maxHeartbeats 16000000
theorem De(P:Nat→Prop)(b M:Nat)(l:List El)(id op:Int)(w:World)(hM:Hc w M (Mg.row {id:=id,op:=op}) 32)(hbM:b≠M)(hP:∀g,P g→g≠M)(h:RowA P b l w):
  Calls Tryz.prog 143 #[.pointer (some ⟨M,0,none⟩),.pointer (some ⟨b,0,none⟩)] w fun e w'=>Out (dI id op l) (fun y v w'=>v=.tuple #[]∧MgO w.heap.size M y.1 w'∧RowA (fun g=>P g∧g<w.heap.size) b y.2 w') e w'∧Lft [b,M] w.heap.size w w':=by
 by_cases h24:op=24
 ·subst h24
  exact qA P b M l id w hM hbM hP h
 ·exact mr P b M l id op w hM hbM hP h h24
theorem ji{el:El}{c t:Int}{ks:List El}(h:ci el c t=some ks):dL ks≤ed el:=by
 unfold ci at h
 split at h
 ·cases h
  cases el;simp only[ed,El.kids]
  omega
 ·cases h
theorem ey.found{V:Nat→Value→World→Prop}{listed:Nat→Bool}{r:Nat}{w:World}(h:ey oTb V listed r w)(hl:∀p∈oTb,listed p.1=true)(k:Int):
  (∃i v,(i,k)∈oTb∧V i v w∧(Instr.lookup 172 (.map (some r)) (.int .i64 k) true).run Tryz.prog w=.ok (.tuple #[v,.bool true]) w)∨((∀p∈oTb,p.2≠k)∧(Instr.lookup 172 (.map (some r)) (.int .i64 k) true).run Tryz.prog w=.ok (.tuple #[.nilFunc,Bf]) w):=by
 obtain⟨es,c,hb,hq1,hq2⟩:=h;have hz:(zeroValue 1).run Tryz.prog w=.ok .nilFunc w:=by go_simp
 rcases jT (P:=Tryz.prog) w 172 3 1 r c es k .nilFunc (by kernel_rfl) (by kernel_rfl) hb (fun z hz=>by obtain⟨p,_,_,e,_⟩:=hq1 z hz;exact⟨_,e⟩) hz with⟨z,hz1,hz2,hrun⟩|⟨hno,hrun⟩
 ·obtain⟨p,hp,_,hp2,hv⟩:=hq1 z hz1
  rw[hz2] at hp2
  injection hp2 with _ hp2
  exact .inl ⟨p.1,z.val,by rw[hp2];exact hp,hv,hrun⟩
 ·refine .inr ⟨fun p hp hk=>?_,hrun⟩
  obtain⟨z,hz1,hz2⟩:=hq2 p hp (hl p hp);exact hno z hz1 (by rw[hz2,hk])
theorem Lft.then'{M x B:Nat}{w w4 w5 w6:World}(h:Lft [M] B w w4)(m:Bw w4 w5)(t:Lft [x] w5.heap.size w5 w6)(hx:B≤x)(hB:B≤w4.heap.size):Lft [M] B w w6:=
 ⟨t.os.trans (m.os.trans h.os),t.tape.trans (m.tape.trans h.tape),t.output.trans (m.output.trans h.output),Nat.le_trans h.size (Nat.le_trans m.size t.size),fun j hj hne=>(t.block j (by have:=m.size;omega) (by simp;omega)).trans ((m.block j (by omega)).trans (h.block j hj hne))⟩
theorem Lft.then2{M b B:Nat}{w w8 w9:World}(h:Lft [M] B w w8)(t:Lft [b,M] w8.heap.size w8 w9)(hb:B≤b)(hB:B≤w8.heap.size):Lft [M] B w w9:=
 ⟨t.os.trans h.os,t.tape.trans h.tape,t.output.trans h.output,Nat.le_trans h.size t.size,fun j hj hne=>(t.block j (by omega) (by simp at hne⊢;omega)).trans (h.block j hj hne)⟩
theorem rU(P:Nat→Prop)(el:El)(u:Value)(id:Int)(M:Nat)(w:World)(hM:Hc w M (Mg.row {id:=id}) 32)(hk:bf P w u el.kids)(hs:SmE el)(hP:∀g,P g→g≠M)(hcn:ed el≤1000000000)(h2:el.tag≠2)(h10:el.tag≠10)(h16:el.tag≠16):
  Calls Tryz.prog 116 #[.pointer (some ⟨M,0,none⟩),.agg (elA el u)] w fun e w'=>Out (oOp id el) (fun y v w'=>v=.tuple #[]∧MgO w.heap.size M y w') e w'∧Lft [M] w.heap.size w w':=by
 have hBl:=(gl hM);obtain⟨a,c,hf⟩:=hk.shape;subst hf;have b1:Below w.heap.size w ((w.alloc (.cells #[.pointer (some ⟨M,0,none⟩)] 56)).alloc (.cells (Er el a c) 40)):=((aA _ _).alloc (ah _) _).alloc (by simp) _;have p1:Hc ((w.alloc (.cells #[.pointer (some ⟨M,0,none⟩)] 56)).alloc (.cells (Er el a c) 40)) w.heap.size #[.pointer (some ⟨M,0,none⟩)] 56:=(alloc_old _ _ _ (by simp)).trans (fb _ _ _ rfl);have r1:Hc ((w.alloc (.cells #[.pointer (some ⟨M,0,none⟩)] 56)).alloc (.cells (Er el a c) 40)) (w.heap.size+1) (Er el a c) 40:=fb _ _ _ (by simp);have m1:=(b1.block M hBl).trans hM;have k1:=hk.below b1;generalize hO:oOp id el=O;unfold oOp at hO;rw[if_neg h2,if_neg h10,if_neg h16] at hO;have HO:=hid hO;unfold elA;clear hM hk hO
 go_enter Tryz.func116,Tryz.ntmps116
 refine wp_seq ?_;refine aQ ?_
 iterate 2 (refine aB rfl (kkn ?_))
 generalize((w.alloc (.cells #[.pointer (some ⟨M,0,none⟩)] 56)).alloc (.cells (Er el a c) 40))=w1 at b1 p1 r1 m1 k1⊢;have qp:=cval p1 0 (.pointer (some ⟨M,0,none⟩));have qt:=cval r1 1 (.int .i64 el.tag);have q1:=cval m1 1 I0;have z1:=aj m1 1;have m2:Hc (w1.setCell ⟨M,1,none⟩ (.int .i64 el.tag)) M (Mg.row {id:=id,op:=el.tag}) 32:=cq (i:=1) (u:=.int .i64 el.tag) m1;have t2:Lft [M] w1.heap.size w1 (w1.setCell ⟨M,1,none⟩ (.int .i64 el.tag)):=(Lft.refl w1).set _ _ _ (by simp);have p2:=t2.at p1 (by simp;omega);have r2:=t2.at r1 (by simp;omega);have k2:=k1.kept (Q:=fun _=>True) (w':=w1.setCell ⟨M,1,none⟩ (.int .i64 el.tag)) (fun g hg hl=>⟨t2.old hl (by simpa using hP g hg),trivial⟩);have l2:Lft [M] w.heap.size w (w1.setCell ⟨M,1,none⟩ (.int .i64 el.tag)):=(Lft.of b1).trans (t2.mono (ah _) fun _ _ h=>h) (ah _);have hs1:=b1.size;have hs2:w.heap.size+2≤(w1.setCell ⟨M,1,none⟩ (.int .i64 el.tag)).heap.size:=by have:=(gl r1);simp;omega
 obtain⟨M2,P2,R2,L2,K2⟩:=Cj m2 p2 r2 l2 k2;clear p1 r1 m1 b1 m2 p2 r2 l2 k1 k2 t2 hP;have i2:(el.tag==2)=false:=aE h2;have i10:(el.tag==10)=false:=aE h10;have i16:(el.tag==16)=false:=aE h16
 go_wp2_with fail
 clear qp qt q1 z1;generalize w1.setCell ⟨M,1,none⟩ (.int .i64 el.tag)=w2 at M2 P2 R2 L2 K2 hs2⊢;refine aR (S:=fun w'=>Hc w' w.heap.size #[.pointer (some ⟨M,0,none⟩)] 56∧Hc w' (w.heap.size+1) (Er el a c) 40∧w'.cell? ⟨M,1,none⟩=some (.int .i64 el.tag)) (by kernel_rfl) ?_;have T3:Hc w2.drew w.heap.size #[.pointer (some ⟨M,0,none⟩)] 56∧Hc w2.drew (w.heap.size+1) (Er el a c) 40∧w2.drew.cell? ⟨M,1,none⟩=some (.int .i64 el.tag):=⟨P2.out,R2.out,(aq M2.out 1).trans rfl⟩;have M3:Hc w2.drew M (Mg.row {id:=id,op:=el.tag}) 32:=M2.out;have L3:Lft [M] w.heap.size w w2.drew:=L2.out.drew;have K3:=K2.out.below (aA _ w2).drew;have hs3:w.heap.size+2≤w2.drew.heap.size:=hs2
 change wpAnyH _ _ _ _ _ _ _ _ w2.drew
 clear M2 P2 R2 L2 K2 hs2;generalize w2.drew=w3 at T3 M3 L3 K3 hs3⊢;refine tn 0 (.agg (Er el a c)) rfl (fun w' hS=>by exact cU 40 (.tmp 3) rfl (w.heap.size+1) 40 _ (0,0) (by rfl) hS.2.1 _ Tryz.underlying40 rfl (by rfl)) T3 ?_;refine tn 1 (.pointer (some ⟨M,0,none⟩)) rfl (fun w' hS=>by have q:=(aq hS.1 0).trans (rfl:_=some (Value.pointer (some ⟨M,0,none⟩)));go_simp) T3 ?_;refine tp 2 ⟨M,0,none⟩ rfl T3 ?_;refine tp 3 ⟨M,1,none⟩ rfl T3 ?_;refine tn 4 (.int .i64 el.tag) rfl (fun w' hS=>by have q:=hS.2.2;go_simp) T3 ?_;refine fq 5 6 (by kernel_rfl) rfl (by rfl) rfl (by rfl) (fun K hK=>?P1) (fun K hK=>?P2)
 case' P1=>
  have kc:=dk el _ 1 el.tag w3 K3 hs;unfold elA at kc;go_simp;go_wp2_with fail
  refine ag kc ?_;rintro x w4 ⟨ho,hb⟩;have M4:=bk hb M3;have T4:Hc w4 w.heap.size #[.pointer (some ⟨M,0,none⟩)] 56∧Hc w4 (w.heap.size+1) (Er el a c) 40∧w4.cell? ⟨M,1,none⟩=some (.int .i64 el.tag):=⟨bk hb T3.1,bk hb T3.2.1,(aq M4 1).trans rfl⟩;have L4:Lft [M] w.heap.size w w4:=L3.trans (.of hb) (by have:=L3.size;omega);have hs4:=hb.size;clear kc hb M3 T3 L3 K3;replace HO:=HO.out;generalize hks:ci el 1 el.tag=E at ho HO;rcases E with _|ks
  ·obtain⟨rfl,rfl⟩:x=Pn∧none=O:=⟨ho,HO⟩
   exact⟨rfl,rfl,L4⟩
  obtain⟨v,rfl,b,rfl,hbge,hrow⟩:=ho
  try simp only[ai] at HO
  replace HO:=hid HO;have hck:=ji hks;clear hks;refine hK _ _ T4 ?_;clear hK K
  have hb4:=hrow.lt;have m5:=alb w4 #[.pointer none] 144;have x5:=alz w4 #[.pointer none] 144;have q5:(w4.alloc (.cells #[.pointer none] 144)).cell? ⟨w4.heap.size,0,none⟩=some (.pointer none):=(aq x5 0).trans rfl;have z5:=aj x5 0;have M5:=bk m5 M4;have T5:Hc (w4.alloc (.cells #[.pointer none] 144)) w.heap.size #[.pointer (some ⟨M,0,none⟩)] 56∧Hc (w4.alloc (.cells #[.pointer none] 144)) (w.heap.size+1) (Er el a c) 40∧(w4.alloc (.cells #[.pointer none] 144)).cell? ⟨M,1,none⟩=some (.int .i64 el.tag):=⟨bk m5 T4.1,bk m5 T4.2.1,(aq M5 1).trans rfl⟩;have t6:Lft [w4.heap.size] (w4.alloc (.cells #[.pointer none] 144)).heap.size (w4.alloc (.cells #[.pointer none] 144)) ((w4.alloc (.cells #[.pointer none] 144)).setCell ⟨w4.heap.size,0,none⟩ (.pointer (some ⟨b,0,none⟩))):=(Lft.refl _).set _ _ _ (by simp);have x6:Hc ((w4.alloc (.cells #[.pointer none] 144)).setCell ⟨w4.heap.size,0,none⟩ (.pointer (some ⟨b,0,none⟩))) w4.heap.size #[.pointer (some ⟨b,0,none⟩)] 144:=cq (i:=0) (u:=.pointer (some ⟨b,0,none⟩)) x5;have M6:=t6.at M5 (by simp;omega);have T6:Hc ((w4.alloc (.cells #[.pointer none] 144)).setCell ⟨w4.heap.size,0,none⟩ (.pointer (some ⟨b,0,none⟩))) w.heap.size #[.pointer (some ⟨M,0,none⟩)] 56∧Hc ((w4.alloc (.cells #[.pointer none] 144)).setCell ⟨w4.heap.size,0,none⟩ (.pointer (some ⟨b,0,none⟩))) (w.heap.size+1) (Er el a c) 40∧((w4.alloc (.cells #[.pointer none] 144)).setCell ⟨w4.heap.size,0,none⟩ (.pointer (some ⟨b,0,none⟩))).cell? ⟨M,1,none⟩=some (.int .i64 el.tag):=⟨t6.at T5.1 (by simp;omega),t6.at T5.2.1 (by simp;omega),(aq M6 1).trans rfl⟩;have C6:ClR w.heap.size w4.heap.size M b ((w4.alloc (.cells #[.pointer none] 144)).setCell ⟨w4.heap.size,0,none⟩ (.pointer (some ⟨b,0,none⟩))):=⟨T6.1,x6⟩;have R6:=(hrow.shut.below m5).keep t6 (by simp;omega) (fun g hg _=>by have:=hg.2;simp;omega);have L6:Lft [M] w.heap.size w ((w4.alloc (.cells #[.pointer none] 144)).setCell ⟨w4.heap.size,0,none⟩ (.pointer (some ⟨b,0,none⟩))):=L4.then' m5 t6 (by omega) (by omega)
  have hbx:w4.heap.size≠b:=by omega
  have hbw:w.heap.size+2≤b:=by omega
  have hxw:w.heap.size+2≤w4.heap.size:=by omega
  have hPP:∀g,((w3.heap.size≤g∧g≠b)∧g<w4.heap.size)→w.heap.size+2≤g∧g≠b:=fun g hg=>⟨by omega,hg.1.2⟩
  obtain⟨PP,hPe⟩:=nmm ((fun g=>(w3.heap.size≤g∧g≠b)∧g<w4.heap.size):Nat→Prop);have hPP:∀g,PP g→w.heap.size+2≤g∧g≠b:=by rw[←hPe];exact hPP
  rw[hPe] at R6;clear hPe;have hsz6:w4.heap.size<((w4.alloc (.cells #[.pointer none] 144)).setCell ⟨w4.heap.size,0,none⟩ (.pointer (some ⟨b,0,none⟩))).heap.size:=by simp
  have hb6:b<((w4.alloc (.cells #[.pointer none] 144)).setCell ⟨w4.heap.size,0,none⟩ (.pointer (some ⟨b,0,none⟩))).heap.size:=by simp;omega
  refine ao 6 rfl (kks T5 ?_);clear t6 x6 T5 M5 m5 x5 hrow M4 T4 L4;generalize(w4.alloc (.cells #[.pointer none] 144))=w5 at q5 z5 T6 M6 C6 R6 L6 hsz6 hb6⊢;refine ao 7 rfl (kks T6 ?_);refine xk (by kernel_rfl) ?_ _;simp only[Exit.then];refine‹∀(a:Act) (w:World),Code.wp _ _ _ a w→_› _ _ ?_;obtain⟨x6n,hx6n⟩:=nmm w4.heap.size;clear q5 z5;generalize(w5.setCell ⟨w4.heap.size,0,none⟩ (.pointer (some ⟨b,0,none⟩)))=w6 at T6 M6 C6 R6 L6 hsz6 hb6⊢;rw[hx6n] at C6 hsz6 hbx hxw⊢;clear hx6n hbge hb4 hs4 hs3;have hmm:∀(t:TypeId) (w:World),(Instr.makeMap t none).run Tryz.prog w=.ok (.map (some w.heap.size)) (w.alloc (.map #[] 0)):=fun _ _=>rfl
  have hmf:∀(fn:Fn) (first cap:Array Value) (w:World),(Instr.makeFunc fn first cap).run Tryz.prog w=.ok (.func fn first cap) w:=fun _ _ _ _=>rfl
  have hT:pc w.heap.size x6n (fun _=>false) w6.heap.size w6.heap.size w6 (w6.alloc (.map #[] 0)):=⟨⟨#[],0,fb _ _ _ rfl,fun z hz=>by simp at hz,fun p _ q=>by cases q⟩,(aA _ _).alloc (ah _) _,ah _⟩
 case' P2=>
  have m4:=alb w3 #[.pointer none] 144;have x4:=alz w3 #[.pointer none] 144;have N3:=bk m4 M3;have U3:Hc (w3.alloc (.cells #[.pointer none] 144)) w.heap.size #[.pointer (some ⟨M,0,none⟩)] 56∧Hc (w3.alloc (.cells #[.pointer none] 144)) (w.heap.size+1) (Er el a c) 40∧(w3.alloc (.cells #[.pointer none] 144)).cell? ⟨M,1,none⟩=some (.int .i64 el.tag):=⟨bk m4 T3.1,bk m4 T3.2.1,(aq N3 1).trans rfl⟩;have J3:Lft [M] w.heap.size w (w3.alloc (.cells #[.pointer none] 144)):=L3.trans (.of m4) (by omega);have K4:=K3.below m4;have hsx:(w3.alloc (.cells #[.pointer none] 144)).heap.size=w3.heap.size+1:=by simp
  go_simp;refine hK _ _ U3 ?_;clear hK K
  obtain⟨x6n,hx6n⟩:=nmm w3.heap.size;have hxw:w.heap.size+2≤w3.heap.size:=hs3;rw[hx6n] at x4 hsx hxw⊢;clear M3 T3 L3 K3 m4;generalize(w3.alloc (.cells #[.pointer none] 144))=v3 at N3 U3 J3 K4 x4 hsx⊢;clear hx6n hs3;have M3:=N3;have T3:=U3;have L3:=J3;clear N3 U3 J3;have kc:=dk el _ 1 el.tag v3 K4 hs;unfold elA at kc;refine ao 5 rfl (fun K hK=>?_);go_simp;go_wp2_with fail
  refine ag kc ?_;rintro x w4 ⟨ho,hb⟩;have M4:=bk hb M3;have T4:Hc w4 w.heap.size #[.pointer (some ⟨M,0,none⟩)] 56∧Hc w4 (w.heap.size+1) (Er el a c) 40∧w4.cell? ⟨M,1,none⟩=some (.int .i64 el.tag):=⟨bk hb T3.1,bk hb T3.2.1,(aq M4 1).trans rfl⟩;have L4:Lft [M] w.heap.size w w4:=L3.trans (.of hb) (by have:=L3.size;omega);have hs4:=hb.size;have x4:=bk hb x4;clear kc hb M3 T3 L3 K4;replace HO:=HO.out;generalize hks:ci el 1 el.tag=E at ho HO;rcases E with _|ks
  ·obtain⟨rfl,rfl⟩:x=Pn∧none=O:=⟨ho,HO⟩
   exact⟨rfl,rfl,L4⟩
  obtain⟨v,rfl,b,rfl,hbge,hrow⟩:=ho
  try simp only[ai] at HO
  replace HO:=hid HO;have hck:=ji hks;clear hks;refine hK _ _ T4 ?_;clear hK K
  have hb4:=hrow.lt;have q5:=cval x4 0 (.pointer none);have z5:=aj x4 0;have t6:Lft [x6n] w4.heap.size w4 (w4.setCell ⟨x6n,0,none⟩ (.pointer (some ⟨b,0,none⟩))):=(Lft.refl _).set _ _ _ (by simp);have x6:Hc (w4.setCell ⟨x6n,0,none⟩ (.pointer (some ⟨b,0,none⟩))) x6n #[.pointer (some ⟨b,0,none⟩)] 144:=cq (i:=0) (u:=.pointer (some ⟨b,0,none⟩)) x4;have M6:=t6.at M4 (by simp;omega);have T6:Hc (w4.setCell ⟨x6n,0,none⟩ (.pointer (some ⟨b,0,none⟩))) w.heap.size #[.pointer (some ⟨M,0,none⟩)] 56∧Hc (w4.setCell ⟨x6n,0,none⟩ (.pointer (some ⟨b,0,none⟩))) (w.heap.size+1) (Er el a c) 40∧(w4.setCell ⟨x6n,0,none⟩ (.pointer (some ⟨b,0,none⟩))).cell? ⟨M,1,none⟩=some (.int .i64 el.tag):=⟨t6.at T4.1 (by simp;omega),t6.at T4.2.1 (by simp;omega),(aq M6 1).trans rfl⟩;have C6:ClR w.heap.size x6n M b (w4.setCell ⟨x6n,0,none⟩ (.pointer (some ⟨b,0,none⟩))):=⟨T6.1,x6⟩;have R6:=hrow.keep t6 (by simp;omega) (fun g hg _=>by have:=hg.1;simp;omega);have L6:Lft [M] w.heap.size w (w4.setCell ⟨x6n,0,none⟩ (.pointer (some ⟨b,0,none⟩))):=L4.then' (aA _ _) t6 (by omega) (by omega)
  have hbx:x6n≠b:=by omega
  have hbw:w.heap.size+2≤b:=by omega
  have hPP:∀g,(v3.heap.size≤g∧g≠b)→w.heap.size+2≤g∧g≠b:=fun g hg=>⟨by omega,hg.2⟩
  obtain⟨PP,hPe⟩:=nmm ((fun g=>v3.heap.size≤g∧g≠b):Nat→Prop);have hPP:∀g,PP g→w.heap.size+2≤g∧g≠b:=by rw[←hPe];exact hPP
  rw[hPe] at R6;clear hPe;refine ao 7 rfl (kks T6 ?_);refine xk (by kernel_rfl) ?_ _;simp only[Exit.then];refine‹∀(a:Act) (w:World),Code.wp _ _ _ a w→_› _ _ ?_;clear q5 z5 t6 x6 x4 hrow M4 T4 L4;have hsz6:x6n<(w4.setCell ⟨x6n,0,none⟩ (.pointer (some ⟨b,0,none⟩))).heap.size:=by simp;omega
  have hb6:b<(w4.setCell ⟨x6n,0,none⟩ (.pointer (some ⟨b,0,none⟩))).heap.size:=by simp;omega
  generalize(w4.setCell ⟨x6n,0,none⟩ (.pointer (some ⟨b,0,none⟩)))=w6 at T6 M6 C6 R6 L6 hsz6 hb6⊢;clear hbge hb4 hs4 hsx;have hmm:∀(t:TypeId) (w:World),(Instr.makeMap t none).run Tryz.prog w=.ok (.map (some w.heap.size)) (w.alloc (.map #[] 0)):=fun _ _=>rfl
  have hmf:∀(fn:Fn) (first cap:Array Value) (w:World),(Instr.makeFunc fn first cap).run Tryz.prog w=.ok (.func fn first cap) w:=fun _ _ _ _=>rfl
  have hT:pc w.heap.size x6n (fun _=>false) w6.heap.size w6.heap.size w6 (w6.alloc (.map #[] 0)):=⟨⟨#[],0,fb _ _ _ rfl,fun z hz=>by simp at hz,fun p _ q=>by cases q⟩,(aA _ _).alloc (ah _) _,ah _⟩
 all_goals
  refine wp_seq ?_;refine aQ ?_;refine aB rfl fun K hK=>?_
  go_simp;refine hK _ _ ?_;clear hK K hmm
  generalize w6.alloc (.map #[] 0)=wm0 at hT⊢;obtain⟨r,hr⟩:=nmm w6.heap.size;have HR:=hid hr;rw[hr] at hT⊢;clear hr;refine aB rfl (kkn ?_);obtain⟨wm1,hrun,hT⟩:=fK hT 0 0 (.func (.func 126) #[] #[.pointer (some ⟨w.heap.size,0,none⟩),.pointer (some ⟨x6n,0,none⟩)]) (by decide) (by rfl) rfl;refine aB rfl fun K hK=>?_
  go_simp;refine hK _ _ ?_;clear hK K hrun
  refine aB rfl (kkn ?_);obtain⟨wm2,hrun,hT⟩:=fK hT 1 3 (.func (.func 128) #[] #[.pointer (some ⟨w.heap.size,0,none⟩),.pointer (some ⟨x6n,0,none⟩)]) (by decide) (by rfl) rfl;refine aB rfl fun K hK=>?_
  go_simp;refine hK _ _ ?_;clear hK K hrun
  refine aB rfl (kkn ?_);obtain⟨wm3,hrun,hT⟩:=fK hT 2 6 (.func (.func 130) #[] #[.pointer (some ⟨x6n,0,none⟩),.pointer (some ⟨w.heap.size,0,none⟩)]) (by decide) (by rfl) rfl;refine aB rfl fun K hK=>?_
  go_simp;refine hK _ _ ?_;clear hK K hrun
  refine aB rfl (kkn ?_);obtain⟨wm4,hrun,hT⟩:=fK hT 3 8 (.func (.func 133) #[] #[.pointer (some ⟨x6n,0,none⟩),.pointer (some ⟨w.heap.size,0,none⟩)]) (by decide) (by rfl) rfl;refine aB rfl fun K hK=>?_
  go_simp;refine hK _ _ ?_;clear hK K hrun
  refine aB rfl (kkn ?_);obtain⟨wm5,hrun,hT⟩:=fK hT 4 4 (.func (.func 135) #[] #[.pointer (some ⟨x6n,0,none⟩),.pointer (some ⟨w.heap.size,0,none⟩)]) (by decide) (by rfl) rfl;refine aB rfl fun K hK=>?_
  go_simp;refine hK _ _ ?_;clear hK K hrun
  refine aB rfl (kkn ?_);obtain⟨wm6,hrun,hT⟩:=fK hT 5 12 (.func (.func 136) #[] #[.pointer (some ⟨w.heap.size,0,none⟩),.pointer (some ⟨x6n,0,none⟩)]) (by decide) (by rfl) rfl;refine aB rfl fun K hK=>?_
  go_simp;refine hK _ _ ?_;clear hK K hrun
  refine aB rfl (kkn ?_);obtain⟨wm7,hrun,hT⟩:=fK hT 6 14 (.func (.func 138) #[] #[.pointer (some ⟨w.heap.size,0,none⟩),.pointer (some ⟨x6n,0,none⟩)]) (by decide) (by rfl) rfl;refine aB rfl fun K hK=>?_
  go_simp;refine hK _ _ ?_;clear hK K hrun
  refine aB rfl (kkn ?_);obtain⟨wm8,hrun,hT⟩:=fK hT 7 23 (.func (.func 140) #[] #[.pointer (some ⟨w.heap.size,0,none⟩),.pointer (some ⟨x6n,0,none⟩)]) (by decide) (by rfl) rfl;refine aB rfl fun K hK=>?_
  go_simp;refine hK _ _ ?_;clear hK K hrun
  obtain⟨hma,b8,_⟩:=hT;have hfd:=hma.found (by decide) el.tag;have b8:Below w6.heap.size w6 wm8:=by rw[HR.out];exact b8
  clear hma hmf HR;have T8:Hc wm8 w.heap.size #[.pointer (some ⟨M,0,none⟩)] 56∧Hc wm8 (w.heap.size+1) (Er el a c) 40∧wm8.cell? ⟨M,1,none⟩=some (.int .i64 el.tag):=⟨bk b8 T6.1,bk b8 T6.2.1,(aq (bk b8 M6) 1).trans rfl⟩;have M8:=bk b8 M6;have C8:ClR w.heap.size x6n M b wm8:=C6.to (X:=[]) (.of b8) (by simp) (by simp);have R8:=R6.below b8;have L8:Lft [M] w.heap.size w wm8:=L6.trans (.of b8) (by omega);have hs8:=b8.size;clear T6 M6 C6 R6 L6 b8;generalize wm8=w8 at hfd T8 M8 C8 R8 L8 hs8⊢;have qp:=cval T8.1 0 (.pointer (some ⟨M,0,none⟩));have q1:=T8.2.2;have hne:b≠M:=by omega
  have hnP:∀g,PP g→g≠M:=fun g hg=>by have:=(hPP g hg).1;omega
  clear T8;rcases hfd with⟨i,v,hik,hv,hrun⟩|⟨hno,hrun⟩
  ·obtain⟨fn,cap,rfl,hcf,hcall⟩:=rQ hik PP b M w.heap.size x6n ks id w8 M8 hne hnP R8 C8 ⟨by omega,by omega⟩ ⟨by omega,hbx⟩ (by omega) i v hik hv
   have HCALL:=hid hcall;clear hik hv R8 M8 hnP hcall
   go_wp2_with fail
   have kc:=HCALL.out;clear HCALL hrun hcf q1 qp;refine ag kc ?_;rintro x w9 ⟨ho,hb⟩;have L9:Lft [M] w.heap.size w w9:=L8.then2 hb (by omega) (by omega);have C9:=C8.to hb (by simp;omega) (by simp;omega);clear kc hb L8 C8;replace HO:=HO.out;generalize oDo id el.tag ks=E at ho HO;rcases E with _|y
   ·obtain⟨rfl,rfl⟩:x=Pn∧none=O:=⟨ho,HO⟩
    exact⟨rfl,rfl,L9⟩
   obtain⟨v,rfl,rfl,ho9,hrow⟩:=ho
   try simp only[ai] at HO
   replace HO:=hid HO;have q6:=cval C9.r 0 (.pointer (some ⟨b,0,none⟩));have hs9:=L9.size;have kc:=cX _ b y.2 w9 hrow
   go_wp2_with fail
   refine ag kc ?_;rintro x w10 ⟨ho,hb⟩;have L10:Lft [M] w.heap.size w w10:=L9.trans (.of hb) (by omega);have o10:=(ho9.to (X:=[]) (.of hb) (by simp) (by simp)).mono (B':=w.heap.size) (by omega);clear kc hb L9 ho9 hrow q6;replace HO:=HO.out;rw[dJ] at HO;generalize bN () y.2=E at ho HO;rcases E with _|uu
   ·obtain⟨rfl,rfl⟩:x=Pn∧none=O:=⟨ho,HO⟩
    exact⟨rfl,rfl,L10⟩
   obtain⟨v,rfl,rfl⟩:=ho
   try simp only[aw] at HO
   replace HO:=hid HO
   go_wp2_with fail
   have hO:=HO.out;subst hO
   first|go_end0|(refine aH (v:=.tuple #[]) (by simp[results,Tryz.f116]) rfl ?_)
   exact⟨⟨_,rfl,rfl,o10⟩,L10⟩
  ·obtain⟨B,hB⟩:∃B,ez.contains el.tag=B:=⟨_,rfl⟩
   have hdo:oDo id el.tag ks=if B then dI id el.tag ks else none:=by
    have hk:∀n,(n,el.tag)∉oTb:=fun n hn=>hno _ hn rfl
    simp only[oTb,aY,Prod.mk.injEq,aZ,or_false,not_or,not_and] at hk;have e0:el.tag≠0:=(hk 0).1 rfl;have e3:el.tag≠3:=(hk 1).2.1 rfl;have e6:el.tag≠6:=(hk 2).2.2.1 rfl;have e8:el.tag≠8:=(hk 3).2.2.2.1 rfl;have e4:el.tag≠4:=(hk 4).2.2.2.2.1 rfl;have e12:el.tag≠12:=(hk 5).2.2.2.2.2.1 rfl;have e14:el.tag≠14:=(hk 6).2.2.2.2.2.2.1 rfl;have e23:el.tag≠23:=(hk 7).2.2.2.2.2.2.2 rfl;unfold oDo;rw[if_neg e0,if_neg e3,if_neg e6,if_neg e8,if_neg e4,if_neg e12,if_neg e14,if_neg e23,hB]
   have hO:=HO.out;clear HO;rw[hdo] at hO;have HO:=hid hO;have ki:=yF el.tag w8;rw[hB] at ki;clear hno hdo hB hO
   go_wp2_with fail
   refine ag ki ?_;rintro e w81 ⟨rfl,hbi⟩;have M8:=bk hbi M8;have C8:ClR w.heap.size x6n M b w81:=C8.to (X:=[]) (.of hbi) (by simp) (by simp);have R8:=R8.below hbi;have L8:Lft [M] w.heap.size w w81:=L8.trans (.of hbi) (by omega);have hs8:w6.heap.size≤w81.heap.size:=by have:=hbi.size;omega
   have kw:=cN B w81;clear ki hbi hrun q1 qp;cases B with
   |false=>
    have hO:=HO.out;simp only[aW,if_false,be] at hO
    go_wp2_with fail
    refine ag kw ?_;rintro e wz ⟨he,hwz⟩;obtain rfl:=hwz.symm;subst hO;have he2:e=Pn:=he;subst he2;exact⟨rfl,rfl,L8⟩
   |true=>
    have hO:=HO.out;clear HO;rw[if_pos rfl] at hO;have HO:=hid hO;clear hO;have hmf:∀(fn:Fn) (first cap:Array Value) (w:World),(Instr.makeFunc fn first cap).run Tryz.prog w=.ok (.func fn first cap) w:=fun _ _ _ _=>rfl
    go_wp2_with fail
    refine ag kw ?_;rintro e wz ⟨⟨_,rfl,rfl⟩,hwz⟩;obtain rfl:=hwz.symm
    go_wp2_with fail
    have kc:=vT w.heap.size x6n M b w81 C8 (De PP b M ks id el.tag w81 M8 hne hnP R8);clear hmf kw R8 M8 hnP;refine ag kc ?_;rintro x w9 ⟨ho,hb⟩;have L9:Lft [M] w.heap.size w w9:=L8.then2 hb (by omega) (by omega);have C9:=C8.to hb (by simp;omega) (by simp;omega);clear kc hb L8 C8;replace HO:=HO.out;generalize dI id el.tag ks=E at ho HO;rcases E with _|y
    ·obtain⟨rfl,rfl⟩:x=Pn∧none=O:=⟨ho,HO⟩
     exact⟨rfl,rfl,L9⟩
    obtain⟨v,rfl,rfl,ho9,hrow⟩:=ho
    try simp only[ai] at HO
    replace HO:=hid HO;have q6:=cval C9.r 0 (.pointer (some ⟨b,0,none⟩));have hs9:=L9.size;have kc:=cX _ b y.2 w9 hrow
    go_wp2_with fail
    refine ag kc ?_;rintro x w10 ⟨ho,hb⟩;have L10:Lft [M] w.heap.size w w10:=L9.trans (.of hb) (by omega);have o10:=(ho9.to (X:=[]) (.of hb) (by simp) (by simp)).mono (B':=w.heap.size) (by omega);clear kc hb L9 ho9 hrow q6;replace HO:=HO.out;rw[dJ] at HO;generalize bN () y.2=E at ho HO;rcases E with _|uu
    ·obtain⟨rfl,rfl⟩:x=Pn∧none=O:=⟨ho,HO⟩
     exact⟨rfl,rfl,L10⟩
    obtain⟨v,rfl,rfl⟩:=ho
    try simp only[aw] at HO
    replace HO:=hid HO
    go_wp2_with fail
    have hO:=HO.out;subst hO
    first|go_end0|(refine aH (v:=.tuple #[]) (by simp[results,Tryz.f116]) rfl ?_)
    exact⟨⟨_,rfl,rfl,o10⟩,L10⟩
theorem rV(P:Nat→Prop)(el:El)(u:Value)(id:Int)(M:Nat)(w:World)(hM:Hc w M (Mg.row {id:=id}) 32)(hk:bf P w u el.kids)(hs:SmE el)(hP:∀g,P g→g≠M)(hcn:ed el≤1000000000):
  Calls Tryz.prog 116 #[.pointer (some ⟨M,0,none⟩),.agg (elA el u)] w fun e w'=>Out (oOp id el) (fun y v w'=>v=.tuple #[]∧MgO w.heap.size M y w') e w'∧Lft [M] w.heap.size w w':=by
 by_cases h2:el.tag=2
 ·exact rR P el u id M w hM hk hs hP hcn h2
 by_cases h10:el.tag=10
 ·exact rS P el u id M w hM hk hs hP hcn h10
 by_cases h16:el.tag=16
 ·exact mw P el u id M w hM hk hs hP hcn h16
 exact rU P el u id M w hM hk hs hP hcn h2 h10 h16
structure CtR (w:World) (b X:Nat) (cs:Array Value) (r:List El) (wx:World):Prop where
 res:Hc wx (w.heap.size+1) #[Es,Bf,Bf,Es] 83
 own:Hc wx X cs 83
 row:RowA (fun g=>w.heap.size+2≤g∧g≠b∧g<X) b r wx
 bel:Bw w wx
 lb:w.heap.size+2≤b
 lx:b<X
theorem CtR.next{w wx wy:World}{b X:Nat}{cs:Array Value}{r:List El}(h:CtR w b X cs r wx)(k:Lft [b] wx.heap.size wx wy)(r':List El)(hr:RowA (fun g=>w.heap.size+2≤g∧g≠b∧g<X) b r' wy):CtR w b X cs r' wy:=by
 obtain⟨h1,h2,h3,h4,h5,h6⟩:=h;exact⟨k.at h1 (by simp;omega),k.at h2 (by simp;omega),hr,h4.trans (k.below1 (by omega) h4.size),h5,h6⟩
theorem CtR.lftn{w wx wy:World}{b X:Nat}{cs:Array Value}{r:List El}(h:CtR w b X cs r wx)(k:Lft [b] wx.heap.size wx wy):Bw w wy:=h.bel.trans (k.below1 (by have:=h.lb;omega) h.bel.size)
theorem CtR.to{w wx wy:World}{b X:Nat}{cs:Array Value}{r:List El}(h:CtR w b X cs r wx)(k:Bw wx wy):CtR w b X cs r wy:=
 ⟨bk k h.res,bk k h.own,h.row.below k,h.bel.trans (k.mono h.bel.size),h.lb,h.lx⟩
theorem CtR.set{w wx:World}{b X:Nat}{cs cs':Array Value}{r:List El}(h:CtR w b X cs r wx)(k:Nat)(v:Value)(hc:cs.setIfInBounds k v=cs'):CtR w b X cs' r (wx.setCell ⟨X,k,none⟩ v):=by
 obtain⟨h1,h2,h3,h4,h5,h6⟩:=h;have m:Lft [X] wx.heap.size wx (wx.setCell ⟨X,k,none⟩ v):=(Lft.refl wx).set _ _ _ (by simp);refine⟨m.at h1 (by simp;omega),?_,h3.keep m (by simp;omega) (fun g hg _=>by have:=hg.2.2;simp;omega),h4.trans (m.below1 (by omega) h4.size),h5,h6⟩;rw[←hc];exact cq (i:=k) (u:=v) h2
theorem iW(el:El)(u:Value)(w:World)(h:bf (fun _=>True) w u el.kids)(hs:SmE el):
  Calls Tryz.prog 119 #[.agg (elA el u)] w fun e w'=>Out (AR el) (fun y v _=>v=.agg #[.string ⟨y.oid.toArray⟩,.bool y.crit,.bool y.has,.string ⟨y.value.toArray⟩]) e w'∧Bw w w':=by
 obtain⟨a,c,hf⟩:=h.shape;subst hf;have b1:Bw w ((w.alloc (.cells (Er el a c) 40)).alloc (.cells #[Es,Bf,Bf,Es] 83)):=((aA _ _).alloc (ah _) _).alloc (by simp) _;have r1:Hc ((w.alloc (.cells (Er el a c) 40)).alloc (.cells #[Es,Bf,Bf,Es] 83)) w.heap.size (Er el a c) 40:=(alloc_old _ _ _ (by simp)).trans (fb _ _ _ rfl);have n1:Hc ((w.alloc (.cells (Er el a c) 40)).alloc (.cells #[Es,Bf,Bf,Es] 83)) (w.heap.size+1) #[Es,Bf,Bf,Es] 83:=fb _ _ _ (by simp);have kc:=dk el _ 0 16 ((w.alloc (.cells (Er el a c) 40)).alloc (.cells #[Es,Bf,Bf,Es] 83)) (h.below b1) hs;generalize hO:AR el=O;simp only[AR] at hO;have HO:=hid hO;clear hO;unfold elA at kc⊢;clear h hs
 go_enter Tryz.func119,Tryz.ntmps119
 go_upto_region 1 with fail
 generalize((w.alloc (.cells (Er el a c) 40)).alloc (.cells #[Es,Bf,Bf,Es] 83))=w1 at b1 r1 n1 kc⊢;have hn1:=(gl n1)
 go_wp2_with (refine ldE (.tmp 1) r1 rfl ?_)
 refine ag kc ?_;rintro x w2 ⟨ho,hb⟩;have b2:=btt b1 hb;have n2:=bk hb n1;have hs12:=hb.size;clear kc hb r1 n1 b1;replace HO:=HO.out;generalize ci el 0 16=E at ho HO;rcases E with _|ks
 ·obtain⟨rfl,rfl⟩:x=Pn∧none=O:=⟨ho,HO⟩
  exact⟨rfl,rfl,b2⟩
 obtain⟨v,rfl,b,rfl,hbge,hrow⟩:=ho
 try simp only[ai] at HO
 replace HO:=hid HO;have kc:=cQ _ b ks w2 hrow
 go_wp2_with fail
 refine ag kc ?_;rintro x w3 ⟨ho,hb⟩;have b3:=b2.trans (hb.below1 (B:=w.heap.size) (by omega) b2.size);have n3:=hb.at n2 (by simp;omega);have hs23:=hb.size;clear kc hb n2 b2 hrow;replace HO:=HO.out;generalize cg ks=E at ho HO;rcases E with _|t
 ·obtain⟨rfl,rfl⟩:x=Pn∧none=O:=⟨ho,HO⟩
  exact⟨rfl,rfl,b3⟩
 obtain⟨v,rfl,rfl,hrow⟩:=ho
 try simp only[ai] at HO
 replace HO:=hid HO;have m4:=alb w3 #[.string ⟨t.1.toArray⟩,Bf,Bf,Es] 83;have h4:CtR w b w3.heap.size #[.string ⟨t.1.toArray⟩,Bf,Bf,Es] t.2 (w3.alloc (.cells #[.string ⟨t.1.toArray⟩,Bf,Bf,Es] 83)):=⟨bk m4 n3,fb _ _ _ rfl,(hrow.shut.mono (fun g hg=>⟨by omega,hg.1.2,hg.2⟩) (fun g hg=>hg.2.1)).below m4,(btt b3 m4),by omega,hrow.lt⟩;obtain⟨X,hX⟩:=nmm w3.heap.size;have kc:=iq _ b t.2 0 1 (w3.alloc (.cells #[.string ⟨t.1.toArray⟩,Bf,Bf,Es] 83)) h4.row;obtain⟨B,hB⟩:=nmm (da 0 1 t.2);have hO:=HO.out;clear HO;rw[hB] at kc hO;have HO:=hid hO;clear hO hB m4 n3 b3 hrow
 go_wp2_with fail
 rw[hX] at h4;generalize(w3.alloc (.cells #[.string ⟨t.1.toArray⟩,Bf,Bf,Es] 83))=w4 at h4 kc⊢;clear hX;refine ag kc ?_;rintro x w5 ⟨rfl,hb⟩;have h5:=h4.to hb;clear kc hb h4;cases B with
 |false=>
  have hO:=HO.out;clear HO;rw[if_neg (by simp)] at hO;simp only[ai] at hO;have HO:=hid hO;clear hO;obtain⟨ar,cr,qb⟩:=h5.row.cell;obtain⟨T,hT⟩:=nmm t.2;have hO:=HO.out;clear HO;rw[hT] at hO h5 qb;clear hT;cases T with
  |nil=>
   simp only[if_true,ai] at hO;have HO:=hid hO;clear hO;simp only[aU] at qb;have kc:=cX _ b ([]:List El) w5 h5.row
   go_wp2_with fail
   refine ag kc ?_;rintro x wE ⟨ho,hb⟩;have hE:=h5.to hb;have bE:=hE.bel;clear kc hb h5;replace HO:=HO.out;rw[dJ] at HO;generalize bN () ([]:List El)=E at ho HO;rcases E with _|uu
   ·obtain⟨rfl,rfl⟩:x=Pn∧none=O:=⟨ho,HO⟩
    exact⟨rfl,rfl,bE⟩
   obtain⟨v,rfl,rfl⟩:=ho
   try simp only[aw] at HO
   replace HO:=hid HO;have m10:Lft [w.heap.size+1] wE.heap.size wE (wE.setRow (w.heap.size+1) #[.string ⟨t.1.toArray⟩,Bf,Bf,Es]):=(Lft.refl wE).row _ _ (by simp);obtain⟨B10,N10⟩:=Cg (bE.trans (m10.below1 (B:=w.heap.size) (by omega) bE.size)) (setRow_heap wE (w.heap.size+1) _ #[.string ⟨t.1.toArray⟩,Bf,Bf,Es] _ _ hE.res);have xE:=hE.own;have nE:=hE.res;clear m10 bE hE
   go_wp2_with (first|(refine bg rfl 83 (.tmp 4) rfl X 83 _ (0,0) (by rfl) xE _ Tryz.underlying83 rfl (by rfl) ?_)|(refine bh rfl 83 (.tmp 2) (.tmp 27) rfl (w.heap.size+1) 83 _ #[.string ⟨t.1.toArray⟩,Bf,Bf,Es] (by rfl) (by rfl) nE (by rfl) (by rfl) (by simp[Value.oneCell']) ?_))
   have hO:=HO.out;subst hO;refine aH (v:=.agg #[.string ⟨t.1.toArray⟩,Bf,Bf,Es]) ?_ rfl ⟨⟨_,rfl,rfl⟩,B10.out⟩;have hr:=aJ (P:=Tryz.prog) _ (w.heap.size+1) 83 83 #[.string ⟨t.1.toArray⟩,Bf,Bf,Es] (0,0) _ N10.out (show Tryz.prog.underlying 83=_ from Tryz.underlying83) (by rfl) (by rfl)
   simp[results,Tryz.f119]
   exact hr
  |cons e T=>
   simp only[List.cons_ne_nil, if_false] at hO;have HO:=hid hO;clear hO;simp only[aG] at qb;have i1:decide ((0:Int)<(T.length:Int)+1)=true:=aC (by omega);have kc:=cQ _ b (e::T) w5 h5.row
   go_wp2_with fail
   refine ag kc ?_;rintro x w7 ⟨ho,hb⟩;have l7:=h5.lftn hb;have nx:=h5.next hb;clear kc hb qb h5;replace HO:=HO.out;generalize cg (e::T)=E at ho HO;rcases E with _|y2
   ·obtain⟨rfl,rfl⟩:x=Pn∧none=O:=⟨ho,HO⟩
    exact⟨rfl,rfl,l7⟩
   obtain⟨v,rfl,rfl,hrow⟩:=ho
   try simp only[ai,aw] at HO
   replace HO:=hid HO;have h7:=nx _ hrow;have q7:=cval h7.own 3 Es;have z7:=aj h7.own 3;have h8:CtR w b X #[.string ⟨t.1.toArray⟩,Bf,Bf,.string ⟨y2.1.toArray⟩] y2.2 (w7.setCell ⟨X,3,none⟩ (.string ⟨y2.1.toArray⟩)):=h7.set 3 (.string ⟨y2.1.toArray⟩) rfl;have q8:(w7.setCell ⟨X,3,none⟩ (.string ⟨y2.1.toArray⟩)).cell? ⟨X,2,none⟩=some (Bf):=(aq h8.own 2).trans rfl;have z8:=aj h8.own 2;have h9:CtR w b X #[.string ⟨t.1.toArray⟩,Bf,.bool true,.string ⟨y2.1.toArray⟩] y2.2 ((w7.setCell ⟨X,3,none⟩ (.string ⟨y2.1.toArray⟩)).setCell ⟨X,2,none⟩ (.bool true)):=h8.set 2 (.bool true) rfl;clear nx hrow l7 h7 h8;have kc:=cX _ b y2.2 ((w7.setCell ⟨X,3,none⟩ (.string ⟨y2.1.toArray⟩)).setCell ⟨X,2,none⟩ (.bool true)) h9.row
   go_wp2_with fail
   refine ag kc ?_;rintro x wE ⟨ho,hb⟩;have hE:=h9.to hb;have bE:=hE.bel;clear kc hb h9;replace HO:=HO.out;rw[dJ] at HO;generalize bN () y2.2=E at ho HO;rcases E with _|uu
   ·obtain⟨rfl,rfl⟩:x=Pn∧none=O:=⟨ho,HO⟩
    exact⟨rfl,rfl,bE⟩
   obtain⟨v,rfl,rfl⟩:=ho
   try simp only[aw] at HO
   replace HO:=hid HO;have m10:Lft [w.heap.size+1] wE.heap.size wE (wE.setRow (w.heap.size+1) #[.string ⟨t.1.toArray⟩,Bf,.bool true,.string ⟨y2.1.toArray⟩]):=(Lft.refl wE).row _ _ (by simp);obtain⟨B10,N10⟩:=Cg (bE.trans (m10.below1 (B:=w.heap.size) (by omega) bE.size)) (setRow_heap wE (w.heap.size+1) _ #[.string ⟨t.1.toArray⟩,Bf,.bool true,.string ⟨y2.1.toArray⟩] _ _ hE.res);have xE:=hE.own;have nE:=hE.res;clear m10 bE hE
   go_wp2_with (first|(refine bg rfl 83 (.tmp 4) rfl X 83 _ (0,0) (by rfl) xE _ Tryz.underlying83 rfl (by rfl) ?_)|(refine bh rfl 83 (.tmp 2) (.tmp 27) rfl (w.heap.size+1) 83 _ #[.string ⟨t.1.toArray⟩,Bf,.bool true,.string ⟨y2.1.toArray⟩] (by rfl) (by rfl) nE (by rfl) (by rfl) (by simp[Value.oneCell']) ?_))
   have hO:=HO.out;subst hO;refine aH (v:=.agg #[.string ⟨t.1.toArray⟩,Bf,.bool true,.string ⟨y2.1.toArray⟩]) ?_ rfl ⟨⟨_,rfl,rfl⟩,B10.out⟩;have hr:=aJ (P:=Tryz.prog) _ (w.heap.size+1) 83 83 #[.string ⟨t.1.toArray⟩,Bf,.bool true,.string ⟨y2.1.toArray⟩] (0,0) _ N10.out (show Tryz.prog.underlying 83=_ from Tryz.underlying83) (by rfl) (by rfl)
   simp[results,Tryz.f119]
   exact hr
 |true=>
  have hO:=HO.out;clear HO;rw[if_pos rfl] at hO;have HO:=hid hO;clear hO;have kc:=nF _ b t.2 w5 h5.row
  go_wp2_with fail
  refine ag kc ?_;rintro x w6 ⟨ho,hb⟩;have l6:=h5.lftn hb;have nx:=h5.next hb;clear kc hb h5;replace HO:=HO.out;generalize fm t.2=E at ho HO;rcases E with _|y
  ·obtain⟨rfl,rfl⟩:x=Pn∧none=O:=⟨ho,HO⟩
   exact⟨rfl,rfl,l6⟩
  obtain⟨v,rfl,rfl,hrow⟩:=ho
  try simp only[ai] at HO
  replace HO:=hid HO;have h6:=nx _ hrow;have q6:=cval h6.own 1 Bf;have z6:=aj h6.own 1;have h6s:CtR w b X #[.string ⟨t.1.toArray⟩,.bool y.1,Bf,Es] y.2 (w6.setCell ⟨X,1,none⟩ (.bool y.1)):=h6.set 1 (.bool y.1) rfl;clear nx hrow l6 h6;obtain⟨ar,cr,qb⟩:=h6s.row.cell;obtain⟨T,hT⟩:=nmm y.2;have hO:=HO.out;clear HO;rw[hT] at hO h6s qb;clear hT;cases T with
  |nil=>
   simp only[if_true,ai] at hO;have HO:=hid hO;clear hO;simp only[aU] at qb;have kc:=cX _ b ([]:List El) (w6.setCell ⟨X,1,none⟩ (.bool y.1)) h6s.row
   go_wp2_with fail
   refine ag kc ?_;rintro x wE ⟨ho,hb⟩;have hE:=h6s.to hb;have bE:=hE.bel;clear kc hb h6s;replace HO:=HO.out;rw[dJ] at HO;generalize bN () ([]:List El)=E at ho HO;rcases E with _|uu
   ·obtain⟨rfl,rfl⟩:x=Pn∧none=O:=⟨ho,HO⟩
    exact⟨rfl,rfl,bE⟩
   obtain⟨v,rfl,rfl⟩:=ho
   try simp only[aw] at HO
   replace HO:=hid HO;have m10:Lft [w.heap.size+1] wE.heap.size wE (wE.setRow (w.heap.size+1) #[.string ⟨t.1.toArray⟩,.bool y.1,Bf,Es]):=(Lft.refl wE).row _ _ (by simp);obtain⟨B10,N10⟩:=Cg (bE.trans (m10.below1 (B:=w.heap.size) (by omega) bE.size)) (setRow_heap wE (w.heap.size+1) _ #[.string ⟨t.1.toArray⟩,.bool y.1,Bf,Es] _ _ hE.res);have xE:=hE.own;have nE:=hE.res;clear m10 bE hE
   go_wp2_with (first|(refine bg rfl 83 (.tmp 4) rfl X 83 _ (0,0) (by rfl) xE _ Tryz.underlying83 rfl (by rfl) ?_)|(refine bh rfl 83 (.tmp 2) (.tmp 27) rfl (w.heap.size+1) 83 _ #[.string ⟨t.1.toArray⟩,.bool y.1,Bf,Es] (by rfl) (by rfl) nE (by rfl) (by rfl) (by simp[Value.oneCell']) ?_))
   have hO:=HO.out;subst hO;refine aH (v:=.agg #[.string ⟨t.1.toArray⟩,.bool y.1,Bf,Es]) ?_ rfl ⟨⟨_,rfl,rfl⟩,B10.out⟩;have hr:=aJ (P:=Tryz.prog) _ (w.heap.size+1) 83 83 #[.string ⟨t.1.toArray⟩,.bool y.1,Bf,Es] (0,0) _ N10.out (show Tryz.prog.underlying 83=_ from Tryz.underlying83) (by rfl) (by rfl)
   simp[results,Tryz.f119]
   exact hr
  |cons e T=>
   simp only[List.cons_ne_nil, if_false] at hO;have HO:=hid hO;clear hO;simp only[aG] at qb;have i1:decide ((0:Int)<(T.length:Int)+1)=true:=aC (by omega);have kc:=cQ _ b (e::T) (w6.setCell ⟨X,1,none⟩ (.bool y.1)) h6s.row
   go_wp2_with fail
   refine ag kc ?_;rintro x w7 ⟨ho,hb⟩;have l7:=h6s.lftn hb;have nx:=h6s.next hb;clear kc hb qb h6s;replace HO:=HO.out;generalize cg (e::T)=E at ho HO;rcases E with _|y2
   ·obtain⟨rfl,rfl⟩:x=Pn∧none=O:=⟨ho,HO⟩
    exact⟨rfl,rfl,l7⟩
   obtain⟨v,rfl,rfl,hrow⟩:=ho
   try simp only[ai,aw] at HO
   replace HO:=hid HO;have h7:=nx _ hrow;have q7:=cval h7.own 3 Es;have z7:=aj h7.own 3;have h8:CtR w b X #[.string ⟨t.1.toArray⟩,.bool y.1,Bf,.string ⟨y2.1.toArray⟩] y2.2 (w7.setCell ⟨X,3,none⟩ (.string ⟨y2.1.toArray⟩)):=h7.set 3 (.string ⟨y2.1.toArray⟩) rfl;have q8:(w7.setCell ⟨X,3,none⟩ (.string ⟨y2.1.toArray⟩)).cell? ⟨X,2,none⟩=some (Bf):=(aq h8.own 2).trans rfl;have z8:=aj h8.own 2;have h9:CtR w b X #[.string ⟨t.1.toArray⟩,.bool y.1,.bool true,.string ⟨y2.1.toArray⟩] y2.2 ((w7.setCell ⟨X,3,none⟩ (.string ⟨y2.1.toArray⟩)).setCell ⟨X,2,none⟩ (.bool true)):=h8.set 2 (.bool true) rfl;clear nx hrow l7 h7 h8;have kc:=cX _ b y2.2 ((w7.setCell ⟨X,3,none⟩ (.string ⟨y2.1.toArray⟩)).setCell ⟨X,2,none⟩ (.bool true)) h9.row
   go_wp2_with fail
   refine ag kc ?_;rintro x wE ⟨ho,hb⟩;have hE:=h9.to hb;have bE:=hE.bel;clear kc hb h9;replace HO:=HO.out;rw[dJ] at HO;generalize bN () y2.2=E at ho HO;rcases E with _|uu
   ·obtain⟨rfl,rfl⟩:x=Pn∧none=O:=⟨ho,HO⟩
    exact⟨rfl,rfl,bE⟩
   obtain⟨v,rfl,rfl⟩:=ho
   try simp only[aw] at HO
   replace HO:=hid HO;have m10:Lft [w.heap.size+1] wE.heap.size wE (wE.setRow (w.heap.size+1) #[.string ⟨t.1.toArray⟩,.bool y.1,.bool true,.string ⟨y2.1.toArray⟩]):=(Lft.refl wE).row _ _ (by simp);obtain⟨B10,N10⟩:=Cg (bE.trans (m10.below1 (B:=w.heap.size) (by omega) bE.size)) (setRow_heap wE (w.heap.size+1) _ #[.string ⟨t.1.toArray⟩,.bool y.1,.bool true,.string ⟨y2.1.toArray⟩] _ _ hE.res);have xE:=hE.own;have nE:=hE.res;clear m10 bE hE
   go_wp2_with (first|(refine bg rfl 83 (.tmp 4) rfl X 83 _ (0,0) (by rfl) xE _ Tryz.underlying83 rfl (by rfl) ?_)|(refine bh rfl 83 (.tmp 2) (.tmp 27) rfl (w.heap.size+1) 83 _ #[.string ⟨t.1.toArray⟩,.bool y.1,.bool true,.string ⟨y2.1.toArray⟩] (by rfl) (by rfl) nE (by rfl) (by rfl) (by simp[Value.oneCell']) ?_))
   have hO:=HO.out;subst hO;refine aH (v:=.agg #[.string ⟨t.1.toArray⟩,.bool y.1,.bool true,.string ⟨y2.1.toArray⟩]) ?_ rfl ⟨⟨_,rfl,rfl⟩,B10.out⟩;have hr:=aJ (P:=Tryz.prog) _ (w.heap.size+1) 83 83 #[.string ⟨t.1.toArray⟩,.bool y.1,.bool true,.string ⟨y2.1.toArray⟩] (0,0) _ N10.out (show Tryz.prog.underlying 83=_ from Tryz.underlying83) (by rfl) (by rfl)
   simp[results,Tryz.f119]
   exact hr
theorem nI{w:World}{o:Oper}{a:Act}{K:Act→World→Prop}{Q:Exit→Act→World→Prop}(s x:Operand)(ho:o.op=.call {callee:=.builtin .append,args:=#[s,x],argTypes:=#[30,30]})
  (B:Nat) (v:Value) (l:List Ct) (hs:a.eval s=v) (hown:dt kdC 83 B w v l) (e:Ct) (c:List Value) (b:Nat) (hx:a.eval x=.slice (some ⟨b,0,none⟩) 1 1) (hb:Hc w b c.toArray 83)
  (hke:kdC.R (fun g=>B≤g∧v.ownBlock≠some g) w e c) (hl:l.length≤1000000000) (hB:B≤w.heap.size)
  (h:∀a' c' w',dt kdC 83 B w' (.slice a' (l.length+1) c') (l++[e])→w.grownBy w' v.ownBlock→K (a.put o.dst (.slice a' (l.length+1) c')) w'):Oper.wp Tryz.prog o a w K Q:=by
 obtain⟨i0,hi0,hz0,hz1,hz2⟩:=info_parts Tryz.info5C;exact ii kdC 30 83 i0 _ 40 Tryz.underlying30 hi0 hz0 hz1 hz2 rfl (by decide) (by decide) s x ho B v l hs hown e c b hx hb hke hl hB h
structure LsQ (P:Nat→Prop) (w:World) (m:Mg) (l:Ls):Prop where
 filt:bM kdF P w m.filt l.filt
 sel:bM kdS P w m.sel l.sel
 mods:bM kdM P w m.mods l.mods
 attrs:bM kdA P w m.attrs l.attrs
theorem LsQ.keep{P Q:Nat→Prop}{w w':World}{m:Mg}{l:Ls}(h:LsQ P w m l)(hk:∀g,P g→g<w.heap.size→w'.heap[g]?=w.heap[g]?∧Q g):LsQ Q w' m l:=
 ⟨h.filt.kept hk (by decide),h.sel.kept hk (by decide),h.mods.kept hk (by decide),h.attrs.kept hk (by decide)⟩
structure TdS (w:World) (b b2 B:Nat) (m:Mg) (l:Ls) (rr:List El) (dn:List Ct) (r:List El) (v:Value) (wr:World):Prop where
 res:Hc wr (w.heap.size+1) (Mg.row {}) 32
 msg:Hc wr (w.heap.size+2) (Mg.row {m with ctl:=v}) 32
 own:dt kdC 83 B wr v dn
 ls:LsQ (fun g=>w.heap.size+3≤g∧g≠b∧g≠b2∧g<B) wr m l
 row:RowA (fun g=>w.heap.size+3≤g∧g≠b∧g≠b2∧g<B) b2 r wr
 row1:RowA (fun g=>w.heap.size+3≤g∧g≠b∧g≠b2∧g<B) b rr wr
 bel:Bw w wr
 lb:w.heap.size+3≤b
 lb2:b<b2
 lB:b2<B
 le:B≤wr.heap.size
theorem TdS.next{w wr wy:World}{b b2 B:Nat}{m:Mg}{l:Ls}{rr:List El}{dn:List Ct}{r:List El}{v:Value}(h:TdS w b b2 B m l rr dn r v wr)(k:Lft [b2] wr.heap.size wr wy)(r':List El)(hr:RowA (fun g=>w.heap.size+3≤g∧g≠b∧g≠b2∧g<B) b2 r' wy):TdS w b b2 B m l rr dn r' v wy:=by
 obtain⟨h1,h2,h3,h4,h5,h6,h7,h8,h9,h10,h11⟩:=h;refine⟨k.at h1 (by simp;omega),k.at h2 (by simp;omega),h3.keep fun j hj hl=>k.old hl (by simp;omega),h4.keep fun g hg hl=>⟨k.old hl (by simp;omega),hg⟩,hr,h6.keep k (by simp;omega) (fun g hg _=>by simp;omega),h7.trans (k.below1 (by omega) h7.size),h8,h9,h10,by have:=k.size;omega⟩
theorem TdS.lftn{w wr wy:World}{b b2 B:Nat}{m:Mg}{l:Ls}{rr:List El}{dn:List Ct}{r:List El}{v:Value}(h:TdS w b b2 B m l rr dn r v wr)(k:Lft [b2] wr.heap.size wr wy):Bw w wy:=h.bel.trans (k.below1 (by have:=h.lb;have:=h.lb2;omega) h.bel.size)
theorem TdS.to{w wr wy:World}{b b2 B:Nat}{m:Mg}{l:Ls}{rr:List El}{dn:List Ct}{r:List El}{v:Value}(h:TdS w b b2 B m l rr dn r v wr)(k:Bw wr wy):TdS w b b2 B m l rr dn r v wy:=
 ⟨bk k h.res,bk k h.msg,h.own.keep fun j _ hl=>k.block j hl,h.ls.keep fun g hg hl=>⟨k.block g hl,hg⟩,h.row.below k,h.row1.below k,h.bel.trans (k.mono h.bel.size),h.lb,h.lb2,h.lB,by have:=h.le;have:=k.size;omega⟩
theorem TdS.grown{w wr wy:World}{b b2 B:Nat}{m:Mg}{l:Ls}{rr:List El}{dn:List Ct}{r:List El}{v:Value}(h:TdS w b b2 B m l rr dn r v wr)(hg:wr.grownBy wy v.ownBlock):
  Hc wy (w.heap.size+2) (Mg.row {m with ctl:=v}) 32∧∀(v':Value) (dn':List Ct),dt kdC 83 B wy v' dn'→TdS w b b2 B m l rr dn' r v' (wy.setCell ⟨w.heap.size+2,27,none⟩ v'):=by
 obtain⟨h1,h2,h3,h4,h5,h6,h7,h8,h9,h10,h11⟩:=h;have hs:=h7.size;have hne:∀g,g<B→wy.heap[g]?=wr.heap[g]?:=fun g hg1=>hg.block g (by omega) fun he=>by have:=(h3.lt he.symm).1;omega
 have hp:Hc wy (w.heap.size+2) (Mg.row {m with ctl:=v}) 32:=(hne _ (by omega)).trans h2;have hsy:=hg.size;refine⟨hp,fun v' dn' ho=>?_⟩;have hk:Lft [w.heap.size+2] wy.heap.size wy (wy.setCell ⟨w.heap.size+2,27,none⟩ v'):=(Lft.refl wy).set _ _ _ (by simp);have r5:RowA (fun g=>w.heap.size+3≤g∧g≠b∧g≠b2∧g<B) b2 r wy:=by
  obtain⟨⟨u,e1,e2⟩,e3,e4,e5⟩:=h5;exact⟨⟨u,(hne _ (by omega)).trans e1,e2.kept fun g hg _=>⟨hne g hg.2.2.2,hg⟩⟩,e3,e4,e5⟩
 have r6:RowA (fun g=>w.heap.size+3≤g∧g≠b∧g≠b2∧g<B) b rr wy:=by
  obtain⟨⟨u,e1,e2⟩,e3,e4,e5⟩:=h6;exact⟨⟨u,(hne _ (by omega)).trans e1,e2.kept fun g hg _=>⟨hne g hg.2.2.2,hg⟩⟩,e3,e4,e5⟩
 have bl:Bw w wy:=⟨hg.os.trans h7.os,hg.tape.trans h7.tape,hg.output.trans h7.output,by omega,fun j hj=>(hne j (by omega)).trans (h7.block j hj)⟩;exact⟨hk.at ((hne _ (by omega)).trans h1) (by simp),cq (i:=27) (u:=v') hp,ho.keep fun j hj hl=>hk.old hl (by simp;omega),
  (h4.keep (w':=wy) (Q:=fun g=>w.heap.size+3≤g∧g≠b∧g≠b2∧g<B) fun g hg _=>⟨hne g hg.2.2.2,hg⟩).keep fun g hg hl=>⟨hk.old hl (by simp;omega),hg⟩,
  r5.keep hk (by simp;omega) (fun g hg _=>by simp;omega),r6.keep hk (by simp;omega) (fun g hg _=>by simp;omega),bl.trans (hk.below1 (by omega) bl.size),h8,h9,h10,by simp;omega⟩
theorem bM.one{α:Type}{kd:Kd α}{P:Nat→Prop}{w:World}{v:Value}{l:List α}(h:bM kd P w v l):v.oneCell'=true:=by
 obtain⟨a,c,rfl⟩:=h.shape
 rfl
theorem LsQ.one{P:Nat→Prop}{w:World}{m:Mg}{l:Ls}(h:LsQ P w m l):m.filt.oneCell'=true∧m.sel.oneCell'=true∧m.mods.oneCell'=true∧m.attrs.oneCell'=true:=⟨h.filt.one,h.sel.one,h.mods.one,h.attrs.one⟩
theorem LsL.one{B:Nat}{w:World}{m:Mg}{l:Ls}(h:LsL B w m l):m.ctl.oneCell'=true∧m.filt.oneCell'=true∧m.sel.oneCell'=true∧m.mods.oneCell'=true∧m.attrs.oneCell'=true:=⟨h.ctl.one,h.filt.one,h.sel.one,h.mods.one,h.attrs.one⟩
theorem LsL.keep{B:Nat}{w w':World}{m:Mg}{l:Ls}(h:LsL B w m l)(k:∀g,B≤g→g<w.heap.size→w'.heap[g]?=w.heap[g]?):LsL B w' m l:=by
 have hk:∀g,B≤g→g<w.heap.size→w'.heap[g]?=w.heap[g]?∧B≤g:=fun g hg hl=>⟨k g hg hl,hg⟩
 exact⟨h.filt.kept hk (by decide),h.sel.kept hk (by decide),h.mods.kept hk (by decide),h.attrs.kept hk (by decide),h.ctl.kept hk (by decide)⟩
theorem Mg.one(m:Mg)(h:m.ctl.oneCell'=true∧m.filt.oneCell'=true∧m.sel.oneCell'=true∧m.mods.oneCell'=true∧m.attrs.oneCell'=true):m.row.all (·.oneCell')=true:=by
 simp[Mg.row,h]
 and_intros<;>rfl
theorem LsL.mono{B B':Nat}{w:World}{m:Mg}{l:Ls}(h:LsL B w m l)(hB:B'≤B):LsL B' w m l:=by
 have hk:∀g,B≤g→g<w.heap.size→B'≤g:=fun g hg _=>by omega
 exact⟨h.filt.mono hk (by decide),h.sel.mono hk (by decide),h.mods.mono hk (by decide),h.attrs.mono hk (by decide),h.ctl.mono hk (by decide)⟩
theorem pi{α:Type}{kd:Kd α}{t:TypeId}{B:Nat}{w:World}{v:Value}{l:List α}(h:dt kd t B w v l):∃a c,v=.slice a l.length c:=h.lst.shape
theorem TdS.lists{w wr:World}{b b2 B:Nat}{m:Mg}{l:Ls}{rr:List El}{dn:List Ct}{r:List El}{v:Value}(h:TdS w b b2 B m l rr dn r v wr)(RW:Array Value):LsL w.heap.size (wr.setRow (w.heap.size+1) RW) {m with ctl:=v} {l with ctl:=dn}:=by
 have h1:=h.lb;have h2:=h.lb2;have h3:=h.lB;have m10:Lft [w.heap.size+1] wr.heap.size wr (wr.setRow (w.heap.size+1) RW):=(Lft.refl wr).row _ _ (by simp);have hk:∀g,(w.heap.size+3≤g∧g≠b∧g≠b2∧g<B)→g<wr.heap.size→(wr.setRow (w.heap.size+1) RW).heap[g]?=wr.heap[g]?∧w.heap.size≤g:=fun g hg hl=>⟨m10.old hl (by simp;omega),by omega⟩
 exact⟨h.ls.filt.kept hk (by decide),h.ls.sel.kept hk (by decide),h.ls.mods.kept hk (by decide),h.ls.attrs.kept hk (by decide),h.own.lst.kept (fun g hg hl=>⟨m10.old hl (by simp;omega),by omega⟩) (by decide)⟩
theorem rW(el:El)(u:Value)(w:World)(h:bf (fun _=>True) w u el.kids)(hs:SmE el)(hcn:ed el≤1000000000):
  Calls Tryz.prog 99 #[.agg (elA el u)] w fun e w'=>Out (dU el) (fun y v w'=>∃m:Mg,v=.agg m.row∧m.pl=y.1∧LsL w.heap.size w' m y.2) e w'∧Bw w w':=by
 obtain⟨a,c,hf⟩:=h.shape;subst hf;have b1:Bw w (((w.alloc (.cells (Er el a c) 40)).alloc (.cells Zm 32)).alloc (.cells Zm 32)):=(((aA _ _).alloc (ah _) _).alloc (by simp) _).alloc (by simp;omega) _;have r1:Hc (((w.alloc (.cells (Er el a c) 40)).alloc (.cells Zm 32)).alloc (.cells Zm 32)) w.heap.size (Er el a c) 40:=(alloc_old _ _ _ (by simp;omega)).trans ((alloc_old _ _ _ (by simp)).trans (fb _ _ _ rfl));have n1:Hc (((w.alloc (.cells (Er el a c) 40)).alloc (.cells Zm 32)).alloc (.cells Zm 32)) (w.heap.size+1) (Mg.row {}) 32:=(alloc_old _ _ _ (by simp)).trans (fb _ _ _ (by simp));have m1:Hc (((w.alloc (.cells (Er el a c) 40)).alloc (.cells Zm 32)).alloc (.cells Zm 32)) (w.heap.size+2) (Mg.row {}) 32:=fb _ _ _ (by simp);have kc:=dk el _ 0 16 (((w.alloc (.cells (Er el a c) 40)).alloc (.cells Zm 32)).alloc (.cells Zm 32)) (h.below b1) hs;generalize hO:dU el=O;simp only[dU,bS] at hO;have HO:=hid hO;clear hO;unfold elA at kc⊢;clear h hs
 go_enter Tryz.func99,Tryz.ntmps99
 go_upto_region 2 with fail
 generalize(((w.alloc (.cells (Er el a c) 40)).alloc (.cells Zm 32)).alloc (.cells Zm 32))=w1 at b1 r1 n1 m1 kc⊢;have hn1:=(gl m1)
 go_wp2_with (refine ldE (.tmp 1) r1 rfl ?_)
 refine ag kc ?_;rintro x w2 ⟨ho,hb⟩;have b2:=btt b1 hb;have n2:=bk hb n1;have m2:=bk hb m1;have hs12:=hb.size;clear kc hb r1 n1 m1 b1;replace HO:=HO.out;generalize e1:ci el 0 16=E at ho HO;rcases E with _|ks
 ·obtain⟨rfl,rfl⟩:x=Pn∧none=O:=⟨ho,HO⟩
  exact⟨rfl,rfl,b2⟩
 obtain⟨v,rfl,b,rfl,hbge,hrow⟩:=ho
 try simp only[ai] at HO
 replace HO:=hid HO;have hck:dL ks≤1000000000:=Nat.le_trans (ji e1) hcn;clear e1 hcn;have kc:=fd _ b ks 2 w2 hrow
 go_wp2_with fail
 refine ag kc ?_;rintro x w3 ⟨ho,hb⟩;have b3:=b2.trans (hb.below1 (B:=w.heap.size) (by omega) b2.size);have n3:=hb.at n2 (by simp;omega);have m3:=hb.at m2 (by simp;omega);have hs23:=hb.size;clear kc hb n2 m2 b2 hrow;replace HO:=HO.out;generalize e1:eR 2 ks=E at ho HO;rcases E with _|n
 ·obtain⟨rfl,rfl⟩:x=Pn∧none=O:=⟨ho,HO⟩
  exact⟨rfl,rfl,b3⟩
 obtain⟨v,rfl,rfl,hrow⟩:=ho
 try simp only[ai] at HO
 replace HO:=hid HO;have hck:dL n.2≤1000000000:=Nat.le_trans (fw (A7 (g:=fun e=>fW e 0 2) e1).2) hck;clear e1;have q3:=cval m3 0 I0;have z3:=aj m3 0;have t4:Lft [w.heap.size+2] w3.heap.size w3 (w3.setCell ⟨w.heap.size+2,0,none⟩ (.int .i64 n.1)):=(Lft.refl _).set _ _ _ (by simp);have m4:Hc (w3.setCell ⟨w.heap.size+2,0,none⟩ (.int .i64 n.1)) (w.heap.size+2) (Mg.row {id:=n.1}) 32:=cq (i:=0) (u:=.int .i64 n.1) m3;have n4:=t4.at n3 (by simp);have b4:=b3.trans (t4.below1 (B:=w.heap.size) (by omega) b3.size);have row4:=hrow.keep t4 (by simp;omega) (fun g hg _=>by simp;omega);have hs34:=t4.size;clear hrow n3 m3 b3 t4;have kc:=cG _ b n.2 (w3.setCell ⟨w.heap.size+2,0,none⟩ (.int .i64 n.1)) row4
 go_wp2_with fail
 refine ag kc ?_;rintro x w5 ⟨ho,hb⟩;have b5:=b4.trans (hb.below1 (B:=w.heap.size) (by omega) b4.size);have n5:=hb.at n4 (by simp;omega);have m5:=hb.at m4 (by simp;omega);have hs45:=hb.size;clear kc hb n4 m4 b4 row4 q3 z3;replace HO:=HO.out;generalize e1:ch n.2=E at ho HO;rcases E with _|q
 ·obtain⟨rfl,rfl⟩:x=Pn∧none=O:=⟨ho,HO⟩
  exact⟨rfl,rfl,b5⟩
 obtain⟨v,rfl,u5,rfl,hse,hu,hrow⟩:=ho
 try simp only[ai] at HO
 replace HO:=hid HO;have hcq:ed q.1≤1000000000:=by
  rw[oq e1] at hck;simp only[dL] at hck
  omega
 clear e1 hck;obtain⟨a5,c5,hf5⟩:=hu.shape;subst hf5;have kc:=rV _ q.1 _ n.1 (w.heap.size+2) w5 m5 hu hse (fun g hg=>by omega) hcq
 go_wp2_with fail
 refine ag kc ?_;rintro x w6 ⟨ho,hb⟩;have b6:=b5.trans (hb.below1 (B:=w.heap.size) (by omega) b5.size);have n6:=hb.at n5 (by simp);have row6:=hrow.keep hb (by simp;omega) (fun g hg _=>by simp;omega);have hs56:=hb.size;have hb5:=hrow.lt;clear kc hb n5 m5 b5 hu hse hrow hcq;replace HO:=HO.out;generalize oOp n.1 q.1=E at ho HO;rcases E with _|y
 ·obtain⟨rfl,rfl⟩:x=Pn∧none=O:=⟨ho,HO⟩
  exact⟨rfl,rfl,b6⟩
 obtain⟨v,rfl,rfl,hmo⟩:=ho
 try simp only[ai,aw] at HO
 replace HO:=hid HO;have kc:=iq _ b q.2 2 0 w6 row6;obtain⟨B,hB⟩:=nmm (da 2 0 q.2);have hO:=HO.out;clear HO;rw[hB] at kc hO;have HO:=hid hO;clear hO hB
 go_wp2_with fail
 refine ag kc ?_;rintro x w7 ⟨rfl,hb⟩;have b7:=btt b6 hb;have n7:=bk hb n6;have row7:=row6.below hb;have mo7:=hmo.to (X:=[]) (.of hb) (by simp) (by simp);have hs67:=hb.size;clear kc hb b6 n6 row6 hmo;cases B with
 |false=>
  have hO:=HO.out;clear HO;rw[if_neg (by simp)] at hO;have HO:=hid hO;clear hO;have kc:=cX _ b q.2 w7 row7
  go_wp2_with fail
  refine ag kc ?_;rintro x w8 ⟨ho,hb⟩;have b8:=btt b7 hb;have n8:=bk hb n7;have mo8:=mo7.to (X:=[]) (.of hb) (by simp) (by simp);have hs78:=hb.size;clear kc hb b7 n7 row7 mo7;replace HO:=HO.out;rw[dJ] at HO;generalize bN () q.2=E at ho HO;rcases E with _|uu
  ·obtain⟨rfl,rfl⟩:x=Pn∧none=O:=⟨ho,HO⟩
   exact⟨rfl,rfl,b8⟩
  obtain⟨v,rfl,rfl⟩:=ho
  try simp only[aw] at HO
  replace HO:=hid HO;obtain⟨m,hm,hpl,hls,hctl⟩:=mo8;have one27:m.ctl.oneCell'=true∧m.filt.oneCell'=true∧m.sel.oneCell'=true∧m.mods.oneCell'=true∧m.attrs.oneCell'=true:=LsL.one hls;have hO:=HO.out;clear HO;have HO:=hid (show some (m.pl,y.2)=O by rw[hpl];exact hO);clear hO hpl;obtain⟨RW,hRW⟩:=nmm (Mg.row m);have hR1:RW.size=28:=by rw[←hRW];rfl
  have hR2:RW.all (·.oneCell')=true:=by rw[←hRW];exact Mg.one _ one27
  have m9:=hm;rw[hRW] at m9;have m10:Lft [w.heap.size+1] w8.heap.size w8 (w8.setRow (w.heap.size+1) RW):=(Lft.refl w8).row _ _ (by simp);obtain⟨B10,N10⟩:=Cg (b8.trans (m10.below1 (B:=w.heap.size) (by omega) b8.size)) (setRow_heap w8 (w.heap.size+1) _ RW _ _ n8);have l10:LsL w.heap.size (w8.setRow (w.heap.size+1) RW) m y.2:=((hls.keep (w':=w8.setRow (w.heap.size+1) RW) (fun g hg hl=>setRow_other _ _ g RW (by omega))).mono (by omega));have L10:=hid l10;clear l10;obtain⟨xE,nE,HRW,HR1,HR2⟩:=Cj m9 n8 hRW hR1 hR2;clear m10 b8 m9 n8 hRW hR1 hR2
  go_wp2_with (first|(refine ldM (.tmp 3) xE.out HR1.out ?_)|(refine stM (.tmp 2) (.tmp 35) RW nE.out HR1.out HR2.out ?_))
  have hO:=HO.out;subst hO;refine aH (v:=.agg RW) ?_ rfl ⟨⟨_,rfl,_,by rw[HRW.out],rfl,L10.out⟩,B10.out⟩;have hr:=rlM N10.out HR1.out
  simp[results,Tryz.f99]
  exact hr
 |true=>
  have hO:=HO.out;clear HO;rw[if_pos rfl] at hO;have HO:=hid hO;clear hO;have kc:=cG _ b q.2 w7 row7
  go_wp2_with fail
  refine ag kc ?_;rintro x w8 ⟨ho,hb⟩;have b8:=b7.trans (hb.below1 (B:=w.heap.size) (by omega) b7.size);have n8:=hb.at n7 (by simp;omega);have mo8:=mo7.to hb (by simp;omega) (by simp;omega);have hs78:=hb.size;clear kc hb b7 n7 row7 mo7;replace HO:=HO.out;generalize ch q.2=E at ho HO;rcases E with _|rq
  ·obtain⟨rfl,rfl⟩:x=Pn∧none=O:=⟨ho,HO⟩
   exact⟨rfl,rfl,b8⟩
  obtain⟨v,rfl,u6,rfl,hse,hu,hrow⟩:=ho
  try simp only[ai] at HO
  replace HO:=hid HO;obtain⟨a6,c6,hf6⟩:=hu.shape;subst hf6;have kc:=dk rq.1 _ 2 0 w8 (hu.mono fun _ _ _=>trivial) hse
  go_wp2_with fail
  refine ag kc ?_;rintro x w9 ⟨ho,hb⟩;have b9:=btt b8 hb;have n9:=bk hb n8;have mo9:=mo8.to (X:=[]) (.of hb) (by simp) (by simp);have row9:=hrow.shut.below hb;have hs89:=hb.size;have hbk:=hb;clear kc hb b8 n8 hrow hu hse;replace HO:=HO.out;generalize ci rq.1 2 0=E at ho HO;rcases E with _|ks2
  ·obtain⟨rfl,rfl⟩:x=Pn∧none=O:=⟨ho,HO⟩
   exact⟨rfl,rfl,b9⟩
  obtain⟨v,rfl,b2,rfl,hb2ge,hrow2⟩:=ho
  try simp only[ai] at HO
  replace HO:=hid HO;have hb8:b<w8.heap.size:=by omega
  have hb29:=hrow2.lt;obtain⟨m,hm,hpl,hls,hctl⟩:=mo8;obtain⟨m9,hm9⟩:=nmm w9.heap.size;have hmm:=bk hbk hm;have hls9:LsQ (fun g=>w.heap.size+3≤g∧g≠b∧g≠b2∧g<w9.heap.size) w9 m y.2:=by
   have hk:∀g,w5.heap.size≤g→g<w8.heap.size→w9.heap[g]?=w8.heap[g]?∧(w.heap.size+3≤g∧g≠b∧g≠b2∧g<w9.heap.size):=fun g hg hl=>⟨hbk.block g hl,by omega,by omega,by omega,by omega⟩
   exact⟨hls.filt.kept hk (by decide),hls.sel.kept hk (by decide),hls.mods.kept hk (by decide),hls.attrs.kept hk (by decide)⟩
  have hO:=HO.out;clear HO mo9;have hkl:ks2.length≤1000000000:=hrow2.len;obtain⟨F,hF⟩:∃F:List Ct→Option (Mg×Ls),F=fun c=>bN (y.1,{y.2 with ctl:=c}) rq.2:=⟨_,rfl⟩
  have hO:(ev AR ks2).bind (fun a=>F ([]++a))=O:=by
   rw[←hO,hF];cases ev AR ks2<;>rfl
  have hst:TdS w b b2 w9.heap.size m y.2 rq.2 [] ks2 (Sn) w9:=⟨n9,by rw[←hctl];exact hmm,dt.nil _ _ _ _,hls9,hrow2.shut.mono (fun g hg=>⟨by omega,by omega,hg.1.2,hg.2⟩) (fun g hg=>hg.2.2.1),row9.mono (fun g hg=>⟨by omega,hg.1.2,by omega,by omega⟩) (fun g hg=>hg.2.1),b9,by omega,by omega,hb29,ah _⟩;clear n9 hmm hls9 hrow2 row9 b9 hm hls hbk;obtain⟨HST,HO,HF,HPL⟩:=Ci hst hO hF hpl;clear hst hO hF hpl hctl;rw[hm9] at HST;clear hm9
  go_wp2_with fail
  go_loopw [] (fun wr=>∃dn r v,dn.length+r.length≤1000000000∧TdS w b b2 m9 m y.2 rq.2 dn r v wr∧(ev AR r).bind (fun a=>F (dn++a))=O) (fun wr=>rowN b2 wr)
  case atStart=>exact⟨[],ks2,_,by simpa using hkl,HST.out,HO.out⟩
  case round=>
   clear HST HO hkl;obtain⟨dn,r,v,hdl,hst,hO⟩:=hrel;obtain⟨ar,cr,qb⟩:=hst.row.cell;have hrN:=hid hst.row.rowN;obtain⟨av,cv,hsv⟩:=pi hst.own;subst hsv;have HST:=hid hst;have hszr:=hst.le;have hlb:=hst.lb;have hlb2:=hst.lb2;have hlB:=hst.lB;clear hst;cases r with
   |nil=>
    simp only[aU] at qb;simp only[ev,ai,List.append_nil] at hO;have hO:bN (y.1,({y.2 with ctl:=dn}:Ls)) rq.2=O:=by rw[←hO,HF.out]
    have HO:=hid hO;clear hO;have kc:=cX _ b rq.2 wr HST.out.row1
    go_wp2_with fail
    refine ag kc ?_;rintro x w10 ⟨ho,hb⟩;have S10:=HST.out.to hb;have b10:=S10.bel;have n10:=S10.res;clear kc hb HST hrN qb;replace HO:=HO.out;rw[dJ] at HO;generalize bN () rq.2=E at ho HO;rcases E with _|uu
    ·obtain⟨rfl,rfl⟩:x=Pn∧none=O:=⟨ho,HO⟩
     exact⟨rfl,rfl,b10⟩
    obtain⟨v,rfl,rfl⟩:=ho
    try simp only[aw] at HO
    replace HO:=hid HO;have one27:(Value.slice av dn.length cv).oneCell'=true∧m.filt.oneCell'=true∧m.sel.oneCell'=true∧m.mods.oneCell'=true∧m.attrs.oneCell'=true:=⟨rfl,LsQ.one S10.ls⟩;have hO:=HO.out;clear HO;have HO:=hid (show some (({m with ctl:=.slice av dn.length cv}:Mg).pl,({y.2 with ctl:=dn}:Ls))=O by rw[←hO];simp only[←HPL.out];rfl);clear hO;obtain⟨RW,hRW⟩:=nmm (Mg.row ({m with ctl:=.slice av dn.length cv}:Mg));have hR1:RW.size=28:=by rw[←hRW];rfl
    have hR2:RW.all (·.oneCell')=true:=by rw[←hRW];exact Mg.one _ one27
    have m9:=S10.msg;rw[hRW] at m9;have m10:Lft [w.heap.size+1] w10.heap.size w10 (w10.setRow (w.heap.size+1) RW):=(Lft.refl w10).row _ _ (by simp);obtain⟨B10,N10⟩:=Cg (b10.trans (m10.below1 (B:=w.heap.size) (by omega) b10.size)) (setRow_heap w10 (w.heap.size+1) _ RW _ _ n10);have l10:LsL w.heap.size (w10.setRow (w.heap.size+1) RW) ({m with ctl:=.slice av dn.length cv}:Mg) ({y.2 with ctl:=dn}:Ls):=(TdS.lists S10 RW);have L10:=hid l10;clear l10;obtain⟨xE,nE,HRW,HR1,HR2⟩:=Cj m9 n10 hRW hR1 hR2;clear m10 b10 m9 n10 hRW hR1 hR2
    go_wp2_with (first|(refine ldM (.tmp 3) xE.out HR1.out ?_)|(refine stM (.tmp 2) (.tmp 35) RW nE.out HR1.out HR2.out ?_))
    have hO:=HO.out;subst hO;refine aH (v:=.agg RW) ?_ rfl ⟨⟨_,rfl,_,by rw[HRW.out],rfl,L10.out⟩,B10.out⟩;have hr:=rlM N10.out HR1.out
    simp[results,Tryz.f99]
    exact hr
   |cons e t=>
    simp only[aG] at qb;have i1:decide ((0:Int)<(t.length:Int)+1)=true:=aC (by omega);have HO:=hid hO;clear hO
    go_upto_region 8 with fail
    refine aR (S:=fun _=>True) (by kernel_rfl) ?_;have S4:=hid (HST.out.to (wy:=wr.drew) ((aA _ _).drew))
    change wpAnyH _ _ _ _ _ _ _ _ wr.drew
    clear HST qb;generalize wr.drew=w4 at S4⊢;refine tp 0 ⟨w.heap.size+2,27,none⟩ rfl trivial ?_;refine tp 2 ⟨b2,0,none⟩ rfl trivial ?_;have kc:=cG _ b2 (e::t) w4 S4.out.row;have qu:=cval S4.out.msg 27 (.slice av dn.length cv);have hal1:dn.length≤1000000000:=by omega
    refine fq 1 3 (by kernel_rfl) rfl (by rfl) rfl (by rfl) (fun K hK=>?P1) (fun K hK=>?P2)
    case' P1=>
     go_simp;refine hK _ _ trivial ?_;clear hK K
     refine ao 3 rfl (fun K hK=>?_);go_simp;go_wp2_with fail
     refine ag kc ?_;rintro x w5 ⟨ho,hb⟩;obtain⟨v5,rfl,u5,rfl,hse,hu,hrow⟩:=ho;obtain⟨a5,c5,hf5⟩:=hu.shape;subst hf5;have S5:=hid (S4.out.next hb _ hrow);have kc:=iW e _ w5 (hu.mono fun _ _ _=>trivial) hse;have qu5:=cval S5.out.msg 27 (.slice av dn.length cv);clear hb hrow hu hse S4 qu;refine hK _ _ trivial ?_;clear hK K
     refine ao 4 rfl (fun K hK=>?_);go_simp;go_wp2_with fail
     refine ag kc ?_;rintro x w6 ⟨ho,hb⟩;have S6:=S5.out.to hb;have b6:=S6.bel;have hO:=HO.out;clear HO kc;simp only[ev] at hO;obtain⟨oc,hE⟩:=nmm (AR e);rw[hE] at ho hO;cases oc
     case' none=>
      have hx:x=Pn:=ho;subst hx;simp only[be] at hO;subst hO;exact⟨rfl,rfl,b6⟩
     rename_i z
     obtain⟨v6,rfl,rfl⟩:=ho;simp only[ai] at hO;have HO:=hid hO;have qu6:=cval S6.msg 27 (.slice av dn.length cv);have m7:=alb w6 #[.string ⟨z.oid.toArray⟩,.bool z.crit,.bool z.has,.string ⟨z.value.toArray⟩] 83;have x7:=alz w6 #[.string ⟨z.oid.toArray⟩,.bool z.crit,.bool z.has,.string ⟨z.value.toArray⟩] 83;have S7:=S6.to m7;have hs7:=S7.le;have qu7:(w6.alloc (.cells #[.string ⟨z.oid.toArray⟩,.bool z.crit,.bool z.has,.string ⟨z.value.toArray⟩] 83)).cell? ⟨w.heap.size+2,27,none⟩=some (.slice av dn.length cv):=(aq S7.msg 27).trans rfl;obtain⟨X7,S7⟩:=Cg x7 S7;clear hb S6 b6 hO hE m7 x7 S5 qu5;refine hK _ _ trivial ?_;clear hK K
     refine ao 5 rfl (kks trivial ?_)
    case' P2=>
     go_simp;go_wp2_with fail
     refine ag kc ?_;rintro x w5 ⟨ho,hb⟩;obtain⟨v5,rfl,u5,rfl,hse,hu,hrow⟩:=ho;obtain⟨a5,c5,hf5⟩:=hu.shape;subst hf5;have S5:=hid (S4.out.next hb _ hrow);have kc:=iW e _ w5 (hu.mono fun _ _ _=>trivial) hse;have qu5:=cval S5.out.msg 27 (.slice av dn.length cv);clear hb hrow hu hse S4 qu;refine hK _ _ trivial ?_;clear hK K
     refine fq 1 4 (by kernel_rfl) rfl (by rfl) rfl (by rfl) (fun K hK=>?P3) (fun K hK=>?P4)
     case' P3=>
      go_simp;refine hK _ _ trivial ?_;clear hK K
      refine ao 4 rfl (fun K hK=>?_);go_simp;go_wp2_with fail
      refine ag kc ?_;rintro x w6 ⟨ho,hb⟩;have S6:=S5.out.to hb;have b6:=S6.bel;have hO:=HO.out;clear HO kc;simp only[ev] at hO;obtain⟨oc,hE⟩:=nmm (AR e);rw[hE] at ho hO;cases oc
      case' none=>
       have hx:x=Pn:=ho;subst hx;simp only[be] at hO;subst hO;exact⟨rfl,rfl,b6⟩
      rename_i z
      obtain⟨v6,rfl,rfl⟩:=ho;simp only[ai] at hO;have HO:=hid hO;have qu6:=cval S6.msg 27 (.slice av dn.length cv);have m7:=alb w6 #[.string ⟨z.oid.toArray⟩,.bool z.crit,.bool z.has,.string ⟨z.value.toArray⟩] 83;have x7:=alz w6 #[.string ⟨z.oid.toArray⟩,.bool z.crit,.bool z.has,.string ⟨z.value.toArray⟩] 83;have S7:=S6.to m7;have hs7:=S7.le;have qu7:(w6.alloc (.cells #[.string ⟨z.oid.toArray⟩,.bool z.crit,.bool z.has,.string ⟨z.value.toArray⟩] 83)).cell? ⟨w.heap.size+2,27,none⟩=some (.slice av dn.length cv):=(aq S7.msg 27).trans rfl;obtain⟨X7,S7⟩:=Cg x7 S7;clear hb S6 b6 hO hE m7 x7 S5 qu5;refine hK _ _ trivial ?_;clear hK K
      refine ao 5 rfl (kks trivial ?_)
     case' P4=>
      go_simp;go_wp2_with fail
      refine ag kc ?_;rintro x w6 ⟨ho,hb⟩;have S6:=S5.out.to hb;have b6:=S6.bel;have hO:=HO.out;clear HO kc;simp only[ev] at hO;obtain⟨oc,hE⟩:=nmm (AR e);rw[hE] at ho hO;cases oc
      case' none=>
       have hx:x=Pn:=ho;subst hx;simp only[be] at hO;subst hO;exact⟨rfl,rfl,b6⟩
      rename_i z
      obtain⟨v6,rfl,rfl⟩:=ho;simp only[ai] at hO;have HO:=hid hO;have qu6:=cval S6.msg 27 (.slice av dn.length cv);have m7:=alb w6 #[.string ⟨z.oid.toArray⟩,.bool z.crit,.bool z.has,.string ⟨z.value.toArray⟩] 83;have x7:=alz w6 #[.string ⟨z.oid.toArray⟩,.bool z.crit,.bool z.has,.string ⟨z.value.toArray⟩] 83;have S7:=S6.to m7;have hs7:=S7.le;have qu7:(w6.alloc (.cells #[.string ⟨z.oid.toArray⟩,.bool z.crit,.bool z.has,.string ⟨z.value.toArray⟩] 83)).cell? ⟨w.heap.size+2,27,none⟩=some (.slice av dn.length cv):=(aq S7.msg 27).trans rfl;obtain⟨X7,S7⟩:=Cg x7 S7;clear hb S6 b6 hO hE m7 x7 S5 qu5;refine hK _ _ trivial ?_;clear hK K
      refine fq 1 5 (by kernel_rfl) rfl (by rfl) rfl (by rfl) (fun K hK=>?P5) (fun K hK=>?P6)
      case' P5=>
       go_simp;refine hK _ _ trivial ?_;clear hK K
       refine ao 5 rfl (kks trivial ?_)
      case' P6=>
       go_simp;refine hK _ _ trivial ?_;clear hK K
       refine ao 1 rfl (kks trivial ?_)
    all_goals
     clear qu6;generalize(w6.alloc (.cells #[.string ⟨z.oid.toArray⟩,.bool z.crit,.bool z.has,.string ⟨z.value.toArray⟩] 83))=w7 at X7 S7 qu7 hs7⊢;refine ao 6 rfl (fun K hK=>?_);refine nI _ _ (by rfl) m9 (.slice av dn.length cv) dn (by rfl) S7.out.own z [.string ⟨z.oid.toArray⟩,.bool z.crit,.bool z.has,.string ⟨z.value.toArray⟩] w6.heap.size (by rfl) X7.out rfl hal1 hs7 ?_;intro a' c' w8 ho8 hg8;have hp8:=(S7.out.grown hg8).1;have S9:=hid ((S7.out.grown hg8).2 _ _ ho8);have q8:=cval hp8 27 (.slice av dn.length cv);have z8:=aj hp8 27;clear S7 X7 hp8 ho8 hg8 qu7;refine hK _ _ trivial ?_;clear hK K
     refine ao 7 rfl (kks trivial ?_);refine ao 8 rfl (kks trivial ?_);refine xk (by kernel_rfl) ?_ _;simp only[Exit.inBlock];refine⟨?_,?_⟩
     ·(repeat apply Exists.intro)
      refine⟨⟨dn++[z],t,_,by simp at hdl⊢;omega,by simpa using S9.out,?_⟩,rfl⟩;have hO:=HO.out;rw[←hO];cases ev AR t<;>simp
     ·have h1:=hrN.out
      have h2:=S9.out.row.rowN;simp only[aG] at h1;have h3:rowN b2 (w8.setCell ⟨w.heap.size+2,27,none⟩ (.slice a' (dn.length+1) c'))<rowN b2 wr:=by omega
      exact h3
end Go.Proofs.YtfhghdcbofbceaaGreatDoor
