/- CoM, CoN, CoO, LawCt, OpenMsg. -/
import Derived.Deep.SlicePairs
import Derived.Deep.Strs
import Derived.Lib.SmallJoins
import Derived.Test.YthpcpdplcicfoaaGreatDoorV23
namespace Go.Proofs.YthpcpdplcicfoaaGreatDoor
open Go.RowKit Go.Lib
open Go.Shelf Go.ChangeShapes Go.WideShapes Go.ChangeAt Go.RowKit Go.Lib
set_option maxRecDepth 100000
set_option maxHeartbeats 16000000
theorem iM(P X:Nat→Prop)(C:Nat)(s:Cs)(w:World)(h:dc P X C s w):Cr 16 #[.pointer (some ⟨C,0,none⟩)] w (.bool s.cl):=by
 obtain⟨c8,-⟩:=h.cells;obtain⟨cl,hcl⟩:=nmm s.cl;rw[hcl] at c8⊢;clear h hcl
 go_enter Tryz.func16,Tryz.ntmps16
 go_wp2_with fail
 go_ret
 exact⟨rfl,aA _ _⟩
theorem CM(C:Nat)(w:World):Cr 31 #[.pointer (some ⟨C,0,none⟩)] w (.int .i64 16):=by
 go_enter Tryz.func31,Tryz.ntmps31
 go_wp2_with fail
 go_ret
 exact⟨rfl,aA _ _⟩
theorem xr(P X:Nat→Prop)(C:Nat)(s:Cs)(c:Int×Int)(w:World)(h:dc P X C s w)(hc:s.cur=some c):Cr 30 #[.pointer (some ⟨C,0,none⟩)] w (.int .i64 c.1):=by
 obtain⟨wv,iv,cv,bp,bv,Ms,h⟩:=h;obtain⟨c0,c1,c2,c3,c8⟩:=dM h.row;have hcu:=h.b.cu;rw[hc] at hcu;obtain⟨F,D,rfl,_,hF,h0,_⟩:=hcu;have q0:=(aq hF 0).trans h0;clear h hF c0 c1 c2 c8
 go_enter Tryz.func30,Tryz.ntmps30
 go_wp2_with fail
 go_ret
 exact⟨rfl,aA _ _⟩
theorem Tryz.infoInt:(Tryz.prog.info? 3).map (fun i=>(i.zero,i.size,i.bytes))=some (some (I0),1,8):=by kernel_rfl
def Dz(w:World)(ids:List Int)(v i:Value)(wr:World):Prop:=∃j:Nat,j≤ids.length∧i=.int .i64 (j:Int)∧wr.ownsRow w.heap.size 3 1 v j ((ids.map (Value.int .i64)).take j)∧Below w.heap.size w wr
theorem lY(P X:Nat→Prop)(C:Nat)(s:Cs)(w:World)(h:dc P X C s w)(hlen:s.ms.length≤1000):
  Calls Tryz.prog 20 #[.pointer (some ⟨C,0,none⟩)] w fun e w'=>(∃v,e=.returned v∧w'.ownsRow w.heap.size 3 1 v s.ids.length (s.ids.map (Value.int .i64)))∧Below w.heap.size w w':=by
 obtain⟨i0,hi0,hz0,hz1,hz2⟩:=info_parts Tryz.infoInt;obtain⟨wv,iv,cv,bp,bv,Ms,h⟩:=h;obtain⟨c0,c1,c2,c3,c8⟩:=dM h.row;obtain⟨ids,hI⟩:∃ids,s.ids=ids:=⟨_,rfl⟩;obtain⟨n,hn⟩:=nmm s.ms.length;have hil:ids.length=n:=by rw[←hI,←hn];exact List.length_map _
 have hown:=h.b.own;rw[hn] at hown hlen;obtain⟨av,cap,rfl⟩:∃a cap,wv=.slice a n cap:=by
  rcases hown.2 with⟨hv,h0⟩|⟨g,cap,x,hv,_⟩
  ·exact⟨none,0,by rw[hv,h0]⟩
  ·exact⟨_,cap,hv⟩
 rw[hI];obtain⟨HO,HM,HI,HLN⟩:=Ci hown h.b.msg hI hil;clear h c0 c2 c3 c8 hown hI hn hil
 go_enter Tryz.func20,Tryz.ntmps20
 go_wp2_with fail
 go_loopw [3,13] (fun v i wr=>Dz w ids v i wr) (fun _ i _=>n -(RowKit.intOf i).toNat)
 case atStart=>exact⟨0,Nat.zero_le _,rfl,World.ownsRow_nil _ _ _ _,aA _ _⟩
 case round=>
  obtain⟨j,hj,rfl,hrow,hbe⟩:=hrel;rw[HLN.out] at hj;have hsz:=hbe.size
  by_cases hlt:j<n
  ·have g1:decide ((j:Int)<(n:Int))=true:=aC (by omega)
   obtain⟨g,cap',e0,_⟩:=HO.out.form (by omega)
   injection e0 with ea _ ec
   subst ea;subst ec
   have hjm:j<s.ms.length:=by have h1:=HI.out;have h2:=HLN.out;rw[←h1] at h2;simp only[Cs.ids,List.length_map] at h2;omega
   obtain⟨y,hy⟩:∃y,s.ms[j]?=some y:=⟨_,aM hjm⟩;obtain⟨m,hMi,hpl,hls⟩:=HM.out.get hy;have hkey:ids[j]?=some y.1.id:=by rw[←HI.out];show(s.ms.map (·.1.id))[j]?=_;rw[List.getElem?_map,hy];rfl
   have hown:wr.ownsRow 0 33 28 (.slice (some ⟨g,0,none⟩) n cap) n (cC Ms):=gM HO.out fun b hb=>hbe.block b (HO.out.lt b hb).2
   have hrng:wr.rangeAt g (j*28) m.row.toList:=fun i v hi=>by
    have hil:i<28:=(List.getElem?_eq_some_iff.1 hi).1;have hc:=hown.cells (g:=g) rfl (j*28+i) v (by rw[ie Ms j i m hMi hil];exact hi);rw[show(⟨g,0,none⟩:Addr).add (j*28+i)=⟨g,j*28+i,none⟩ by simp[Addr.add_lit]] at hc;exact hc
   have htk:(ids.map (Value.int .i64)).take (j+1)=(ids.map (Value.int .i64)).take j++[.int .i64 y.1.id]:=by rw[List.take_add_one,List.getElem?_map,hkey];rfl
   obtain⟨D,hD⟩:=nmm m.row;have hD1:D.all (·.oneCell')=true:=by rw[←hD];exact hls.one
   have hD2:D.size=28:=by rw[←hD];rfl
   have hD0:D[0]?=some (.int .i64 y.1.id):=by rw[←hD,←hpl];rfl
   rw[hD] at hrng;have y2:=alz wr Zm 33;have e2:=setRow_heap (wr.alloc (.cells Zm 33)) wr.heap.size _ D _ _ y2;have g2:Below wr.heap.size wr ((wr.alloc (.cells Zm 33)).setRow wr.heap.size D):=bm ((aA _ _).alloc (ah _) _) (ah _) D;have hrow2:=ge hrow g2;have b2:=cM hbe g2;obtain⟨Y2,E2,HR2,B2,HD0,HD1,HD2,HTK,HRN⟩:=CE y2 e2 hrow2 b2 hD0 hD1 hD2 htk hrng;have hk1:((j:Int)<(n:Int)):=by omega
   clear hD hD1 hD2 hD0 hpl hls hMi hy hjm hown htk hkey hrng y2 e2 g2 hrow2 b2 hrow hbe
   go_wp2_with (first
    |(refine wpList_load_mid rfl 33 (.tmp 15) rfl g (j*28) (by rfl) D.toList _ HRN.out Tryz.underlying33 rfl (by rw[Array.length_toList,HD2.out];rfl) ?_;rw[Array.toArray_toList])
    |(refine bh rfl 33 (.tmp 5) (.tmp 16) rfl wr.heap.size 33 Zm D (by rfl) (by rfl) Y2.out (by rw[HD2.out];rfl) (by rw[HD2.out];rfl) HD1.out ?_;generalize((wr.alloc (.cells Zm 33)).setRow wr.heap.size D)=w2 at E2 HR2 B2⊢;clear Y2;have q0:w2.cell? ⟨wr.heap.size,0,none⟩=some (.int .i64 y.1.id):=(aq E2.out 0).trans HD0.out;have hsz2:=B2.out.size;have hr2:=HR2.out)
    |(at_builtin;refine wpList_append_own _ rfl (.tmp 17) (.tmp 20) 47 rfl w.heap.size 3 i0 _ 1 8 Tryz.underlying47 hi0 hz0 hz1 hz2 rfl (by decide) _ _ _ rfl (hr2.alloc _) ⟨w2.heap.size,0,none⟩ 1 1 [.int .i64 y.1.id] rfl rfl (cell_one_new _ _ _) ?d2 ?d3 ?d4 ?d5 ?_))
   case d2=>first|rfl|(intro u hu;simp at hu;subst hu;rfl)
   case d3=>unfold maxLen;omega
   case d4=>omega
   case d5=>first|omega|(simp;omega)
   intro v' w7 ho7 hg7 _;rw[←HTK.out] at ho7;have b7:Below w.heap.size w w7:=(B2.out.alloc hsz2 _).grown hg7 (by simp;omega) (fun k hk=>(hr2.lt k hk).1);have HO7:=hid ho7;clear hg7 ho7 HR2 E2 q0 hr2
   go_wp2_with fail
   go_roundw
   case rel=>exact⟨j+1,by rw[HLN.out];omega,by go_num,HO7.out,b7⟩
   case measure=>simp[RowKit.intOf];omega
  ·obtain rfl:j=n:=by omega
   have g1:decide ((j:Int)<(j:Int))=false:=an (by omega);rw[List.take_of_length_le (by rw[List.length_map,HLN.out];exact ah _)] at hrow;have HR:=hid hrow;clear hrow
   go_wp2_with fail
   go_ret
   exact⟨⟨_,rfl,by rw[HLN.out];exact HR.out⟩,hbe⟩
theorem dc.noCur{P X:Nat→Prop}{C:Nat}{s:Cs}{w:World}(h:dc P X C s w):dc P X C {s with cur:=none} ((w.setCell ⟨C,3,none⟩ (.pointer none)).setCell ⟨C,7,none⟩ (I0)):=by
 obtain⟨wv,iv,cv,bp,bv,Ms,h⟩:=h;have r3:=cq (i:=3) (u:=.pointer none) h.row;have k:=(h.b.put h.row 3 (.pointer none)).put r3 7 (I0);exact⟨_,_,_,_,_,_,cq (i:=7) (u:=I0) r3,k.own,k.msg,k.im,k.nd,rfl,k.bq,k.bw,k.xw,k.xi,k.xb,k.xC,k.xP,k.xl⟩
theorem dc.done{P X:Nat→Prop}{C:Nat}{s:Cs}{w:World}(h:dc P X C s w):em P X C w {s with cur:=none} ((w.setCell ⟨C,3,none⟩ (.pointer none)).setCell ⟨C,7,none⟩ (I0)):=
 ⟨P,X,h.noCur,((Kb.refl X w).set (.inl h.xC) _).set (.inl h.xC) _,fun _ _ q=>q,fun _ _ q=>q⟩
theorem dc.cells2{P X:Nat→Prop}{C:Nat}{s:Cs}{w:World}(h:dc P X C s w){c:Int×Int}(hc:s.cur=some c):(∃F,w.cell? ⟨C,3,none⟩=some (.pointer (some ⟨F,0,none⟩)))∧w.frozen? ⟨C,3,none⟩=false∧w.cell? ⟨C,7,none⟩=some (I0)∧w.frozen? ⟨C,7,none⟩=false:=by
 obtain⟨wv,iv,cv,bp,bv,Ms,h⟩:=h;obtain⟨c0,c1,c2,c3,c8⟩:=dM h.row;have hcu:=h.b.cu;rw[hc] at hcu;obtain⟨F,D,rfl,_,hF,h0,_⟩:=hcu;exact⟨⟨F,c3⟩,aj h.row 3,(aq h.row 7).trans rfl,aj h.row 7⟩
theorem CV(w0:World)(P X:Nat→Prop)(C b:Nat)(s:Cs)(m:Mg)(l:Ls)(c:Int×Int)(w:World)(h:dc P X C s w)(hH:Hm w0 X w)(hcu:s.cur=some c)(hb:w.heap[b]?=some (.cells m.row 33 (0,0)))(hl:LsP (fun _=>False) w m l)(hk:LsOk m l)(hw:(cR m l).2=0)(hlen:s.out.length≤1099511627776):
  Calls Tryz.prog 21 #[.pointer (some ⟨C,0,none⟩),.slice (some ⟨b,0,none⟩) 1 1] w fun e w'=>e=.returned (.tuple #[])∧em P X C w {s.put (cR m l).1 with cur:=none} w':=by
 obtain⟨⟨F,c3⟩,-,-,-⟩:=h.cells2 hcu;have y2:=alz w Zm 33;obtain⟨D,hD⟩:=nmm m.row;have hD1:D.all (·.oneCell')=true:=by rw[←hD];exact hl.one
 have hD2:D.size=28:=by rw[←hD];rfl
 rw[hD] at hb;have e2:=setRow_heap (w.alloc (.cells Zm 33)) w.heap.size _ D _ _ y2;have g2:Below w.heap.size w ((w.alloc (.cells Zm 33)).setRow w.heap.size D):=bm ((aA _ _).alloc (ah _) _) (ah _) D;have ks:=su w0 P X C s m l _ (h.bel g2) (hH.bels g2) ((hl.kept (Q:=fun _=>False) (w':=(w.alloc (.cells Zm 33)).setRow w.heap.size D) (fun _ q=>q.elim)).mgm) hk hlen;rw[hw,if_pos rfl,show decide ((0:Int)=0)=true from rfl,hD] at ks;obtain⟨Y2,E2,G2,KS,HB,HD1,HD2,HCU⟩:=Cx y2 e2 g2 ks hb hD1 hD2 hcu;clear hD hD1 hD2 y2 e2 g2 ks hl hk hw hlen h hH hcu hb
 go_enter Tryz.func21,Tryz.ntmps21
 go_wp2_with fail
 refine wp_loop_rounds 2 ?_;rw[rounds_succ]
 go_wp2_with (first
  |(refine bg rfl 33 (.tmp 19) rfl b 33 D (0,0) (by rfl) HB.out _ Tryz.underlying33 rfl (by rw[HD2.out];rfl) ?_)
  |(refine bh rfl 33 (.tmp 5) (.tmp 20) rfl w.heap.size 33 Zm D (by rfl) (by rfl) Y2.out (by rw[HD2.out];rfl) (by rw[HD2.out];rfl) HD1.out ?_;generalize((w.alloc (.cells Zm 33)).setRow w.heap.size D)=w2 at E2 G2 KS⊢;clear Y2)
  |(refine bg rfl 33 (.tmp 5) rfl w.heap.size 33 D (0,0) (by rfl) E2.out _ Tryz.underlying33 rfl (by rw[HD2.out];rfl) ?_))
 refine ag (show Calls _ _ _ _ _ from KS.out) ?_;rintro e w3 ⟨rfl,P3,X3,h3,n3⟩;obtain⟨⟨F',d3⟩,z3,c7,z7⟩:=h3.cells2 (c:=c) HCU.out;have FIN:=em.trans ((Nx.trans (P:=P) (X:=X) ⟨Kb.of G2.out,fun _ _ q=>q,fun _ _ q=>q⟩ n3)) h3.done;have HF:=hid FIN;clear FIN KS c3 E2 G2 h3 n3
 go_wp2_with fail
 rw[rounds_succ]
 go_wp2_with fail
 first
  |refine bodyPost_end (results_none rfl _ _ _) rfl ?_
  |refine aH (results_none rfl _ _ _) rfl ?_
 exact⟨rfl,HF.out⟩
theorem ld(n:Nat)(s:Cs)(h:s.inn=[]):Cs.cut n s=s:=by
 cases n with
 |zero=>rfl
 |succ n=>
  unfold Cs.cut
  split
  ·rfl
  ·rw[h,show eA []=(0,20) from rfl,if_pos (.inl rfl)]
theorem xv{s:Cs}{m:Mg}{l:Ls}(hw:(cR m l).2=0)(hcl:s.cl=false)(hin:s.inn=[])(hms:s.ms.length<16):
  s.feed (cR m l).1=if s.badB (m.pl,l) then Cs.gone {s with inn:=(cR m l).1} else Cs.comes {s with inn:=[]} (m.pl,l):=by
 obtain⟨hv,_,hf,_⟩:=iC hw;have hr:=fo hw;generalize(cR m l).1=b at hf hr;obtain⟨inn,ms,cur,out,cl⟩:=s;simp only at hcl hin hms;subst hcl hin;unfold Cs.feed;rw[if_neg (by simp)];simp only[List.nil_append,aU];have hl:2≤b.length:=by
  have:=mh b (by have:=congrArg Prod.snd hf;exact this);have h1:=congrArg Prod.fst hf;unfold eA at h1;simp only at h1
  omega
 rw[show 0+b.length+1=b.length+1 by omega]
 conv=>lhs;unfold Cs.cut
 rw[if_neg (by rintro(q|q);cases q;exact absurd q (by simp only;omega))];simp only[hf];rw[if_neg (by rintro(q|q);cases q;exact absurd q.2 (Nat.lt_irrefl _)),if_neg (by decide),List.take_length,hr,List.drop_length];simp only;rw[show Cs.badB ⟨b,ms,cur,out,false⟩ (m.pl,l)=Cs.badB ⟨[],ms,cur,out,false⟩ (m.pl,l) from rfl];cases Cs.badB ⟨[],ms,cur,out,false⟩ (m.pl,l) with
 |true=>rfl
 |false=>
  simp only[aW,if_false];refine ld _ _ ?_;unfold Cs.comes
  split
  ·rfl
  ·split
   ·rfl
   ·rfl
theorem sC{s:Cs}{m:Mg}{l:Ls}(hw:(cR m l).2=0)(hcl:s.cl=false)(hin:s.inn=[])(hms:s.ms.length<16)(hb:s.badB (m.pl,l)=false)(h2:m.op≠2)(h16:m.op≠16):
  s.feed (cR m l).1={s with ms:=s.ms++[(m.pl,l)]}:=by
 rw[xv hw hcl hin hms,hb];simp only[aW,if_false];unfold Cs.comes;rw[if_neg (show ¬m.pl.op=2 from h2),if_neg (show ¬m.pl.op=16 from h16)];obtain⟨inn,ms,cur,out,cl⟩:=s;simp only at hin;subst hin
 rfl
def lw:Mg:={id:=1,op:=10,dn:=[100,99,61,122]}
theorem CN:cR lw {}=([48,9,2,1,1,74,4,100,99,61,122],0):=by decide
theorem C4:Cs.feed {} [48,9,2]={inn:=[48,9,2]}:=by
 unfold Cs.feed;rw[if_neg (by decide)];show Cs.cut 4 {inn:=[48,9,2]}=_;unfold Cs.cut;rw[if_neg (by decide),show eA [48,9,2]=(11,0) from by decide,if_pos (.inr ⟨rfl,by decide⟩)]
theorem Dn:Cs.feed {inn:=[48,9,2]} [1,1,74,4,100,99,61,122]={ms:=[(lw,{})]}:=by
 have h:=sC (s:={}) (m:=lw) (l:={}) (by rw[CN]) rfl rfl (by decide) (by decide) (by decide) (by decide);rw[CN] at h;exact h
theorem Dv:LsOk lw {}:=by
 constructor<;>first|exact eC|exact dx|(simp;done)|(simp[lw];done)
theorem C7:Cs.took {ms:=[(lw,{})]} (lw,{}) []={cur:=some (1,10)}:=ld _ _ rfl
theorem lA(w:World)(hE:Env w):Cr 8 #[] w (.bool true):=by
 have kn:=nM w
 go_enter Tryz.func8,Tryz.ntmps8
 go_wp2_with fail
 refine ag kn ?_;rintro e w1 ⟨rfl,h1,b1⟩;have hm1:Hm w (Xc w.heap.size) w1:=⟨hE,b1,fun g hg=>by rw[show g=_ from hg];exact ah _⟩;have kw:=fa lw {} w1 (uA _ _ rfl) Dv hm1.now;rw[CN] at kw;simp only at kw;obtain⟨H1,HM1⟩:=Cg h1 hm1;clear kn h1 hm1 hE;have hx:(⟨#[48,9,2,1,1,74,4,100,99,61,122]⟩:ByteArray).extract 0 3=⟨#[48,9,2]⟩:=by rfl
 have hy:(⟨#[48,9,2,1,1,74,4,100,99,61,122]⟩:ByteArray).extract 3 11=⟨#[1,1,74,4,100,99,61,122]⟩:=by rfl
 go_wp2_with fail
 refine ag kw ?_;rintro e w2 ⟨rfl,hb2⟩;have h2:=H1.out.bel hb2;have m2:=HM1.out.bels hb2;have kf:=gF w _ _ _ {} [48,9,2] w2 h2 m2 (by decide) (by decide) (by decide);rw[C4] at kf;have HM2:=hid m2;clear kw hb2 h2 m2 H1 HM1
 go_wp2_with fail
 refine ag kf ?_;rintro e w3 ⟨rfl,P3,X3,h3,n3⟩;have m3:=HM2.out.to n3;have ki:=CL P3 X3 _ _ w3 h3 (.inr (.inr rfl));obtain⟨Z,hZ⟩:=nmm (Mg.row {});have hZ1:Z.all (·.oneCell')=true:=by rw[←hZ];exact row_one _ ⟨rfl,rfl,rfl,rfl,rfl⟩
 have hZ2:Z.size=28:=by rw[←hZ];rfl
 rw[hZ] at ki;obtain⟨HZ1,HZ2,H3,M3⟩:=Ci hZ1 hZ2 h3 m3;clear kf HM2 h3 n3 m3 hZ hZ1 hZ2 hx
 go_wp2_with fail
 refine ag ki ?_;rintro e w4 ⟨rfl,hb4⟩;have y4:=alz w4 Zm 33;have g4:Below w4.heap.size w4 ((w4.alloc (.cells Zm 33)).setRow w4.heap.size Z):=bm ((aA _ _).alloc (ah _) _) (ah _) Z;have h5:=H3.out.bel (cM hb4 g4);have m5:=M3.out.bels (cM hb4 g4);have kf:=gF w _ _ _ {inn:=[48,9,2]} [1,1,74,4,100,99,61,122] _ h5 m5 (by decide) (by decide) (by decide);rw[Dn] at kf;obtain⟨Y4,H5,M5,KF⟩:=Ci y4 h5 m5 kf;clear ki y4 g4 h5 m5 kf H3 M3 hb4
 go_wp2_with (refine bh rfl 33 (.tmp 4) (.tmp 25) rfl w4.heap.size 33 Zm Z (by rfl) (by rfl) Y4.out (by rw[HZ2.out];rfl) (by rw[HZ2.out];rfl) HZ1.out ?_;generalize((w4.alloc (.cells Zm 33)).setRow w4.heap.size Z)=w5 at H5 M5 KF⊢;clear Y4)
 refine ag (show Calls _ _ _ _ _ from KF.out) ?_;rintro e w6 ⟨rfl,P6,X6,h6,n6⟩;have m6:=M5.out.to n6;have kw:=lY _ _ _ _ w6 h6 (by decide);obtain⟨H6,M6⟩:=Cg h6 m6;clear KF h6 n6 m6 H5 M5 hy
 go_wp2_with fail
 refine ag kw ?_;rintro e w7 ⟨⟨v,rfl,hv⟩,hb7⟩;have h7:=H6.out.bel hb7;have m7:=M6.out.bels hb7;have hv:w7.ownsRow w6.heap.size 3 1 v 1 [.int .i64 1]:=hv;obtain⟨gv,cv,rfl,hgv,hgl⟩:=hv.form (by omega);have q7:w7.cell? ⟨gv,0,none⟩=some (.int .i64 1):=by have:=hv.cells (g:=gv) rfl 0 (.int .i64 1) rfl;simpa[Addr.add] using this
 have kx:=ko w _ _ _ _ (lw,{}) [] w7 h7 m7 rfl rfl rfl (by decide) (by decide) (by decide) (by decide);rw[C7] at kx;have HG:Hid (¬X6 gv∧gv<w7.heap.size):=hid ⟨fun q=>by have:=H6.out.xl gv q;omega,hgl⟩;have M7:=hid m7;clear kw hb7 h7 m7 hv H6 M6 hgv hgl
 go_wp2_with fail
 refine ag kx ?_;rintro e w8 ⟨m,P8,X8,rfl,hpl,h8,n8,hl8⟩;have q8:w8.cell? ⟨gv,0,none⟩=some (.int .i64 1):=(World.cell?_of_block (n8.kb.block gv HG.out.2 HG.out.1)).trans q7;have m8:=M7.out.to n8;obtain⟨D,hD⟩:=nmm m.row;have hD1:D.all (·.oneCell')=true:=by rw[←hD];exact hl8.one
 have hD2:D.size=28:=by rw[←hD];rfl
 have hD3:D[2]?=some (.string ⟨#[100,99,61,122]⟩):=by rw[←hD,show m.row[2]?=some (.string ⟨m.pl.dn.toArray⟩) from rfl,hpl];rfl
 rw[hD];have y8:=alz w8 Zm 33;have e9:=setRow_heap (w8.alloc (.cells Zm 33)) w8.heap.size _ D _ _ y8;have g9:Below w8.heap.size w8 ((w8.alloc (.cells Zm 33)).setRow w8.heap.size D):=bm ((aA _ _).alloc (ah _) _) (ah _) D;obtain⟨Y8,E9,G9,H8,M8,HD1,HD2,HD3⟩:=Cx y8 e9 g9 h8 m8 hD1 hD2 hD3;clear kx y8 e9 g9 h8 n8 m8 hl8 hpl hD hD1 hD2 hD3 M7 q7 HG
 go_wp2_with (refine bh rfl 33 (.tmp 7) (.tmp 36) rfl w8.heap.size 33 Zm D (by rfl) (by rfl) Y8.out (by rw[HD2.out];rfl) (by rw[HD2.out];rfl) HD1.out ?_;have q9:((w8.alloc (.cells Zm 33)).setRow w8.heap.size D).cell? ⟨gv,0,none⟩=some (.int .i64 1):=(G9.out.cell (bj q8)).trans q8;have d9:((w8.alloc (.cells Zm 33)).setRow w8.heap.size D).cell? ⟨w8.heap.size,2,none⟩=some (.string ⟨#[100,99,61,122]⟩):=(aq E9.out 2).trans HD3.out;clear q8;generalize((w8.alloc (.cells Zm 33)).setRow w8.heap.size D)=w9 at E9 G9 q9 d9⊢;clear Y8)
 have h9:=H8.out.bel G9.out;have m9:=M8.out.bels G9.out;have kc:=xr _ _ _ _ (1,10) w9 h9 rfl;refine ag kc ?_;rintro e w10 ⟨rfl,hb10⟩;have kl:=iM _ _ _ _ w10 (h9.bel hb10);have m10:=m9.bels hb10;clear kc h9 m9 H8 M8 E9 G9 q9 d9 hb10
 go_wp2_with fail
 refine ag kl ?_;rintro e w11 ⟨rfl,hb11⟩;have km:=CM w.heap.size w11;have m11:=m10.bels hb11;clear kl m10 hb11
 go_wp2_with fail
 refine ag km ?_;rintro e w12 ⟨rfl,hb12⟩;have m12:=m11.bels hb12;clear km m11 hb12
 go_wp2_with fail
 go_ret
 exact⟨rfl,m12.bel⟩
theorem sV{op:Int}(h:0≤gk op):op∈[0,3,6,8,10,12,14,23]:=by
 unfold gk at h
 split at h
 ·omega
 ·rename_i hc
  simp only[Bool.or_eq_true,Bool.not_eq_true',beq_iff_eq,not_or,Bool.not_eq_false] at hc;have hm:=List.contains_iff_mem.1 hc.1.1;simp only[fC,aY,aZ,or_false] at hm⊢;have h2:=hc.1.2;have h16:=hc.2
  omega
theorem Da{op:Int}(h:0≤gk op)(h23:op≠23):(cR {id:=7,op:=gk op,code:=0,matched:=[],text:=[]} {}).2=0:=by
 have hm:=sV h;simp only[aY,aZ,or_false] at hm;rcases hm with rfl|rfl|rfl|rfl|rfl|rfl|rfl|rfl
 ·decide
 ·decide
 ·decide
 ·decide
 ·decide
 ·decide
 ·decide
 ·exact absurd rfl h23
theorem CO{m:Mg}{ops:Array Oper}{rest:List Oper}{o:Oper}{a:Act}{Q:Exit→Act→World→Prop}{w:World}(hgd:o.guard=none){A:Array Value}(hA:m.row=A){x:Operand}(ho:o.op=.buildSlice 22 1 #[(0,x)])(hx:a.eval x=.agg A)
  (h:wpList Tryz.prog ops Q rest (a.put o.dst (.slice (some ⟨w.heap.size,0,none⟩) 1 1)) (w.alloc (.cells A 33))):wpList Tryz.prog ops Q (o::rest) a w:=
 aB hgd fun _ hK=>jS (uS (hA▸uM m) ho hx w) (hK _ _ h)
theorem Db{op:Int}(h:0≤gk op):fC.contains op=true∧gq op=false∧op≠2∧op≠16:=by
 have hm:=sV h;simp only[aY,aZ,or_false] at hm;rcases hm with rfl|rfl|rfl|rfl|rfl|rfl|rfl|rfl<;>decide
theorem MgM.id7{w:World}{m:Mg}{l:Ls}(h:MgM w m l)(k:Int):MgM w {m with id:=k} l:=⟨h.filt,h.sel,h.mods,h.attrs,h.ctl⟩
theorem LsOk.id7{m:Mg}{l:Ls}(h:LsOk m l)(k:Int):LsOk {m with id:=k} l:=⟨h.dn,h.secret,h.newRdn,h.newSup,h.typ,h.value,h.oid,h.matched,h.text,h.filt,h.sel,h.sels,h.mods,h.modss,h.attrs,h.ctl,h.ctls⟩
theorem tb(m:Mg)(l:Ls)(cur:Bool)(w:World)(hm:MgM w m l)(hk:LsOk m l)(hE:Env w):
  Cr 4 #[.agg m.row,.bool cur] w (.bool true):=by
 obtain⟨m7,hm7⟩:=nmm ({m with id:=7}:Mg);have hid:m7.id=7:=by rw[←hm7]
 have hop:m7.op=m.op:=by rw[←hm7]
 have hrow:m.row.setIfInBounds 0 (.int .i64 7)=m7.row:=by rw[←hm7];rfl
 have hmm:MgM w m7 l:=by rw[←hm7];exact hm.id7 7
 have hkk:LsOk m7 l:=by rw[←hm7];exact hk.id7 7
 have b1:=alb w m.row 33;have x1:=alz w m.row 33;have b2:=alb w m7.row 33;have x2:=alz w m7.row 33;have c0:(w.alloc (.cells m.row 33)).cell? ⟨w.heap.size,0,none⟩=some (.int .i64 m.id):=(aq x1 0).trans rfl;have z0:=aj x1 0;have kw:=fa m7 l _ (hmm.below b2) hkk (hE.below b2);have hlen:=jM (m:=m7) (l:=l);obtain⟨A,hA⟩:=nmm m.row;obtain⟨A7,hA7⟩:=nmm m7.row;have hs7:A7.size=28:=by rw[←hA7];rfl
 have h71:A7[1]?=some (.int .i64 m7.op):=by rw[←hA7];rfl
 rw[hA7] at kw x2 b2 hrow;rw[hA] at b1 x1 c0 z0 hrow⊢;have HRW:=Lib.hid hrow;obtain⟨t,ht⟩:=nmm ((cR m7 l).1);obtain⟨c,hc⟩:=nmm ((cR m7 l).2);obtain⟨op,hopq⟩:∃op,m7.op=op:=⟨_,rfl⟩;rw[hopq] at h71;rw[ht,hc] at kw hlen;obtain⟨HS7,H71,HW,HE,HLN,X2,B2,KW⟩:=Cx hs7 h71 (show _∧_∧_∧_ from⟨ht,hc,hopq,hid⟩) hE hlen x2 b2 kw;clear hm7 hid hop hrow hmm hkk hm hk hA hA7 hs7 h71 ht hc hopq hE hlen x1 x2 b1 b2 kw
 go_enter Tryz.func4,Tryz.ntmps4
 go_upto_region 2 with fail
 rw[HRW.out];generalize w.alloc (.cells A7 33)=w2 at X2 B2 KW⊢;clear c0 z0
 go_wp2_with (refine bg rfl 33 (.tmp 2) rfl w.heap.size 33 A7 (0,0) (by rfl) X2.out _ Tryz.underlying33 rfl (by rw[HS7.out];rfl) ?_)
 refine ag (show Calls _ _ _ _ _ from KW.out) ?_;rintro e w3 ⟨rfl,hb3⟩;have b3:=cM B2.out hb3;have x3:=bk hb3 X2.out;have q1:w3.cell? ⟨w.heap.size,1,none⟩=some (.int .i64 op):=(aq x3 1).trans H71.out;clear KW hb3 X2 B2 x3
 by_cases hc0:c=0
 ·have ec:(c==0)=true:=by rw[hc0];rfl
  have nc:(c !=0)=false:=by rw[bne,ec];rfl
  have kr:=s8 op w3
  go_wp2_with fail
  refine ag kr ?_;rintro e w4 ⟨rfl,hb4⟩;have b4:=cM b3 hb4;have q1':=(hb4.cell (bj q1)).trans q1;clear kr hb4 b3 q1;obtain⟨rp,hrp⟩:=nmm (gk op);rw[hrp];have HRP:=Lib.hid hrp;clear hrp
  by_cases hr:rp<0
  ·have dr:decide (rp<0)=true:=aC hr
   have ka:=lA w4 (HE.out.below b4)
   go_wp2_with fail
   refine ag ka ?_;rintro e w5 ⟨rfl,hb5⟩;have b5:=cM b4 hb5;clear ka hb5 b4
   go_wp2_with fail
   go_ret
   exact⟨rfl,b5⟩
  ·have dr:decide (rp<0)=false:=an hr
   by_cases h23:op=23
   ·have e23:(op==23)=true:=by rw[h23];rfl
    have ka:=lA w4 (HE.out.below b4)
    go_wp2_with fail
    refine ag ka ?_;rintro e w5 ⟨rfl,hb5⟩;have b5:=cM b4 hb5;clear ka hb5 b4
    go_wp2_with fail
    go_ret
    exact⟨rfl,b5⟩
   ·have e23:(op==23)=false:=aE h23
    have h0:0≤gk op:=by rw[HRP.out];omega
    obtain⟨HG,H23⟩:=Cg (show _∧_ from⟨Db h0,Da h0 h23⟩) h23;have kn:=nM w4;obtain⟨Q1,E4,B4⟩:=Ch (show ∀wx,Below w4.heap.size w4 wx→wx.cell? ⟨w.heap.size,1,none⟩=some (.int .i64 op) from fun wx hb=>(hb.cell (bj q1')).trans q1') (HE.out.below b4) b4;obtain⟨y,hy⟩:=nmm (m7.pl,l);have hyid:y.1.id=7:=by rw[←hy];exact HW.out.2.2.2
    have hyop:y.1.op=op:=by rw[←hy];exact HW.out.2.2.1
    have hw7:(cR m7 l).2=0:=by rw[HW.out.2.1];exact hc0
    have htl:t.length≤65536:=HLN.out hc0;have fg:∀s:Cs,s.cl=false→s.inn=[]→s.ms=[]→s.cur=none→s.feed t={s with ms:=[y]}:=fun s h1 h2 h3 h4=>by
     have:=sC (s:=s) (m:=m7) (l:=l) hw7 h1 h2 (by rw[h3];decide) (by
      unfold Cs.badB Cs.has Cs.ids;rw[h3,h4];show(!fC.contains m7.op||(!gq m7.op&&(m7.id==0||false)))=false;rw[HW.out.2.2.1,HG.out.1.1,HG.out.1.2.1,HW.out.2.2.2]
      rfl) (by rw[HW.out.2.2.1];exact HG.out.1.2.2.1) (by rw[HW.out.2.2.1];exact HG.out.1.2.2.2)
     rw[HW.out.1,h3,hy] at this;exact this
    have fb:∀s:Cs,s.cl=false→s.inn=[]→(s={s with ms:=[y]}∨(s.ms=[]∧s.cur=some (7,op)))→s.ms.length<16→(s.feed t).cl=true:=fun s h1 h2 h3 h4=>by
     have:=xv (s:=s) (m:=m7) (l:=l) hw7 h1 h2 h4;rw[HW.out.1,hy] at this;have hb:s.badB y=true:=by
      unfold Cs.badB;rw[hyop,HG.out.1.1,HG.out.1.2.1,hyid];have:s.has 7=true:=by
       unfold Cs.has Cs.ids;rcases h3 with h3|⟨h3,h5⟩
       ·have h6:s.ms=[y]:=by rw[h3]
        rw[h6]
        simp[hyid]
       ·rw[h5]
        simp
      rw[this]
      rfl
     rw[this,hb]
     rfl
    obtain⟨FG,FB,HY,HCN⟩:=Ci fg fb (show _∧_∧_ from⟨hyid,hyop,htl⟩) (show gS y.1=false by unfold gS;rw[hyop,e23];rfl);clear h0 hr h23 hy hyid hyop hw7 htl fg fb
    go_wp2_with fail
    refine ag kn ?_;rintro e w5 ⟨rfl,h5,b5⟩;have m5:Hm w4 (Xc w4.heap.size) w5:=⟨E4.out,b5,fun g hg=>by rw[show g=_ from hg];exact ah _⟩;have kf:=gF w4 _ _ _ {} t w5 h5 m5 (by have:=HY.out.2.2;show 0+t.length≤1000000000;omega) (by decide) (by decide);rw[FG.out {} rfl rfl rfl rfl] at kf;have M5:=Lib.hid m5;clear kn h5 m5 b5;clear q1'
    go_wp2_with fail
    refine ag kf ?_;rintro e w6 ⟨rfl,P6,X6,h6,n6⟩;have m6:=M5.out.to n6;obtain⟨H6,M6⟩:=Cg h6 m6;clear kf h6 n6 m6 M5
    go_upto_if 34 with fail
    go_cut [7] from 34 to 36 (fun v wx=>v=.pointer (some ⟨w4.heap.size,0,none⟩)∧∃(s:Cs) (P X:Nat→Prop),(s={ms:=[y]}∨s={cur:=some (7,op)})∧dc P X w4.heap.size s wx∧Hm w4 X wx)
    case first=>
     cases cur with
     |true=>
      have kx:=ko w4 P6 X6 _ _ y [] w6 H6.out M6.out rfl rfl rfl HCN.out (by simp) (by simp) (by simp)
      go_wp2_with fail
      refine ag kx ?_;rintro e w7 ⟨mx,P7,X7,rfl,_,h7,n7,_⟩;have m7':=M6.out.to n7;clear kx
      go_wp2_with fail
      go_meet
      refine⟨rfl,_,P7,X7,.inr ?_,h7,m7'⟩;show Cs.cut _ _=_;rw[ld _ _ rfl,HY.out.1,HY.out.2.1]
     |false=>
      go_wp2_with fail
      go_meet
      exact⟨rfl,_,P6,X6,.inl rfl,H6.out,M6.out⟩
    case rest=>
     obtain⟨rfl,s,Pc,Xc',hs,hcn,hmc⟩:=hcut;clear H6 M6;have kd:=nM wc;obtain⟨HCS,HCX,HMC,HST⟩:=Ci hcn.small hcn.xl hmc hs;clear hcn hmc hs
     go_wp2_with fail
     refine ag kd ?_;rintro e w7 ⟨rfl,h7,b7⟩;have hw4c:w4.heap.size≤wc.heap.size:=HMC.out.bel.size;have m7':Hm w4 (Xc wc.heap.size) w7:=⟨E4.out,HMC.out.bel.trans (b7.mono hw4c),fun g hg=>by rw[show g=_ from hg];exact hw4c⟩;have kf:=gF w4 _ _ _ {} t w7 h7 m7' (by have:=HY.out.2.2;show 0+t.length≤1000000000;omega) (by decide) (by decide);rw[FG.out {} rfl rfl rfl rfl] at kf;obtain⟨M7,B7⟩:=Cg m7' b7;clear kd h7 m7' b7
     go_wp2_with fail
     refine ag kf ?_;rintro e w8 ⟨rfl,P8,X8,h8,n8⟩;have m8:=M7.out.to n8;have kx:=ko w4 P8 X8 _ _ y [] w8 h8 m8 rfl rfl rfl HCN.out (by simp) (by simp) (by simp);obtain⟨N8,M8⟩:=Cg n8 m8;clear kf h8 n8 m8
     go_wp2_with fail
     refine ag kx ?_;rintro e w9 ⟨mx,P9,X9,rfl,_,h9,n9,_⟩;have m9:=M8.out.to n9;have q9:=Q1.out w9 m9.bel;have kr:=s8 op w9;rw[HRP.out] at kr;have h9':dc P9 X9 wc.heap.size {cur:=some (7,op)} w9:=by
      have e:Cs.took {ms:=[y]} y []={cur:=some (7,op)}:=by
       show Cs.cut _ _=_;rw[ld _ _ rfl,HY.out.1,HY.out.2.1]
      rw[←e];exact h9
     obtain⟨N9,H9,M9⟩:=Ch (N8.out.trans n9) h9' m9;clear kx h9 h9' n9 m9 N8 M8
     go_wp2_with fail
     refine ag kr ?_;rintro e w10 ⟨rfl,hb10⟩;have kres:=oC 7 rp 0 [] [] w10;obtain⟨R,hR⟩:=nmm ({id:=7,op:=rp,code:=0,matched:=[],text:=[]}:Mg);have hRw:(cR R {}).2=0:=by rw[←hR,←HRP.out];exact HG.out.2
     have hRk:LsOk R {}:=by rw[←hR];exact uc 7 rp 0 [] [] [] (by decide) (by decide) (by decide)
     have hRl:∀W,LsP (fun _=>False) W R {}:=fun W=>by rw[←hR];exact⟨bM.nil _ _ _,bM.nil _ _ _,bM.nil _ _ _,bM.nil _ _ _,bM.nil _ _ _⟩
     rw[hR] at kres;obtain⟨AR,hAR⟩:=nmm R.row;rw[hAR] at kres;obtain⟨HR,HB10⟩:=Cg (show _∧_∧_∧_ from⟨hRw,hRk,hRl,hAR⟩) hb10;clear kr hb10 hR hRw hRk hRl hAR q9
     go_wp2_with fail
     refine ag kres ?_;rintro e w11 ⟨rfl,hb11⟩;have g12:=alb w11 AR 33;have b12:=cM HB10.out (cM hb11 g12);have h12:=H9.out.bel b12;have m12:=M9.out.bels b12;have n12:=N9.out.bel b12;have x12:=alz w11 AR 33;have kdn:=CV w4 _ _ _ w11.heap.size _ R {} (7,op) _ h12 m12 rfl (by rw[HR.out.2.2.2];exact x12) (HR.out.2.2.1 _) HR.out.2.1 HR.out.1 (by simp);obtain⟨N12,M12,KDN⟩:=Ch n12 m12 kdn;clear kres hb11 g12 b12 h12 m12 n12 x12 kdn H9 M9 N9 HB10
     go_wp2_with (refine CO rfl HR.out.2.2.2 rfl rfl ?_;generalize hw12:w11.alloc (.cells AR 33)=w12 at N12 M12 KDN⊢;clear hw12)
     refine ag (show Calls _ _ _ _ _ from KDN.out) ?_;rintro e w13 ⟨rfl,P13,X13,h13,n13⟩;have m13:=M12.out.to n13;have kf:=gF w4 _ _ _ _ t w13 h13 m13 (by have:=HY.out.2.2;show 0+t.length≤1000000000;omega) (by simp[Cs.put]) (by show([]++(cR R {}).1).length≤_;have:=jM HR.out.1;rw[List.nil_append];omega);rw[FG.out _ rfl rfl rfl rfl] at kf;obtain⟨N13,M13⟩:=Cg (N12.out.trans n13) m13;clear KDN h13 n13 m13 N12 M12
     go_wp2_with fail
     refine ag kf ?_;rintro e w14 ⟨rfl,P14,X14,h14,n14⟩;have m14:=M13.out.to n14;obtain⟨N14,H14,M14⟩:=Ch (N13.out.trans n14) h14 m14;clear kf h14 n14 m14 N13 M13;have hcl:s.cl=false∧s.inn=[]∧(s={s with ms:=[y]}∨(s.ms=[]∧s.cur=some (7,op)))∧s.ms.length<16∧s.out=[]:=by
      rcases HST.out with rfl|rfl
      ·exact⟨rfl,rfl,.inl rfl,(by simp),rfl⟩
      ·exact⟨rfl,rfl,.inr ⟨rfl,rfl⟩,(by simp),rfl⟩
     have hc14:=(HCS.out.bel B7.out).other N14.out.kb (fun g _ hp e=>by have h1:g=wc.heap.size:=e;have h2:=hp.2;omega);have kfc:=gF w4 _ _ _ s t w14 hc14 ⟨E4.out,M14.out.bel,fun g hg=>HMC.out.xs g hg.1⟩ (by rw[hcl.2.1];have:=HY.out.2.2;show 0+t.length≤1000000000;omega) (by have:=hcl.2.2.2.1;omega) (by rw[hcl.2.2.2.2];simp);have hfc:=FB.out s hcl.1 hcl.2.1 hcl.2.2.1 hcl.2.2.2.1;obtain⟨HFC,M14c⟩:=Cg hfc (show Hm w4 (fun g=>Xc' g∧g<w7.heap.size) w14 from⟨E4.out,M14.out.bel,fun g hg=>HMC.out.xs g hg.1⟩);clear hcl hc14 hfc
     go_wp2_with fail
     refine ag kfc ?_;rintro e w15 ⟨rfl,P15,X15,h15,n15⟩;have m15:=M14c.out.to n15;have hd15:=H14.out.other n15.kb (fun g hl hp e=>by
      have h1:=HCX.out g e.1;have h2:g=wc.heap.size:=N14.out.ps g e.2 hp
      omega)
     have kw:=lY _ _ _ _ w15 hd15 (by simp);obtain⟨H15,D15,M15⟩:=Ch h15 hd15 m15;clear kfc h15 n15 m15 hd15 H14 M14 N14 M14c HCS HCX HMC HST B7 M7
     go_wp2_with fail
     refine ag kw ?_;rintro e w16 ⟨⟨v,rfl,hv⟩,hb16⟩;have hv:w16.ownsRow w15.heap.size 3 1 v 1 [.int .i64 7]:=by
      have h1:[Value.int .i64 y.1.id]=[.int .i64 7]:=by rw[HY.out.1]
      rw[←h1];exact hv
     obtain⟨gv,cv,rfl,hgv,hgl⟩:=hv.form (by omega);have q16:w16.cell? ⟨gv,0,none⟩=some (.int .i64 7):=by have:=hv.cells (g:=gv) rfl 0 (.int .i64 7) rfl;simpa[Addr.add] using this
     have m16:=M15.out.bels hb16;have ka:=lA w16 m16.now;obtain⟨HB16,M16⟩:=Cg hb16 m16;clear kw hb16 hv hgv hgl m16 M15
     go_wp2_with fail
     refine ag ka ?_;rintro e w17 ⟨rfl,hb17⟩;have q17:=(hb17.cell (bj q16)).trans q16;have kc:=iM _ _ _ _ w17 (H15.out.bel (cM HB16.out hb17));rw[HFC.out] at kc;obtain⟨D17,M17⟩:=Cg (D15.out.bel (cM HB16.out hb17)) (M16.out.bels hb17);clear ka hb17 q16 H15 D15 M16 HB16
     go_wp2_with fail
     refine ag kc ?_;rintro e w18 ⟨rfl,hb18⟩;have q18:=(hb18.cell (bj q17)).trans q17;have kc:=iM _ _ _ _ w18 (D17.out.bel hb18);have M18:=Lib.hid (M17.out.bels hb18);clear hb18 q17 D17 M17
     go_wp2_with fail
     refine ag kc ?_;rintro e w19 ⟨rfl,hb19⟩;have q19:=(hb19.cell (bj q18)).trans q18;have BE:=Lib.hid (cM B4.out (M18.out.bels hb19).bel);clear hb19 q18 M18
     go_wp2_with fail
     go_ret
     exact⟨rfl,BE.out⟩
 ·have ec:(c==0)=false:=aE hc0
  have nc:(c !=0)=true:=by rw[bne,ec];rfl
  have ka:=lA w3 (HE.out.below b3)
  go_wp2_with fail
  refine ag ka ?_;rintro e w4 ⟨rfl,hb4⟩;have b4:=cM b3 hb4;clear ka hb4 b3
  go_wp2_with fail
  go_ret
  exact⟨rfl,b4⟩
theorem gi{w:World}{a:Addr}{v:Value}{k:Nat}(h:w.cell? (a.add k)=some v)(hk:k=0):∃g o,a=⟨g,o,none⟩:=by
 subst hk;have e:(a.add 0)=a:=by simp[Addr.add]
 rw[e] at h;have hs:=mb h;obtain⟨g,o,s⟩:=a;simp only at hs;subst hs;exact⟨g,o,rfl⟩
theorem mL{H:Type}:∀l:List (DataW H),Rows.uptoBulkAll l=(l.map Rows.uptoBulk).sum
 |[]=>rfl
 |d::r=>by rw[Rows.uptoBulkAll,mL r];simp
theorem Cn{H:Type}(D:Nat→DataW H)(f:Nat→Nat):∀(n:Nat),(∀i,i<n→f i≤Rows.uptoBulk (D i))→((List.range n).map f).sum≤Rows.uptoBulkAll ((List.range n).map D):=by
 intro n;rw[mL,List.map_map]
 induction n with
 |zero=>intro _;simp
 |succ n ih=>
  intro h;rw[List.range_succ,List.map_append,List.map_append,List.sum_append,List.sum_append];have h1:=ih (fun i hi=>h i (by omega));have h2:=h n (by omega);simp only[List.map_cons,List.map_nil,List.sum_cons,List.sum_nil,Function.comp]
  omega
def buS(ls:List (List UInt8)):Nat:=(ls.map fun l=>l.length+1).sum
def buA(al:List (List UInt8×List (List UInt8))):Nat:=(al.map fun a=>a.1.length+buS a.2+1).sum
def buM(ml:List Md):Nat:=(ml.map fun m=>m.2.1.length+buS m.2.2+1).sum
def buF(fl:List Fl):Nat:=(fl.map fun p=>p.typ.length+p.value.length+p.init.length+p.final.length+buS p.any+1).sum
def buK(cl:List Ct):Nat:=(cl.map fun c=>c.oid.length+c.value.length+1).sum
theorem ib{H:Type}{enc:TypeId×Value→H}{W:World}{base:Nat}{spare:Nat→Bool}{held:Bool}{fuel:Nat}{cs:List Value}{x:DataW H×List MemPlace}
  (h:DataW.trod enc Tryz.prog W base spare held fuel 28 cs=some x):∃v ls,cs=[v]∧ct W v ls∧buS ls≤Rows.uptoBulk x.1:=by
 rcases Go.Deep.open_slice1 Tryz.underlying28 (by kernel_rfl) h with⟨rfl,rfl⟩|⟨a,len,cap,m,n,V,D,Pl,rfl,hb,hl,hm,hmm,rfl,hx⟩
 ·exact⟨_,[],rfl,⟨none,0,rfl,ah _,fun h=>absurd rfl h⟩,by simp[buS]⟩
 ·have hlm:len≤m:=by rw[hmm];split<;>omega
  have each:∀i,∃q:List UInt8,i<len→V i=.string ⟨q.toArray⟩∧D i=.lit (.string q):=by
   intro i
   by_cases hi:i<len
   ·obtain⟨s0,e0,y0,_⟩:=DataW.trod_string Tryz.underlying9 (hx i (by omega)).2
    refine⟨s0.data.toList,fun _=>⟨?_,congrArg Prod.fst y0⟩⟩;have:=aN e0;rw[this.1]
   ·exact⟨[],fun h=>absurd h hi⟩
  let f:=fun i=>Classical.choose (each i)
  have hf:∀i,i<len→V i=.string ⟨(f i).toArray⟩∧D i=.lit (.string (f i)):=fun i=>Classical.choose_spec (each i)
  have hlen:((List.range len).map f).length=len:=by simp
  refine⟨_,(List.range len).map f,rfl,⟨some a,cap,by rw[hlen],by rw[hlen];exact hl,fun h0=>?_⟩,?_⟩
  ·have hpos:0<len:=by
    rcases Nat.eq_zero_or_pos len with h|h
    ·subst h;exact absurd rfl h0
    ·exact h
   obtain⟨g,o,rfl⟩:=gi (hx 0 (by omega)).1 (by simp);refine⟨g,o,rfl,fun j y hj=>?_⟩;have hjl:j<len:=by have:=(List.getElem?_eq_some_iff.1 hj).1;simpa using this
   rw[List.getElem?_map,List.getElem?_range hjl] at hj;cases hj;have c0:=(hx j (by omega)).1;rw[Addr.add_lit,(hf j hjl).1] at c0;exact c0
  ·have:=Cn D (fun i=>(f i).length+1) len (fun i hi=>by rw[(hf i hi).2];simp[Rows.uptoBulk])
   simp only[Rows.uptoBulk,buS,List.map_map];simp only[Function.comp_def] at this⊢
   omega
theorem pt{H:Type}{enc:TypeId×Value→H}{W:World}{base:Nat}{spare:Nat→Bool}{held:Bool}{fuel:Nat}{cs:List Value}{x:DataW H×List MemPlace}
  (h:DataW.trod enc Tryz.prog W base spare held fuel 30 cs=some x):∃v al,cs=[v]∧eG W v al∧buA al≤Rows.uptoBulk x.1:=by
 rcases Go.Deep.open_slice_pairs Tryz.underlying30 Tryz.underlying169 (by kernel_rfl) rfl rfl (by kernel_rfl) (by kernel_rfl) h with⟨rfl,rfl⟩|⟨a,len,cap,m,n,V0,V1,D0,D1,P0,P1,rfl,hb,hl,hm,hmm,rfl,hx⟩
 ·exact⟨_,[],rfl,⟨none,0,rfl,ah _,fun h=>absurd rfl h⟩,by simp[buA]⟩
 ·have hlm:len≤m:=by rw[hmm];split<;>omega
  have each:∀i,∃q:List UInt8×List (List UInt8),i<len→V0 i=.string ⟨q.1.toArray⟩∧ct W (V1 i) q.2∧q.1.length+buS q.2+1≤Rows.uptoBulk (.agg [D0 i,D1 i]):=by
   intro i
   by_cases hi:i<len
   ·obtain⟨_,_,h0,h1⟩:=hx i (by omega)
    obtain⟨s0,e0,y0,_⟩:=DataW.trod_string Tryz.underlying9 h0;obtain⟨v1,ls,e1,h2,h3⟩:=ib h1;refine⟨(s0.data.toList,ls),fun _=>⟨?_,?_,?_⟩⟩
    ·have:=aN e0;rw[this.1]
    ·have:=aN e1;rw[this.1];exact h2
    ·have e:=congrArg Prod.fst y0
     simp only at e;simp only[Rows.uptoBulk,Rows.uptoBulkAll,e]
     try simp only at h3
     omega
   ·exact⟨([],[]),fun h=>absurd h hi⟩
  let f:=fun i=>Classical.choose (each i)
  have hf:∀i,i<len→V0 i=.string ⟨(f i).1.toArray⟩∧ct W (V1 i) (f i).2∧(f i).1.length+buS (f i).2+1≤Rows.uptoBulk (.agg [D0 i,D1 i]):=fun i=>Classical.choose_spec (each i)
  have hlen:((List.range len).map f).length=len:=by simp
  refine⟨_,(List.range len).map f,rfl,⟨some a,cap,by rw[hlen],by rw[hlen];exact hl,fun h0=>?_⟩,?_⟩
  ·have hpos:0<len:=by
    rcases Nat.eq_zero_or_pos len with h|h
    ·subst h;exact absurd rfl h0
    ·exact h
   obtain⟨g,o,rfl⟩:=gi (hx 0 (by omega)).1 (by simp);refine⟨g,o,rfl,fun j y hj=>?_⟩;have hjl:j<len:=by have:=(List.getElem?_eq_some_iff.1 hj).1;simpa using this
   rw[List.getElem?_map,List.getElem?_range hjl] at hj;cases hj;obtain⟨c0,c1,_,_⟩:=hx j (by omega);obtain⟨v0,v1,_⟩:=hf j hjl;rw[Addr.add_lit,v0] at c0;rw[Addr.add_lit,←Nat.add_assoc] at c1;exact⟨c0,V1 j,c1,v1⟩
  ·have:=Cn (fun i=>.agg [D0 i,D1 i]) (fun i=>(f i).1.length+buS (f i).2+1) len (fun i hi=>(hf i hi).2.2)
   simp only[Rows.uptoBulk,buA,List.map_map];simp only[Function.comp_def] at this⊢
   omega
theorem Bm{n:Int}(h:(Lit.int .i64 n).wf=true):n≤9223372036854775807:=by
 have:=(Bool.and_eq_true_iff.1 h).2;exact of_decide_eq_true this
theorem sD{α:Type}:∀{l:List α},l.length=3→∃x0 x1 x2,l=[x0,x1,x2]
 |[x0,x1,x2],_=>⟨x0,x1,x2,rfl⟩
theorem sE{α:Type}:∀{l:List α},l.length=4→∃x0 x1 x2 x3,l=[x0,x1,x2,x3]
 |[x0,x1,x2,x3],_=>⟨x0,x1,x2,x3,rfl⟩
theorem sF{α:Type}:∀{l:List α},l.length=7→∃x0 x1 x2 x3 x4 x5 x6,l=[x0,x1,x2,x3,x4,x5,x6]
 |[x0,x1,x2,x3,x4,x5,x6],_=>⟨x0,x1,x2,x3,x4,x5,x6,rfl⟩
theorem qR{α:Type}:∀{l:List α},l.length=28→∃x0 x1 x2 x3 x4 x5 x6 x7 x8 x9 x10 x11 x12 x13 x14 x15 x16 x17 x18 x19 x20 x21 x22 x23 x24 x25 x26 x27,l=[x0,x1,x2,x3,x4,x5,x6,x7,x8,x9,x10,x11,x12,x13,x14,x15,x16,x17,x18,x19,x20,x21,x22,x23,x24,x25,x26,x27]
 |[x0,x1,x2,x3,x4,x5,x6,x7,x8,x9,x10,x11,x12,x13,x14,x15,x16,x17,x18,x19,x20,x21,x22,x23,x24,x25,x26,x27],_=>⟨x0,x1,x2,x3,x4,x5,x6,x7,x8,x9,x10,x11,x12,x13,x14,x15,x16,x17,x18,x19,x20,x21,x22,x23,x24,x25,x26,x27,rfl⟩
theorem qS{H:Type}{enc:TypeId×Value→H}{W:World}{base:Nat}{spare:Nat→Bool}{held:Bool}{fuel:Nat}{cs:List Value}{x:DataW H×List MemPlace}
  (h:DataW.trod enc Tryz.prog W base spare held fuel 29 cs=some x):∃v ml,cs=[v]∧eY W v ml∧buM ml≤Rows.uptoBulk x.1:=by
 rcases Go.Deep.open_slice Tryz.underlying29 h with⟨rfl,rfl⟩|⟨a,len,cap,m,n,D,Pl,rfl,hb,hl,hm,hmm,rfl,hx⟩
 ·exact⟨_,[],rfl,⟨none,0,rfl,ah _,fun h=>absurd rfl h⟩,by simp[buM]⟩
 ·have hlm:len≤m:=by rw[hmm];split<;>omega
  have cK:Tryz.prog.cellsOf 146=3:=by kernel_rfl
  have each:∀i,∃q:Md,i<len→W.cell? (a.add (i*3))=some (.int .i64 q.1)∧W.cell? (a.add (i*3+1))=some (.string ⟨q.2.1.toArray⟩)∧(∃u,W.cell? (a.add (i*3+2))=some u∧ct W u q.2.2)∧q.2.1.length+buS q.2.2+1≤Rows.uptoBulk (D i):=by
   intro i
   by_cases hi:i<len
   ·obtain⟨cs',h1,h2⟩:=hx i (by omega)
    rw[cK] at h1;obtain⟨_,hlen,hcell⟩:=World.cells?_some h1;obtain⟨xs,k,_,hy,hl2,hlen2,hf2⟩:=DataW.trod_struct Tryz.underlying146 h2;obtain⟨v0,v1,v2,rfl⟩:=sD hlen;obtain⟨y0,y1,y2,rfl⟩:=sD (show xs.length=3 from hlen2);have ki:Tryz.prog.cellsOf 3=1:=by kernel_rfl
    have ks:Tryz.prog.cellsOf 9=1:=by kernel_rfl
    have kb:Tryz.prog.cellsOf 4=1:=by kernel_rfl
    have kS:Tryz.prog.cellsOf 28=1:=by kernel_rfl
    have g0:DataW.trod enc Tryz.prog W base spare held k 3 [v0]=some y0:=by have h:=hf2 0 _ rfl;simpa[ki] using h
    have g1:DataW.trod enc Tryz.prog W base spare held k 9 [v1]=some y1:=by have h:=hf2 1 _ rfl;simpa[ks] using h
    have g2:DataW.trod enc Tryz.prog W base spare held k 28 [v2]=some y2:=by have h:=hf2 2 _ rfl;simpa[kS] using h
    have e0:=hcell 0 (by omega);have e1:=hcell 1 (by omega);have e2:=hcell 2 (by omega);rw[Go.Deep.add_add] at e0 e1 e2;obtain⟨z0,q0,r0,w0⟩:=DataW.trod_int Tryz.underlying3 g0;obtain⟨z1,q1,r1,_⟩:=DataW.trod_string Tryz.underlying9 g1;obtain⟨u2,z2,q2,h2S,r2⟩:=ib g2;have q0:=(aN q0).1;have q1:=(aN q1).1;have q2:=(aN q2).1;subst q0 q1 q2;refine⟨(z0,z1.data.toList,z2),fun _=>⟨by simpa using e0,by simpa using e1,⟨_,by simpa using e2,h2S⟩,?_⟩⟩;have e:D i=.agg [y0.1,y1.1,y2.1]:=congrArg Prod.fst hy;have r1:=congrArg Prod.fst r1
    try simp only at r1
    simp only[e,Rows.uptoBulk,Rows.uptoBulkAll,r1]
    try simp only at r2
    omega
   ·exact⟨(0,[],[]),fun h=>absurd h hi⟩
  let f:=fun i=>Classical.choose (each i)
  have hf:∀i,i<len→W.cell? (a.add (i*3))=some (.int .i64 (f i).1)∧W.cell? (a.add (i*3+1))=some (.string ⟨(f i).2.1.toArray⟩)∧(∃u,W.cell? (a.add (i*3+2))=some u∧ct W u (f i).2.2)∧(f i).2.1.length+buS (f i).2.2+1≤Rows.uptoBulk (D i):=fun i=>Classical.choose_spec (each i)
  have hlen:((List.range len).map f).length=len:=by simp
  refine⟨_,(List.range len).map f,rfl,⟨some a,cap,by rw[hlen],by rw[hlen];exact hl,fun h0=>?_⟩,?_⟩
  ·have hpos:0<len:=by
    rcases Nat.eq_zero_or_pos len with h|h
    ·subst h;exact absurd rfl h0
    ·exact h
   obtain⟨g,o,rfl⟩:=gi (hf 0 hpos).1 (by simp);refine⟨g,o,rfl,fun j y hj=>?_⟩;have hjl:j<len:=by have:=(List.getElem?_eq_some_iff.1 hj).1;simpa using this
   rw[List.getElem?_map,List.getElem?_range hjl] at hj;cases hj;obtain⟨c0,c1,⟨u,c2,d2⟩,_⟩:=hf j hjl;rw[Addr.add_lit] at c0;rw[Addr.add_lit,←Nat.add_assoc] at c1 c2;exact⟨c0,c1,u,c2,d2⟩
  ·have:=Cn D (fun i=>(f i).2.1.length+buS (f i).2.2+1) len (fun i hi=>(hf i hi).2.2.2)
   simp only[Rows.uptoBulk,buM,List.map_map];simp only[Function.comp_def] at this⊢
   omega
theorem qT{H:Type}{enc:TypeId×Value→H}{W:World}{base:Nat}{spare:Nat→Bool}{held:Bool}{fuel:Nat}{cs:List Value}{x:DataW H×List MemPlace}
  (h:DataW.trod enc Tryz.prog W base spare held fuel 31 cs=some x):∃v ml,cs=[v]∧ig W v ml∧buK ml≤Rows.uptoBulk x.1:=by
 rcases Go.Deep.open_slice Tryz.underlying31 h with⟨rfl,rfl⟩|⟨a,len,cap,m,n,D,Pl,rfl,hb,hl,hm,hmm,rfl,hx⟩
 ·exact⟨_,[],rfl,⟨none,0,rfl,ah _,fun h=>absurd rfl h⟩,by simp[buK]⟩
 ·have hlm:len≤m:=by rw[hmm];split<;>omega
  have cK:Tryz.prog.cellsOf 105=4:=by kernel_rfl
  have each:∀i,∃q:Ct,i<len→W.cell? (a.add (i*4))=some (.string ⟨q.oid.toArray⟩)∧W.cell? (a.add (i*4+1))=some (.bool q.crit)∧W.cell? (a.add (i*4+2))=some (.bool q.has)∧W.cell? (a.add (i*4+3))=some (.string ⟨q.value.toArray⟩)∧q.oid.length+q.value.length+1≤Rows.uptoBulk (D i):=by
   intro i
   by_cases hi:i<len
   ·obtain⟨cs',h1,h2⟩:=hx i (by omega)
    rw[cK] at h1;obtain⟨_,hlen,hcell⟩:=World.cells?_some h1;obtain⟨xs,k,_,hy,hl2,hlen2,hf2⟩:=DataW.trod_struct Tryz.underlying105 h2;obtain⟨v0,v1,v2,v3,rfl⟩:=sE hlen;obtain⟨y0,y1,y2,y3,rfl⟩:=sE (show xs.length=4 from hlen2);have ki:Tryz.prog.cellsOf 3=1:=by kernel_rfl
    have ks:Tryz.prog.cellsOf 9=1:=by kernel_rfl
    have kb:Tryz.prog.cellsOf 4=1:=by kernel_rfl
    have kS:Tryz.prog.cellsOf 28=1:=by kernel_rfl
    have g0:DataW.trod enc Tryz.prog W base spare held k 9 [v0]=some y0:=by have h:=hf2 0 _ rfl;simpa[ks] using h
    have g1:DataW.trod enc Tryz.prog W base spare held k 4 [v1]=some y1:=by have h:=hf2 1 _ rfl;simpa[kb] using h
    have g2:DataW.trod enc Tryz.prog W base spare held k 4 [v2]=some y2:=by have h:=hf2 2 _ rfl;simpa[kb] using h
    have g3:DataW.trod enc Tryz.prog W base spare held k 9 [v3]=some y3:=by have h:=hf2 3 _ rfl;simpa[ks] using h
    have e0:=hcell 0 (by omega);have e1:=hcell 1 (by omega);have e2:=hcell 2 (by omega);have e3:=hcell 3 (by omega);rw[Go.Deep.add_add] at e0 e1 e2 e3;obtain⟨z0,q0,r0,_⟩:=DataW.trod_string Tryz.underlying9 g0;obtain⟨z1,q1,r1⟩:=DataW.trod_bool Tryz.underlying4 g1;obtain⟨z2,q2,r2⟩:=DataW.trod_bool Tryz.underlying4 g2;obtain⟨z3,q3,r3,_⟩:=DataW.trod_string Tryz.underlying9 g3;have q0:=(aN q0).1;have q1:=(aN q1).1;have q2:=(aN q2).1;have q3:=(aN q3).1;subst q0 q1 q2 q3;refine⟨⟨z0.data.toList,z1,z2,z3.data.toList⟩,fun _=>⟨by simpa using e0,by simpa using e1,by simpa using e2,by simpa using e3,?_⟩⟩;have e:D i=.agg [y0.1,y1.1,y2.1,y3.1]:=congrArg Prod.fst hy;have r0:=congrArg Prod.fst r0;have r3:=congrArg Prod.fst r3
    try simp only at r0 r3
    simp only[e,Rows.uptoBulk,Rows.uptoBulkAll,r0,r3]
    omega
   ·exact⟨⟨[],false,false,[]⟩,fun h=>absurd h hi⟩
  let f:=fun i=>Classical.choose (each i)
  have hf:∀i,i<len→W.cell? (a.add (i*4))=some (.string ⟨(f i).oid.toArray⟩)∧W.cell? (a.add (i*4+1))=some (.bool (f i).crit)∧W.cell? (a.add (i*4+2))=some (.bool (f i).has)∧W.cell? (a.add (i*4+3))=some (.string ⟨(f i).value.toArray⟩)∧(f i).oid.length+(f i).value.length+1≤Rows.uptoBulk (D i):=fun i=>Classical.choose_spec (each i)
  have hlen:((List.range len).map f).length=len:=by simp
  refine⟨_,(List.range len).map f,rfl,⟨some a,cap,by rw[hlen],by rw[hlen];exact hl,fun h0=>?_⟩,?_⟩
  ·have hpos:0<len:=by
    rcases Nat.eq_zero_or_pos len with h|h
    ·subst h;exact absurd rfl h0
    ·exact h
   obtain⟨g,o,rfl⟩:=gi (hf 0 hpos).1 (by simp);refine⟨g,o,rfl,fun j y hj=>?_⟩;have hjl:j<len:=by have:=(List.getElem?_eq_some_iff.1 hj).1;simpa using this
   rw[List.getElem?_map,List.getElem?_range hjl] at hj;cases hj;obtain⟨c0,c1,c2,c3,_⟩:=hf j hjl;rw[Addr.add_lit] at c0;rw[Addr.add_lit,←Nat.add_assoc] at c1 c2 c3;exact⟨c0,c1,c2,c3⟩
  ·have:=Cn D (fun i=>(f i).oid.length+(f i).value.length+1) len (fun i hi=>(hf i hi).2.2.2.2)
   simp only[Rows.uptoBulk,buK,List.map_map];simp only[Function.comp_def] at this⊢
   omega
theorem qU{H:Type}{enc:TypeId×Value→H}{W:World}{base:Nat}{spare:Nat→Bool}{held:Bool}{fuel:Nat}{cs:List Value}{x:DataW H×List MemPlace}
  (h:DataW.trod enc Tryz.prog W base spare held fuel 27 cs=some x):∃v ml,cs=[v]∧de W v ml∧buF ml≤Rows.uptoBulk x.1∧∀p∈ml,p.n≤9223372036854775807:=by
 rcases Go.Deep.open_slice Tryz.underlying27 h with⟨rfl,rfl⟩|⟨a,len,cap,m,n,D,Pl,rfl,hb,hl,hm,hmm,rfl,hx⟩
 ·exact⟨_,[],rfl,⟨none,0,rfl,ah _,fun h=>absurd rfl h⟩,by simp[buF],by simp⟩
 ·have hlm:len≤m:=by rw[hmm];split<;>omega
  have cK:Tryz.prog.cellsOf 167=7:=by kernel_rfl
  have each:∀i,∃q:Fl,i<len→W.cell? (a.add (i*7))=some (.int .i64 q.op)∧W.cell? (a.add (i*7+1))=some (.int .i64 q.n)∧W.cell? (a.add (i*7+2))=some (.string ⟨q.typ.toArray⟩)∧W.cell? (a.add (i*7+3))=some (.string ⟨q.value.toArray⟩)∧W.cell? (a.add (i*7+4))=some (.string ⟨q.init.toArray⟩)∧W.cell? (a.add (i*7+5))=some (.string ⟨q.final.toArray⟩)∧(∃u,W.cell? (a.add (i*7+6))=some u∧ct W u q.any)∧q.op≤9223372036854775807∧q.n≤9223372036854775807∧q.typ.length+q.value.length+q.init.length+q.final.length+buS q.any+1≤Rows.uptoBulk (D i):=by
   intro i
   by_cases hi:i<len
   ·obtain⟨cs',h1,h2⟩:=hx i (by omega)
    rw[cK] at h1;obtain⟨_,hlen,hcell⟩:=World.cells?_some h1;obtain⟨xs,k,_,hy,hl2,hlen2,hf2⟩:=DataW.trod_struct Tryz.underlying167 h2;obtain⟨v0,v1,v2,v3,v4,v5,v6,rfl⟩:=sF hlen;obtain⟨y0,y1,y2,y3,y4,y5,y6,rfl⟩:=sF (show xs.length=7 from hlen2);have ki:Tryz.prog.cellsOf 3=1:=by kernel_rfl
    have ks:Tryz.prog.cellsOf 9=1:=by kernel_rfl
    have kb:Tryz.prog.cellsOf 4=1:=by kernel_rfl
    have kS:Tryz.prog.cellsOf 28=1:=by kernel_rfl
    have g0:DataW.trod enc Tryz.prog W base spare held k 3 [v0]=some y0:=by have h:=hf2 0 _ rfl;simpa[ki] using h
    have g1:DataW.trod enc Tryz.prog W base spare held k 3 [v1]=some y1:=by have h:=hf2 1 _ rfl;simpa[ki] using h
    have g2:DataW.trod enc Tryz.prog W base spare held k 9 [v2]=some y2:=by have h:=hf2 2 _ rfl;simpa[ks] using h
    have g3:DataW.trod enc Tryz.prog W base spare held k 9 [v3]=some y3:=by have h:=hf2 3 _ rfl;simpa[ks] using h
    have g4:DataW.trod enc Tryz.prog W base spare held k 9 [v4]=some y4:=by have h:=hf2 4 _ rfl;simpa[ks] using h
    have g5:DataW.trod enc Tryz.prog W base spare held k 9 [v5]=some y5:=by have h:=hf2 5 _ rfl;simpa[ks] using h
    have g6:DataW.trod enc Tryz.prog W base spare held k 28 [v6]=some y6:=by have h:=hf2 6 _ rfl;simpa[kS] using h
    have e0:=hcell 0 (by omega);have e1:=hcell 1 (by omega);have e2:=hcell 2 (by omega);have e3:=hcell 3 (by omega);have e4:=hcell 4 (by omega);have e5:=hcell 5 (by omega);have e6:=hcell 6 (by omega);rw[Go.Deep.add_add] at e0 e1 e2 e3 e4 e5 e6;obtain⟨z0,q0,r0,w0⟩:=DataW.trod_int Tryz.underlying3 g0;obtain⟨z1,q1,r1,w1⟩:=DataW.trod_int Tryz.underlying3 g1;obtain⟨z2,q2,r2,_⟩:=DataW.trod_string Tryz.underlying9 g2;obtain⟨z3,q3,r3,_⟩:=DataW.trod_string Tryz.underlying9 g3;obtain⟨z4,q4,r4,_⟩:=DataW.trod_string Tryz.underlying9 g4;obtain⟨z5,q5,r5,_⟩:=DataW.trod_string Tryz.underlying9 g5;obtain⟨u6,z6,q6,h6S,r6⟩:=ib g6;have q0:=(aN q0).1;have q1:=(aN q1).1;have q2:=(aN q2).1;have q3:=(aN q3).1;have q4:=(aN q4).1;have q5:=(aN q5).1;have q6:=(aN q6).1;subst q0 q1 q2 q3 q4 q5 q6;refine⟨⟨z0,z1,z2.data.toList,z3.data.toList,z4.data.toList,z5.data.toList,z6⟩,fun _=>⟨by simpa using e0,by simpa using e1,by simpa using e2,by simpa using e3,by simpa using e4,by simpa using e5,⟨_,by simpa using e6,h6S⟩,Bm w0,Bm w1,?_⟩⟩;have e:D i=.agg [y0.1,y1.1,y2.1,y3.1,y4.1,y5.1,y6.1]:=congrArg Prod.fst hy;have r2:=congrArg Prod.fst r2;have r3:=congrArg Prod.fst r3;have r4:=congrArg Prod.fst r4;have r5:=congrArg Prod.fst r5
    try simp only at r2 r3 r4 r5
    simp only[e,Rows.uptoBulk,Rows.uptoBulkAll,r2,r3,r4,r5]
    try simp only at r6
    omega
   ·exact⟨⟨0,0,[],[],[],[],[]⟩,fun h=>absurd h hi⟩
  let f:=fun i=>Classical.choose (each i)
  have hf:∀i,i<len→W.cell? (a.add (i*7))=some (.int .i64 (f i).op)∧W.cell? (a.add (i*7+1))=some (.int .i64 (f i).n)∧W.cell? (a.add (i*7+2))=some (.string ⟨(f i).typ.toArray⟩)∧W.cell? (a.add (i*7+3))=some (.string ⟨(f i).value.toArray⟩)∧W.cell? (a.add (i*7+4))=some (.string ⟨(f i).init.toArray⟩)∧W.cell? (a.add (i*7+5))=some (.string ⟨(f i).final.toArray⟩)∧(∃u,W.cell? (a.add (i*7+6))=some u∧ct W u (f i).any)∧(f i).op≤9223372036854775807∧(f i).n≤9223372036854775807∧(f i).typ.length+(f i).value.length+(f i).init.length+(f i).final.length+buS (f i).any+1≤Rows.uptoBulk (D i):=fun i=>Classical.choose_spec (each i)
  have hlen:((List.range len).map f).length=len:=by simp
  refine⟨_,(List.range len).map f,rfl,⟨some a,cap,by rw[hlen],by rw[hlen];exact hl,fun h0=>?_⟩,?_,?_⟩
  ·have hpos:0<len:=by
    rcases Nat.eq_zero_or_pos len with h|h
    ·subst h;exact absurd rfl h0
    ·exact h
   obtain⟨g,o,rfl⟩:=gi (hf 0 hpos).1 (by simp);refine⟨g,o,rfl,fun j y hj=>?_⟩;have hjl:j<len:=by have:=(List.getElem?_eq_some_iff.1 hj).1;simpa using this
   rw[List.getElem?_map,List.getElem?_range hjl] at hj;cases hj;obtain⟨c0,c1,c2,c3,c4,c5,⟨u,c6,d6⟩,_⟩:=hf j hjl;rw[Addr.add_lit] at c0;rw[Addr.add_lit,←Nat.add_assoc] at c1 c2 c3 c4 c5 c6;exact⟨c0,c1,c2,c3,c4,c5,u,c6,d6⟩
  ·have:=Cn D (fun i=>(f i).typ.length+(f i).value.length+(f i).init.length+(f i).final.length+buS (f i).any+1) len (fun i hi=>(hf i hi).2.2.2.2.2.2.2.2.2)
   simp only[Rows.uptoBulk,buF,List.map_map];simp only[Function.comp_def] at this⊢
   omega
  ·intro p hp
   simp only[List.mem_map,List.mem_range] at hp;obtain⟨i,hi,rfl⟩:=hp;exact(hf i hi).2.2.2.2.2.2.2.2.1
def buG(m:Mg)(l:Ls):Nat:=m.dn.length+m.secret.length+m.newRdn.length+m.newSup.length+m.typ.length+m.value.length+m.oid.length+m.matched.length+m.text.length+buF l.filt+buS l.sel+buM l.mods+buA l.attrs+buK l.ctl
theorem pu{H:Type}{enc:TypeId×Value→H}{W:World}{base:Nat}{spare:Nat→Bool}{held:Bool}{fuel:Nat}{cs:List Value}{x:DataW H×List MemPlace}
  (h:DataW.trod enc Tryz.prog W base spare held fuel 33 cs=some x):∃m l,cs=(Mg.row m).toList∧MgM W m l∧buG m l≤Rows.uptoBulk x.1∧∀p∈l.filt,p.n≤9223372036854775807:=by
 obtain⟨xs,n,_,rfl,hl,hlen,hf⟩:=DataW.trod_struct Tryz.underlying33 h;have c28:Tryz.prog.cellsOf 33=28:=by kernel_rfl
 rw[c28] at hl;obtain⟨v0,v1,v2,v3,v4,v5,v6,v7,v8,v9,v10,v11,v12,v13,v14,v15,v16,v17,v18,v19,v20,v21,v22,v23,v24,v25,v26,v27,rfl⟩:=qR hl;obtain⟨y0,y1,y2,y3,y4,y5,y6,y7,y8,y9,y10,y11,y12,y13,y14,y15,y16,y17,y18,y19,y20,y21,y22,y23,y24,y25,y26,y27,rfl⟩:=qR (show xs.length=28 from hlen);have ki:Tryz.prog.cellsOf 3=1:=by kernel_rfl
 have ks:Tryz.prog.cellsOf 9=1:=by kernel_rfl
 have kb:Tryz.prog.cellsOf 4=1:=by kernel_rfl
 have kvF:Tryz.prog.cellsOf 27=1:=by kernel_rfl
 have kvS:Tryz.prog.cellsOf 28=1:=by kernel_rfl
 have kvM:Tryz.prog.cellsOf 29=1:=by kernel_rfl
 have kvA:Tryz.prog.cellsOf 30=1:=by kernel_rfl
 have kvK:Tryz.prog.cellsOf 31=1:=by kernel_rfl
 have g0:DataW.trod enc Tryz.prog W base spare held n 3 [v0]=some y0:=by have h:=hf 0 _ rfl;simpa[ki,ks,kb,kvF,kvS,kvM,kvA,kvK] using h
 have g1:DataW.trod enc Tryz.prog W base spare held n 3 [v1]=some y1:=by have h:=hf 1 _ rfl;simpa[ki,ks,kb,kvF,kvS,kvM,kvA,kvK] using h
 have g2:DataW.trod enc Tryz.prog W base spare held n 9 [v2]=some y2:=by have h:=hf 2 _ rfl;simpa[ki,ks,kb,kvF,kvS,kvM,kvA,kvK] using h
 have g3:DataW.trod enc Tryz.prog W base spare held n 3 [v3]=some y3:=by have h:=hf 3 _ rfl;simpa[ki,ks,kb,kvF,kvS,kvM,kvA,kvK] using h
 have g4:DataW.trod enc Tryz.prog W base spare held n 4 [v4]=some y4:=by have h:=hf 4 _ rfl;simpa[ki,ks,kb,kvF,kvS,kvM,kvA,kvK] using h
 have g5:DataW.trod enc Tryz.prog W base spare held n 9 [v5]=some y5:=by have h:=hf 5 _ rfl;simpa[ki,ks,kb,kvF,kvS,kvM,kvA,kvK] using h
 have g6:DataW.trod enc Tryz.prog W base spare held n 3 [v6]=some y6:=by have h:=hf 6 _ rfl;simpa[ki,ks,kb,kvF,kvS,kvM,kvA,kvK] using h
 have g7:DataW.trod enc Tryz.prog W base spare held n 3 [v7]=some y7:=by have h:=hf 7 _ rfl;simpa[ki,ks,kb,kvF,kvS,kvM,kvA,kvK] using h
 have g8:DataW.trod enc Tryz.prog W base spare held n 3 [v8]=some y8:=by have h:=hf 8 _ rfl;simpa[ki,ks,kb,kvF,kvS,kvM,kvA,kvK] using h
 have g9:DataW.trod enc Tryz.prog W base spare held n 3 [v9]=some y9:=by have h:=hf 9 _ rfl;simpa[ki,ks,kb,kvF,kvS,kvM,kvA,kvK] using h
 have g10:DataW.trod enc Tryz.prog W base spare held n 4 [v10]=some y10:=by have h:=hf 10 _ rfl;simpa[ki,ks,kb,kvF,kvS,kvM,kvA,kvK] using h
 have g11:DataW.trod enc Tryz.prog W base spare held n 27 [v11]=some y11:=by have h:=hf 11 _ rfl;simpa[ki,ks,kb,kvF,kvS,kvM,kvA,kvK] using h
 have g12:DataW.trod enc Tryz.prog W base spare held n 28 [v12]=some y12:=by have h:=hf 12 _ rfl;simpa[ki,ks,kb,kvF,kvS,kvM,kvA,kvK] using h
 have g13:DataW.trod enc Tryz.prog W base spare held n 29 [v13]=some y13:=by have h:=hf 13 _ rfl;simpa[ki,ks,kb,kvF,kvS,kvM,kvA,kvK] using h
 have g14:DataW.trod enc Tryz.prog W base spare held n 30 [v14]=some y14:=by have h:=hf 14 _ rfl;simpa[ki,ks,kb,kvF,kvS,kvM,kvA,kvK] using h
 have g15:DataW.trod enc Tryz.prog W base spare held n 9 [v15]=some y15:=by have h:=hf 15 _ rfl;simpa[ki,ks,kb,kvF,kvS,kvM,kvA,kvK] using h
 have g16:DataW.trod enc Tryz.prog W base spare held n 9 [v16]=some y16:=by have h:=hf 16 _ rfl;simpa[ki,ks,kb,kvF,kvS,kvM,kvA,kvK] using h
 have g17:DataW.trod enc Tryz.prog W base spare held n 4 [v17]=some y17:=by have h:=hf 17 _ rfl;simpa[ki,ks,kb,kvF,kvS,kvM,kvA,kvK] using h
 have g18:DataW.trod enc Tryz.prog W base spare held n 4 [v18]=some y18:=by have h:=hf 18 _ rfl;simpa[ki,ks,kb,kvF,kvS,kvM,kvA,kvK] using h
 have g19:DataW.trod enc Tryz.prog W base spare held n 9 [v19]=some y19:=by have h:=hf 19 _ rfl;simpa[ki,ks,kb,kvF,kvS,kvM,kvA,kvK] using h
 have g20:DataW.trod enc Tryz.prog W base spare held n 9 [v20]=some y20:=by have h:=hf 20 _ rfl;simpa[ki,ks,kb,kvF,kvS,kvM,kvA,kvK] using h
 have g21:DataW.trod enc Tryz.prog W base spare held n 9 [v21]=some y21:=by have h:=hf 21 _ rfl;simpa[ki,ks,kb,kvF,kvS,kvM,kvA,kvK] using h
 have g22:DataW.trod enc Tryz.prog W base spare held n 4 [v22]=some y22:=by have h:=hf 22 _ rfl;simpa[ki,ks,kb,kvF,kvS,kvM,kvA,kvK] using h
 have g23:DataW.trod enc Tryz.prog W base spare held n 3 [v23]=some y23:=by have h:=hf 23 _ rfl;simpa[ki,ks,kb,kvF,kvS,kvM,kvA,kvK] using h
 have g24:DataW.trod enc Tryz.prog W base spare held n 3 [v24]=some y24:=by have h:=hf 24 _ rfl;simpa[ki,ks,kb,kvF,kvS,kvM,kvA,kvK] using h
 have g25:DataW.trod enc Tryz.prog W base spare held n 9 [v25]=some y25:=by have h:=hf 25 _ rfl;simpa[ki,ks,kb,kvF,kvS,kvM,kvA,kvK] using h
 have g26:DataW.trod enc Tryz.prog W base spare held n 9 [v26]=some y26:=by have h:=hf 26 _ rfl;simpa[ki,ks,kb,kvF,kvS,kvM,kvA,kvK] using h
 have g27:DataW.trod enc Tryz.prog W base spare held n 31 [v27]=some y27:=by have h:=hf 27 _ rfl;simpa[ki,ks,kb,kvF,kvS,kvM,kvA,kvK] using h
 clear hf;obtain⟨z0,q0,r0,_⟩:=DataW.trod_int Tryz.underlying3 g0;obtain⟨z1,q1,r1,_⟩:=DataW.trod_int Tryz.underlying3 g1;obtain⟨z2,q2,r2,_⟩:=DataW.trod_string Tryz.underlying9 g2;obtain⟨z3,q3,r3,_⟩:=DataW.trod_int Tryz.underlying3 g3;obtain⟨z4,q4,r4⟩:=DataW.trod_bool Tryz.underlying4 g4;obtain⟨z5,q5,r5,_⟩:=DataW.trod_string Tryz.underlying9 g5;obtain⟨z6,q6,r6,_⟩:=DataW.trod_int Tryz.underlying3 g6;obtain⟨z7,q7,r7,_⟩:=DataW.trod_int Tryz.underlying3 g7;obtain⟨z8,q8,r8,_⟩:=DataW.trod_int Tryz.underlying3 g8;obtain⟨z9,q9,r9,_⟩:=DataW.trod_int Tryz.underlying3 g9;obtain⟨z10,q10,r10⟩:=DataW.trod_bool Tryz.underlying4 g10;obtain⟨u11,z11,q11,h11S,r11,w11⟩:=qU g11;obtain⟨u12,z12,q12,h12S,r12⟩:=ib g12;obtain⟨u13,z13,q13,h13S,r13⟩:=qS g13;obtain⟨u14,z14,q14,h14S,r14⟩:=pt g14;obtain⟨z15,q15,r15,_⟩:=DataW.trod_string Tryz.underlying9 g15;obtain⟨z16,q16,r16,_⟩:=DataW.trod_string Tryz.underlying9 g16;obtain⟨z17,q17,r17⟩:=DataW.trod_bool Tryz.underlying4 g17;obtain⟨z18,q18,r18⟩:=DataW.trod_bool Tryz.underlying4 g18;obtain⟨z19,q19,r19,_⟩:=DataW.trod_string Tryz.underlying9 g19;obtain⟨z20,q20,r20,_⟩:=DataW.trod_string Tryz.underlying9 g20;obtain⟨z21,q21,r21,_⟩:=DataW.trod_string Tryz.underlying9 g21;obtain⟨z22,q22,r22⟩:=DataW.trod_bool Tryz.underlying4 g22;obtain⟨z23,q23,r23,_⟩:=DataW.trod_int Tryz.underlying3 g23;obtain⟨z24,q24,r24,_⟩:=DataW.trod_int Tryz.underlying3 g24;obtain⟨z25,q25,r25,_⟩:=DataW.trod_string Tryz.underlying9 g25;obtain⟨z26,q26,r26,_⟩:=DataW.trod_string Tryz.underlying9 g26;obtain⟨u27,z27,q27,h27S,r27⟩:=qT g27;have q0:=(aN q0).1;have q1:=(aN q1).1;have q2:=(aN q2).1;have q3:=(aN q3).1;have q4:=(aN q4).1;have q5:=(aN q5).1;have q6:=(aN q6).1;have q7:=(aN q7).1;have q8:=(aN q8).1;have q9:=(aN q9).1;have q10:=(aN q10).1;have q11:=(aN q11).1;have q12:=(aN q12).1;have q13:=(aN q13).1;have q14:=(aN q14).1;have q15:=(aN q15).1;have q16:=(aN q16).1;have q17:=(aN q17).1;have q18:=(aN q18).1;have q19:=(aN q19).1;have q20:=(aN q20).1;have q21:=(aN q21).1;have q22:=(aN q22).1;have q23:=(aN q23).1;have q24:=(aN q24).1;have q25:=(aN q25).1;have q26:=(aN q26).1;have q27:=(aN q27).1;subst q0 q1 q2 q3 q4 q5 q6 q7 q8 q9 q10 q11 q12 q13 q14 q15 q16 q17 q18 q19 q20 q21 q22 q23 q24 q25 q26 q27;refine⟨{id:=z0,op:=z1,dn:=z2.data.toList,ver:=z3,sasl:=z4,secret:=z5.data.toList,scope:=z6,deref:=z7,size:=z8,time:=z9,types:=z10,filt:=v11,sel:=v12,mods:=v13,attrs:=v14,newRdn:=z15.data.toList,newSup:=z16.data.toList,delOld:=z17,hasSup:=z18,typ:=z19.data.toList,value:=z20.data.toList,oid:=z21.data.toList,has:=z22,target:=z23,code:=z24,matched:=z25.data.toList,text:=z26.data.toList,ctl:=v27},⟨z11,z12,z13,z14,z27⟩,by simp[Mg.row],⟨h11S,h12S,h13S,h14S,h27S⟩,?_,w11⟩
 have r2:=congrArg Prod.fst r2;have r5:=congrArg Prod.fst r5;have r15:=congrArg Prod.fst r15;have r16:=congrArg Prod.fst r16;have r19:=congrArg Prod.fst r19;have r20:=congrArg Prod.fst r20;have r21:=congrArg Prod.fst r21;have r25:=congrArg Prod.fst r25;have r26:=congrArg Prod.fst r26
 try simp only at r2 r5 r15 r16 r19 r20 r21 r25 r26
 simp only[List.map_cons,List.map_nil,Rows.uptoBulk,Rows.uptoBulkAll,r2,r5,r15,r16,r19,r20,r21,r25,r26,buG]
 omega
theorem si{H:Type}{enc:TypeId×Value→H}{W:World}{base b0:Nat}{spare:Nat→Bool}{held:Bool}{r:Reach}{v:Value}{d:DataW H}{p:List MemPlace}
  (hv:Value.okWide Tryz.prog W r b0 33 v) (h:DataW.Trod enc Tryz.prog W base spare held 33 v d p):
  ∃m l,v=.agg (Mg.row m)∧MgM W m l∧buG m l≤Rows.uptoBulk d∧∀p∈l.filt,p.n≤9223372036854775807:=by
 obtain⟨cs,rfl,_⟩:=okWide_struct Tryz.underlying33 hv;obtain⟨fuel,hf⟩:=h;obtain⟨m,l,hc,h1,h2⟩:=pu hf;refine⟨m,l,?_,h1,h2⟩;rw[Array.toList_inj.1 (show cs.toList=(Mg.row m).toList from hc)]
theorem gz{α:Type}(f:α→Nat):∀(l:List α) (x:α),x∈l→f x≤(l.map f).sum
 |y::l,x,h=>by
  rcases aY.1 h with rfl|h
  ·simp
  ·have:=gz f l x h;simp;omega
theorem wV{α:Type}(f:α→Nat)(hf:∀x,1≤f x):∀(l:List α),l.length≤(l.map f).sum
 |[]=>by simp
 |y::l=>by have:=wV f hf l;have:=hf y;simp;omega
theorem kH{ls:List (List UInt8)}{n:Nat}(h:buS ls≤n):ls.length≤n∧∀s∈ls,s.length≤n:=by
 unfold buS at h;refine⟨by have:=wV (fun l:List UInt8=>l.length+1) (by intro x;omega) ls;omega,fun s hs=>?_⟩;have:=gz (fun l:List UInt8=>l.length+1) ls s hs
 try simp only at this
 omega
theorem tq{m:Mg}{l:Ls}(h:buG m l≤1048576)(hn:∀p∈l.filt,p.n≤9223372036854775807):LsOk m l:=by
 unfold buG at h;have s1:=kH (ls:=l.sel) (n:=1048576) (by omega);have lf:=wV (fun p:Fl=>p.typ.length+p.value.length+p.init.length+p.final.length+buS p.any+1) (by intro x;omega) l.filt;have lm:=wV (fun x:Md=>x.2.1.length+buS x.2.2+1) (by intro x;omega) l.mods;have la:=wV (fun x:List UInt8×List (List UInt8)=>x.1.length+buS x.2+1) (by intro x;omega) l.attrs;have lk:=wV (fun x:Ct=>x.oid.length+x.value.length+1) (by intro x;omega) l.ctl;simp only[buF,buM,buA,buK] at h;refine⟨by omega,by omega,by omega,by omega,by omega,by omega,by omega,by omega,by omega,⟨by omega,fun p hp=>?_⟩,by omega,fun s hs=>?_,by omega,fun x hx=>?_,⟨by omega,fun x hx=>?_⟩,by omega,fun c hc=>?_⟩
 ·have:=gz (fun p:Fl=>p.typ.length+p.value.length+p.init.length+p.final.length+buS p.any+1) l.filt p hp
  try simp only at this
  have hb:=kH (ls:=p.any) (n:=1048576) (by omega);exact⟨⟨by omega,by omega,by omega,by omega,by omega,fun s hs=>by have:=hb.2 s hs;omega⟩,hn p hp⟩
 ·have:=s1.2 s hs;omega
 ·have:=gz (fun x:Md=>x.2.1.length+buS x.2.2+1) l.mods x hx
  try simp only at this
  have hb:=kH (ls:=x.2.2) (n:=1048576) (by omega);exact⟨by omega,by omega,fun s hs=>by have:=hb.2 s hs;omega⟩
 ·have:=gz (fun x:List UInt8×List (List UInt8)=>x.1.length+buS x.2+1) l.attrs x hx
  try simp only at this
  have hb:=kH (ls:=x.2) (n:=1048576) (by omega)
  first|exact⟨by omega,by omega,fun s hs=>by have:=hb.2 s hs;omega⟩|exact⟨by omega,⟨by omega,fun s hs=>by have:=hb.2 s hs;omega⟩⟩
 ·have:=gz (fun x:Ct=>x.oid.length+x.value.length+1) l.ctl c hc
  try simp only at this
  exact⟨by omega,by omega⟩
end Go.Proofs.YthpcpdplcicfoaaGreatDoor
