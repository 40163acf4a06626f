/- LawCa, OpenMsg, OpenMsgs. -/
import Derived.Deep.SlicePairs
import Derived.Deep.Strs
import Derived.Lib.SmallJoins
import Derived.Test.YtfhghdcbofbceaaGreatDoorX23
namespace Go.Proofs.YtfhghdcbofbceaaGreatDoor
open Go.RowKit Go.Lib
open Go.Shelf Go.ChangeShapes Go.WideShapes Go.ChangeAt Go.RowKit Go.Lib
set_option maxRecDepth 100000
set_option maxHeartbeats 16000000
structure CaZ (w:World) (j:Nat) (Zs:List (Mg×Ls)):Prop where
 ok:∀z∈Zs,MgM w z.1 z.2∧LsOk z.1 z.2
 good:∀y∈Zs.map pl2,Good y∧y.1.op≠23∧2≤y.1.id∧y.1.id≤(j:Int)+1
 ids:((Zs.map pl2).map (·.1.id)).Nodup
theorem CaZ.mono{w:World}{j k:Nat}{Zs:List (Mg×Ls)}(h:CaZ w j Zs)(hk:j≤k):CaZ w k Zs:=⟨h.ok,fun y hy=>by obtain⟨h1,h2,h3,h4⟩:=h.good y hy;exact⟨h1,h2,h3,by omega⟩,h.ids⟩
theorem CaZ.snoc{w:World}{j:Nat}{Zs:List (Mg×Ls)}{m:Mg}{l:Ls}(h:CaZ w j Zs)(h1:MgM w m l)(h2:LsOk m l)(h3:Good (pl2 (m,l)))(h4:m.op≠23)(h5:m.id=(j:Int)+2):CaZ w (j+1) (Zs++[(m,l)]):=by
 refine⟨fun z hz=>?_,fun y hy=>?_,?_⟩
 ·rcases List.mem_append.1 hz with q|q
  ·exact h.ok z q
  ·rw[List.mem_singleton] at q;rw[q];exact⟨h1,h2⟩
 ·rw[List.map_append] at hy
  rcases List.mem_append.1 hy with q|q
  ·obtain⟨g1,g2,g3,g4⟩:=h.good y q
   exact⟨g1,g2,g3,by omega⟩
  ·have q:y=pl2 (m,l):=by simpa using q
   rw[q];exact⟨h3,h4,by show 2≤m.id;omega,by show m.id≤_;omega⟩
 ·rw[List.map_append,List.map_append,List.nodup_append]
  refine⟨h.ids,by simp,fun a ha b hb=>?_⟩;obtain⟨z,hz,rfl⟩:=List.mem_map.1 ha;have h6:=(h.good z hz).2.2.2;have h7:b=m.id:=by simpa[pl2,Mg.pl] using hb
  rw[h7,h5]
  omega
theorem CaZ.f{w:World}{j:Nat}{Zs:List (Mg×Ls)}(h:CaZ w j Zs)(hl:Zs.length≤12):CaF (Zs.map pl2):=⟨fun z hz=>(h.good z hz).1,h.ids,fun z hz=>(h.good z hz).2.1,by simpa using hl⟩
def CaS(k:Nat)(Zs:List (Mg×Ls))(st bd:Value):Prop:=
 (st=.int .i64 (-1)∧bd=Bf∧∀z∈Zs,z.1.id≠(k:Int))∨∃(p:Nat) (z:Mg×Ls),st=.int .i64 (p:Int)∧bd=.bool (z.1.op==0)∧Zs[p]?=some z∧z.1.id=(k:Int)
theorem CaS.snoc{k:Nat}{Zs:List (Mg×Ls)}{st bd:Value}{z:Mg×Ls}(h:CaS k Zs st bd)(hz:z.1.id≠(k:Int)):CaS k (Zs++[z]) st bd:=by
 rcases h with⟨h1,h2,h3⟩|⟨p,y,h1,h2,h3,h4⟩
 ·refine .inl ⟨h1,h2,fun x hx=>?_⟩
  rcases List.mem_append.1 hx with q|q
  ·exact h3 x q
  ·rw[List.mem_singleton] at q;rw[q];exact hz
 ·exact .inr ⟨p,y,h1,h2,by rw[List.getElem?_append_left (List.getElem?_eq_some_iff.1 h3).1];exact h3,h4⟩
def ES(w:World)(C n k:Nat)(v st bd i:Value)(wr:World):Prop:=
 ∃(j:Nat) (Zs:List (Mg×Ls)) (P X:Nat→Prop),j≤n∧i=.int .i64 (j:Int)∧Zs.length≤j∧dc P X C {} wr∧(Hm w X wr∧∀g,P g→g=C)∧CaZ w j Zs∧CaS k Zs st bd∧wr.ownsRow w.heap.size 32 28 v Zs.length (cC (Zs.map (·.1)))∧(∀g,v.ownBlock=some g→g≠C)
theorem ES.bel{w wr wx:World}{C n k:Nat}{v st bd i:Value}(h:ES w C n k v st bd i wr)(hb:Bw wr wx):ES w C n k v st bd i wx:=by
 obtain⟨j,Zs,P,X,h1,h2,h3,h4,h5,h6,h7,h8,h9⟩:=h;exact⟨j,Zs,P,X,h1,h2,h3,h4.bel hb,⟨h5.1.bels hb,h5.2⟩,h6,h7,ge h8 hb,h9⟩
def Ca2(w:World)(C k:Nat)(Zs:List (Mg×Ls))(v i:Value)(wr:World):Prop:=
 ∃(q:Nat) (P X:Nat→Prop),q≤Zs.length∧i=.int .i64 (q:Int)∧dc P X C (stA none [] ((xt k,{})::(Zs.map pl2).take q)) wr∧Hm w X wr∧wr.ownsRow w.heap.size 32 28 v Zs.length (cC (Zs.map (·.1)))∧∀g,v.ownBlock=some g→¬P g
theorem dc.xP{P X:Nat→Prop}{C:Nat}{s:Cs}{w:World}(h:dc P X C s w):∀g,X g→P g:=by
 obtain⟨_,_,_,_,_,_,h⟩:=h;exact h.b.xP
def CaQ(w:World)(C k:Nat)(Zs:List (Mg×Ls))(v' cd wt:Value)(wx:World):Prop:=
 ∃(Zt:List (Mg×Ls)) (code:Int) (want:List UInt8) (P X:Nat→Prop),cd=.int .i64 code∧wt=.string ⟨want.toArray⟩∧dc P X C (stA none [] ((xt k,{})::Zs.map pl2)) wx∧Hm w X wx∧(∀z∈Zt,z∈Zs)∧CaF (Zt.map pl2)∧
  Cs.cancels {ms:=Zs.map pl2} (xt k)={ms:=Zt.map pl2,out:=want++(cR (xu 1 24 code) {}).1}∧wx.ownsRow w.heap.size 32 28 v' Zt.length (cC (Zt.map (·.1)))∧(∀g,v'.ownBlock=some g→¬P g)∧want.length≤65536
theorem Fk(m:Mg)(l:Ls):(cR m l).1.length≤65536:=by
 by_cases h:(cR m l).2=0
 ·exact jM h
 ·rw[Fj h];simp
theorem FX{w:World}{Zs:List (Mg×Ls)}(h:∀z∈Zs,MgM w z.1 z.2):∀u∈cC (Zs.map (·.1)),u.oneCell'=true:=fun u hu=>by
 unfold cC at hu;obtain⟨r,hr,hur⟩:=List.mem_flatten.1 hu;obtain⟨m,hm,rfl⟩:=List.mem_map.1 hr;obtain⟨z,hz,rfl⟩:=List.mem_map.1 hm;exact(Array.all_eq_true_iff_forall_mem.1 (Eo (h z hz))) u (by simpa using hur)
theorem FY{w:World}{A B:Nat}{e:TypeId}{k n:Nat}{v:Value}{xs:List Value}(h:w.ownsRow B e k v n xs)(hb:A≤B):w.ownsRow A e k v n xs:=by
 refine⟨h.1,?_⟩;rcases h.2 with hn|⟨g,cap,cur,hv,hg,rest⟩
 ·exact .inl hn
 ·exact .inr ⟨g,cap,cur,hv,Nat.le_trans hb hg,rest⟩
theorem F7{p q c:Nat}(hp:p<q)(hq:q≤12)(hc:q≤c):p≤c∧(p+1)*28≠0∧min (p*28) (q*28)=p*28∧0+p≤maxLen∧(0+p)*368≤140737488355328∧q*28 -(p+1)*28=(q -(p+1))*28∧0+p+(q -(p+1))≤maxLen∧(0+p+(q -(p+1)))*368≤140737488355328∧q -1=0+p+(q -(p+1))∧∀j,j<q*28 -(p+1)*28→¬c=p+1:=by
 unfold maxLen;refine⟨?_,?_,?_,?_,?_,?_,?_,?_,?_,fun j hj e=>?_⟩<;>omega
theorem Fc(v:Value)(ys:List (Mg×Ls))(id:Int)(w:World)(hv:BC w v ys)(hk:∀y∈ys,LsOk y.1 y.2)(hE:Env w):
  Cr 3 #[v,.int .i64 id] w (.bool true):=by
 obtain⟨i0,hi0,hz0,hz1,hz2⟩:=info_parts Tryz.infoMessage;obtain⟨n,hn⟩:=nmm ys.length;obtain⟨av,cap,rfl⟩:∃a c,v=.slice a n c:=by obtain⟨a,c,h1,_⟩:=hv;exact⟨a,c,by rw[h1,hn]⟩
 obtain⟨HV,HK,HN⟩:=Ch hv hk hn;have bw:=aA w.heap.size w;clear hv hk hn
 go_enter Tryz.func3,Tryz.ntmps3
 by_cases hbig:12<n∨id<0∨20<id
 ·have ka:=Fx w hE
  have dd:decide ((n:Int)>12)=true∨(decide ((n:Int)>12)=false∧decide (id<0)=true)∨(decide ((n:Int)>12)=false∧decide (id<0)=false∧decide (id>20)=true):=by
   by_cases h9:12<n
   ·exact .inl (aC (by omega))
   ·by_cases h8:id<0
    ·exact .inr (.inl ⟨an (by omega),aC h8⟩)
    ·exact .inr (.inr ⟨an (by omega),an h8,aC (by omega)⟩)
  clear hbig;rcases dd with d1|⟨d1,d2⟩|⟨d1,d2,d3⟩
  all_goals
   go_wp2_with fail
   refine ag ka ?_;rintro e wE ⟨rfl,hbE⟩;have bE:=cM bw hbE;clear ka hbE
   go_wp2_with fail
   go_ret
   exact⟨rfl,bE⟩
 ·obtain⟨k,rfl⟩:∃k:Nat,id=(k:Int):=⟨id.toNat,by omega⟩
  have d1:decide ((n:Int)>12)=false:=an (by omega);have d2:decide ((k:Int)<0)=false:=an (by omega);have d3:decide ((k:Int)>20)=false:=an (by omega);obtain⟨HL,HEV⟩:=Cg (show n≤12∧k<21 from⟨by omega,by omega⟩) hE;have kn:=nM w;clear hbig hE bw
  go_wp2_with fail
  refine ag kn ?_;rintro e w1 ⟨rfl,h1,b1⟩;have m1:Hm w (Xc w.heap.size) w1:=⟨HEV.out,b1,fun g hg=>by rw[show g=_ from hg];exact ah _⟩;obtain⟨C,hC⟩:=nmm w.heap.size;have HREL:=Lib.hid (show ES w C n k (Sn) (.int .i64 (-1)) (Bf) (I0) w1 from⟨0,[],Xc C,Xc C,Nat.zero_le _,rfl,ah _,hC▸h1,⟨hC▸m1,fun _ q=>q⟩,⟨(fun z hz=>by cases hz),(fun z hz=>by cases hz),List.nodup_nil⟩,.inl ⟨rfl,rfl,fun z hz=>by cases hz⟩,World.ownsRow_nil _ _ _ _,fun g hg=>by cases hg⟩);have hCw:Hid (w.heap.size=C):=Lib.hid hC;clear kn h1 b1 m1 hC d1 d2 d3;rw[hCw.out]
  go_wp2_with fail
  go_loopw [6,7,8,9] (fun v st bd i wr=>ES w C n k v st bd i wr) (fun _ _ _ i _=>n -(RowKit.intOf i).toNat)
  case atStart=>exact HREL.out
  case round=>
   obtain⟨j,Zs,P,X,hj,rfl,hzl,hcn,⟨hhm,hPC⟩,hzs,hcs,hown,hvP⟩:=hrel
   by_cases hlt:j<n
   ·have g1:decide ((j:Int)<(n:Int))=true:=aC (by omega)
    have hk1:(j:Int)<(n:Int):=by omega
    obtain⟨y,hy⟩:∃y,ys[j]?=some y:=⟨_,aM (by rw[HN.out];exact hlt)⟩;obtain⟨a0,q0,e0,_,hq⟩:=HV.out;obtain⟨g,o,ea,hqq⟩:=hq (by intro e;rw[e] at hy;cases hy)
    injection e0 with e1 e2 e3
    rw[ea] at e1;subst e1;obtain⟨hr0,hm0⟩:=hqq j y hy;have hbel:=hhm.bel;have hrng:wr.rangeAt g (o+j*28) y.1.row.toList:=fun i x hi=>(hbel.cell (bj (hr0 i x hi))).trans (hr0 i x hi)
    have hmr:MgM wr y.1 y.2:=hm0.below hbel;obtain⟨m,hm⟩:=nmm ({y.1 with id:=((j:Int)+2)}:Mg);have hmid:m.id=(j:Int)+2:=by rw[←hm]
    have hrow:y.1.row.setIfInBounds 0 (.int .i64 ((j:Int)+2))=m.row:=by rw[←hm];rfl
    have hkk:LsOk m y.2:=by rw[←hm];exact(HK.out y (List.mem_of_getElem? hy)).id7 _
    have hmm:MgM wr m y.2:=by rw[←hm];exact hmr.id7 _
    have hmw:MgM w m y.2:=by rw[←hm];exact hm0.id7 _
    obtain⟨D,hD⟩:=nmm y.1.row;have hD2:D.size=28:=by rw[←hD];rfl
    have hD3:D.all (·.oneCell')=true:=by rw[←hD];exact Eo hmr
    have hD0:D[0]?=some (.int .i64 y.1.id):=by rw[←hD];rfl
    have HD0:=Lib.hid hD0;rw[hD] at hrng hrow;obtain⟨HD2,HD3,HRN,HTT,HC,HH,HS,HW,Y4⟩:=CE hD2 hD3 hrng (show _∧_∧_∧_∧_ from⟨hmid,hrow,hkk,hmm,hmw⟩) hcn hhm (show _∧_∧_ from⟨hzl,hzs,hcs⟩) (show _∧_∧_ from⟨hown,hvP,hPC⟩) (show Hc (wr.alloc (.cells Zm 32)) wr.heap.size Zm 32 from fb _ _ _ rfl);clear hD hD0 hD2 hD3 hrng hmid hrow hkk hmm hmw hcn hhm hzl hzs hcs hown hvP hPC hm hmr hr0 hm0 hbel hqq hq e2 e3 ea hy
    go_upto_region 10 with(first
     |(refine wpList_load_mid rfl 32 (.tmp 48) rfl g (o+j*28) (by rfl) D.toList _ HRN.out Tryz.underlying32 rfl (by rw[Array.length_toList,HD2.out];rfl) ?_;rw[Array.toArray_toList])
     |(refine stM (.tmp 10) (.tmp 49) D Y4.out HD2.out HD3.out ?_;generalize hw5:((wr.alloc (.cells Zm 32)).setRow wr.heap.size D)=w5 at⊢))
    have y5:Hc w5 wr.heap.size D 32:=by rw[←hw5];exact setRow_heap _ wr.heap.size _ D _ _ Y4.out
    have b5:Bw wr w5:=by rw[←hw5];exact xo ((aA _ _).alloc (ah _) _) (ah _) D
    have z5:=aj y5 0;have c5:=(aq y5 0).trans HD0.out;have y6:=cq (i:=0) (u:=.int .i64 ((j:Int)+2)) y5;have b6:Bw wr (w5.setCell ⟨wr.heap.size,0,none⟩ (.int .i64 ((j:Int)+2))):=b5.setCell (ah _) _;rw[HTT.out.2.1] at y6;clear hw5 Y4 b5 HRN;have hwr:wrap64 ((j:Int)+2)=(j:Int)+2:=by have:=HL.out;unfold wrap64;omega
    go_upto_region 11 with fail
    rw[hwr];generalize hw6:w5.setCell ⟨wr.heap.size,0,none⟩ (.int .i64 ((j:Int)+2))=w6 at y6 b6⊢;clear z5 c5 y5 hw6 hwr;obtain⟨A,hA⟩:=nmm m.row;have hA2:A.size=28:=by rw[←hA];rfl
    have hA0:A[0]?=some (.int .i64 ((j:Int)+2)):=by rw[←hA,←HTT.out.1];rfl
    have hA1:A[1]?=some (.int .i64 m.op):=by rw[←hA];rfl
    have hAo:A.all (·.oneCell')=true:=by rw[←hA];exact Eo HTT.out.2.2.2.1
    have hbox:=uM m;have hAl:cC (Zs.map (·.1)++[m])=cC (Zs.map (·.1))++A.toList:=by rw[A8,←hA];simp[cC]
    have hA3:A.toList.length=1*28:=by simpa using hA2
    have hA4:∀u∈A.toList,u.oneCell'=true:=fun u hu=>by have:=(Array.all_eq_true_iff_forall_mem.1 hAo) u (by simpa using hu);exact this
    have kw:=fa m y.2 w6 (HTT.out.2.2.2.1.below b6) HTT.out.2.2.1 (HH.out.now.below b6);rw[hA] at y6 kw hbox;obtain⟨t,ht⟩:=nmm ((cR m y.2).1);obtain⟨cd,hcd⟩:=nmm ((cR m y.2).2);obtain⟨op,hop⟩:∃op,m.op=op:=⟨_,rfl⟩;rw[ht,hcd] at kw;rw[hop] at hA1;obtain⟨HT,HA0,HA2,HA1,HA3,HA4,HAL,KW,Y6,B6⟩:=Cz (show _∧_∧_ from⟨ht,hcd,hop⟩) hA0 hA2 hA1 hA3 hA4 hAl kw y6 b6;clear hA hA2 hA0 hA1 kw ht hcd hop y6 b6 hA3 hA4 hAl hAo
    go_wp2_with (refine ldM (.tmp 10) Y6.out HA2.out ?_)
    refine ag (show Calls _ _ _ _ _ from KW.out) ?_;rintro e w7 ⟨rfl,hb7⟩;have y7:=bk hb7 Y6.out;have q1:w7.cell? ⟨wr.heap.size,1,none⟩=some (.int .i64 op):=(aq y7 1).trans HA1.out;obtain⟨Y7,B7⟩:=Cg y7 (cM B6.out hb7);clear KW hb7 Y6 B6 y7;have hwj:wrap64 ((j:Int)+1)=((j+1:Nat):Int):=by have:=HL.out;unfold wrap64;omega
    have hnxt:∀wx,Bw wr wx→ES w C n k u6 u7 u8 (.int .i64 ((j+1:Nat):Int)) wx:=fun wx hb=>
     ⟨j+1,Zs,P,X,by omega,rfl,Nat.le_succ_of_le HS.out.1,HC.out.bel hb,⟨HH.out.bels hb,HW.out.2.2⟩,HS.out.2.1.mono (Nat.le_succ j),HS.out.2.2,ge HW.out.1 hb,HW.out.2.1⟩
    have HNX:=Lib.hid hnxt;clear hnxt
    by_cases hc0:cd=0
    ·have ec:(cd==0)=true:=by rw[hc0];rfl
     have nc:(cd !=0)=false:=by rw[bne,ec];rfl
     have kr:=s8 op w7
     go_wp2_with fail
     refine ag kr ?_;rintro e w8 ⟨rfl,hb8⟩;have q1':=(hb8.cell (bj q1)).trans q1;obtain⟨B8,Y8⟩:=Cg (cM B7.out hb8) (bk hb8 Y7.out);clear kr hb8 q1 B7 Y7
     by_cases hr:gk op<0
     ·have dr:decide (gk op<0)=true:=aC hr
      go_wp2_with fail
      go_roundw
      case rel=>rw[hwj];exact HNX.out _ B8.out
      case measure=>rw[hwj];simp[RowKit.intOf];omega
     ·have dr:decide (gk op<0)=false:=an hr
      by_cases h23:op=23
      ·have e23:(op==23)=true:=by rw[h23];rfl
       go_wp2_with fail
       go_roundw
       case rel=>rw[hwj];exact HNX.out _ B8.out
       case measure=>rw[hwj];simp[RowKit.intOf];omega
      ·have e23:(op==23)=false:=aE h23
       have hgo:=Db (op:=op) (by omega);have hgood:Good (pl2 (m,y.2)):=⟨by show(cR m.pl y.2).2=0;rw[DX,HT.out.2.1];exact hc0,rfl,by show fC.contains m.op=true;rw[HT.out.2.2];exact hgo.1,by show gq m.op=false;rw[HT.out.2.2];exact hgo.2.1,by show m.id≠0;rw[HTT.out.1];omega⟩;have hz9:CaZ w (j+1) (Zs++[(m,y.2)]):=HS.out.2.1.snoc HTT.out.2.2.2.2 HTT.out.2.2.1 hgood (by rw[HT.out.2.2];exact h23) HTT.out.1;have own8:=ge HW.out.1 B8.out;have b4:=alb w8 A 32;obtain⟨X4,OWN4,B4,HZ9,HWZ,HZL⟩:=Cy (show Hc (w8.alloc (.cells A 32)) w8.heap.size A 32 from fb _ _ _ rfl) (ge own8 b4) b4 hz9 (show w.heap.size≤wr.heap.size∧wr.heap.size≤w8.heap.size from⟨HH.out.bel.size,B8.out.size⟩) (show Zs.length≤12 by have:=HS.out.1;have:=HL.out;omega);have hXu:∀g,u6.ownBlock=some g→g<wr.heap.size:=fun g hg=>(HW.out.1.lt g hg).2
       have HXU:=Lib.hid hXu;clear hgo hgood hz9 own8 b4 hr hXu
       go_upto_region 14 with(first
        |(refine ldM (.tmp 10) Y8.out HA2.out ?_)
        |(refine aB rfl fun K hK=>jS (v:=.slice (some ⟨w8.heap.size,0,none⟩) 1 1) (w':=w8.alloc (.cells A 32)) (uS hbox rfl rfl _) (hK _ _ ?_);clear hK K;generalize w8.alloc (.cells A 32)=w10 at X4 OWN4 B4⊢)
        |(at_builtin;refine aB rfl fun K hK=>?_;refine wp_append_lies w10 (.tmp 71) (.tmp 73) 22 rfl w.heap.size 32 i0 _ 28 368 Tryz.underlying22 hi0 hz0 hz1 hz2 rfl (by decide) u6 Zs.length (cC (Zs.map (·.1))) rfl OWN4.out ⟨w8.heap.size,0,none⟩ 1 1 A.toList rfl HA3.out (World.news_of_block X4.out) HA4.out (by omega) (by have:=HZL.out;unfold maxLen;omega) (by have:=HZL.out;omega) (by have h1:=B4.out.size;have h2:=HWZ.out;omega) _ rfl ?_;intro gN capN w11 hown hgrow hat hlt5;refine hK _ _ ?_;clear hK K;have y11:=(hgrow.block wr.heap.size (by have:=B4.out.size;have:=(gl Y8.out);omega) (fun e=>by have:=HXU.out _ e.symm;omega)).trans (bk B4.out Y8.out);have i11:=(aq y11 0).trans HA0.out;have o11:=(aq y11 1).trans HA1.out))
       have kb11:Kb (fun g=>u6.ownBlock=some g) wr w11:=(Kb.of (cM B8.out B4.out)).grown hgrow fun k hk=>.inl hk
       have h11:=HC.out.other kb11 fun g _ hp e=>HW.out.2.1 g e (HW.out.2.2 g hp)
       have hgC:gN≠C:=fun e=>by
        rcases hat with q|q
        ·exact HW.out.2.1 gN q e
        ·have h1:=HC.out.xl C HC.out.xC
         have h2:=HWZ.out.2;have h3:=B4.out.size
         omega
       have hnew:∀st bd:Value,CaS k (Zs++[(m,y.2)]) st bd→ES w C n k (.slice (some ⟨gN,0,none⟩) (Zs.length+1) capN) st bd (.int .i64 ((j+1:Nat):Int)) w11:=fun st bd hst=>
        ⟨j+1,Zs++[(m,y.2)],_,_,by omega,rfl,by simp;exact HS.out.1,h11,⟨⟨HEV.out,HH.out.bel.trans (kb11.below HH.out.bel.size fun i hi e=>absurd (HW.out.1.lt i e).1 (by omega)),fun g hg=>HH.out.xs g hg.1⟩,fun g hg=>HW.out.2.2 g hg.1⟩,HZ9.out,hst,by rw[xn,List.map_append];show w11.ownsRow w.heap.size 32 28 _ (Zs.length+1) (cC (Zs.map (·.1)++[m]));rw[HAL.out];exact hown,fun g hg=>by cases hg;exact hgC⟩
       have HNEW:=Lib.hid hnew;clear hnew h11 kb11 hgC hown hgrow hat X4 OWN4 B4 HAL
       by_cases hek:(j:Int)+2=(k:Int)
       ·have eik:((j:Int)+2==(k:Int))=true:=by rw[hek];simp
        obtain⟨b0,hb0⟩:=nmm (op==0);have hst:CaS k (Zs++[(m,y.2)]) (.int .i64 (Zs.length:Int)) (.bool b0):=.inr ⟨Zs.length,(m,y.2),rfl,by rw[←hb0,←HT.out.2.2],by simp,HTT.out.1.trans hek⟩;have HR:=Lib.hid (HNEW.out _ _ hst);have hw1:IntKind.i64.wrap (Zs.length:Int)=(Zs.length:Int):=by have:=HZL.out;simp[IntKind.wrap,IntKind.signed,IntKind.bits];omega
        clear hst HNEW
        go_upto_region 15 with fail
        refine hg (fun w'=>w'.cell? ⟨wr.heap.size,1,none⟩=some (.int .i64 op)) ?_;intro w12 hb12 _ _;have T12:=(hb12.cell (bj o11)).trans o11;refine hu 0 (.slice (some ⟨gN,0,none⟩) (Zs.length+1) capN) rfl T12 ?_;refine hu 1 (.int .i64 ((Zs.length+1:Nat):Int)) rfl T12 ?_;refine hu 2 (.int .i64 (Zs.length:Int)) rfl T12 ?_;refine hu 3 (.pointer (some ⟨wr.heap.size,1,none⟩)) rfl T12 ?_;refine hl 4 ⟨wr.heap.size,1,none⟩ (.int .i64 op) rfl T12 (fun _ q=>q) ?_;refine hu 5 (.bool b0) rfl T12 ?_;refine hu 6 (.int .i64 (Zs.length:Int)) rfl T12 ?_;have HR2:=Lib.hid (HR.out.bel hb12);refine oS 7 w12 rfl T12 ?_;clear T12 hb12 HR o11 i11 y11
        try simp only[Exit.then]
        refine‹∀(a:Act) (w:World),Code.wp _ _ _ a w→_› _ _ ?_
        go_wp2_with fail
        go_roundw
        case rel=>rw[hwj];exact HR2.out
        case measure=>rw[hwj];simp[RowKit.intOf];omega
       ·have eik:((j:Int)+2==(k:Int))=false:=aE hek
        have HR:=Lib.hid (HNEW.out _ _ (HS.out.2.2.snoc (z:=(m,y.2)) (fun e=>hek (HTT.out.1.symm.trans e))));clear HNEW
        go_wp2_with fail
        go_roundw
        case rel=>rw[hwj];exact HR.out
        case measure=>rw[hwj];simp[RowKit.intOf];omega
    ·have ec:(cd==0)=false:=aE hc0
     have nc:(cd !=0)=true:=by rw[bne,ec];rfl
     go_wp2_with fail
     go_roundw
     case rel=>rw[hwj];exact HNX.out _ B7.out
     case measure=>rw[hwj];simp[RowKit.intOf];omega
   ·obtain rfl:j=n:=by omega
    have g1:decide ((j:Int)<(j:Int))=false:=an (by omega);obtain⟨HC,HH,HS,HW⟩:=Ci hcn hhm (show _∧_∧_ from⟨hzl,hzs,hcs⟩) (show _∧_∧_ from⟨hown,hvP,hPC⟩);clear hzl hzs hcs hown hvP hPC hcn hhm;have ki:=ln 2 k (by have:=HL.out.2;omega) wr
    go_wp2_with fail
    refine ag ki ?_;rintro e wi ⟨rfl,bi⟩;have hx8:(⟨#[UInt8.ofNat k]⟩:ByteArray)=⟨[UInt8.ofNat k].toArray⟩:=rfl;have hkd:bf (fun _=>True) (wi.alloc (.cells #[I0,.int .i64 2,Bf,.string ⟨[UInt8.ofNat k].toArray⟩,Sn] 40)) (.slice (some ⟨wi.heap.size,0,none⟩) 1 1) [.mk 0 2 false [UInt8.ofNat k] []]:=by
     have y:=fb wi (.cells #[I0,.int .i64 2,Bf,.string ⟨[UInt8.ofNat k].toArray⟩,Sn] 40) _ rfl;exact⟨_,_,rfl,ah _,fun _=>⟨_,_,rfl,trivial,⟨aq y 0,aq y 1,aq y 2,aq y 3,_,aq y 4,none,0,rfl,ah _,fun q=>absurd rfl q⟩,trivial⟩⟩
    have gi:=alb wi #[I0,.int .i64 2,Bf,.string ⟨[UInt8.ofNat k].toArray⟩,Sn] 40;obtain⟨HKD,BI⟩:=Cg hkd (cM bi gi);clear ki bi hkd gi;simp only[elA,El.cls,El.tag,El.cons,El.bytes]
    go_wp2_with fail
    generalize wi.alloc (.cells #[I0,.int .i64 2,Bf,.string ⟨[UInt8.ofNat k].toArray⟩,Sn] 40)=wj at HKD BI⊢;have ks:=cH [.mk 0 2 false [UInt8.ofNat k] []] _ wj HKD.out (by simp[SmL,SmE]) (by simp);refine ag ks ?_;rintro e wk ⟨⟨u,rfl,hu⟩,hbk⟩;have he:dD (.mk 0 16 true [] [.mk 0 2 false [UInt8.ofNat k] []])=(EP k,0)∧bK (.mk 0 16 true [] [.mk 0 2 false [UInt8.ofNat k] []])≤65537:=Ga k HL.out.2;have kb:=pf 65537 pC (.mk 0 16 true [] [.mk 0 2 false [UInt8.ofNat k] []]) (by simp[SmL,SmE]) he.2 u wk (hu.mono fun _ _ _=>trivial);rw[he.1] at kb;have BK:=Lib.hid (cM BI.out hbk);clear ks hbk hu he HKD BI
    go_wp2_with fail
    refine ag kb ?_;rintro e wl ⟨rfl,hbl⟩;have BL:=Lib.hid (cM BK.out hbl);have kw:=fa (xt k) {} wl (uA _ _ rfl) (FO k) (HH.out.bels BL.out).now;have hw0:=Fi k HL.out.2;obtain⟨t,ht⟩:=nmm ((cR (xt k) {}).1);rw[hw0,ht] at kw;have hlen:t.length≤65536:=by rw[←ht];exact jM hw0
    obtain⟨HT,HTL⟩:=Cg (show frB (xt k,{})=t from ht) hlen;clear kb hbl BK hw0 ht hlen hx8
    go_wp2_with fail
    refine ag kw ?_;rintro e wm ⟨rfl,hbm⟩;have bm:=cM BL.out hbm;have hm:=HC.out.bel bm;have mm:=HH.out.bels bm;have kf:=gF w _ _ C {} t wm hm.small mm (by have:=HTL.out;show 0+t.length≤_;omega) (by simp) (by simp);rw[←HT.out,FV HL.out.2,HT.out] at kf;obtain⟨OWNM,MM,VX,VP⟩:=Ci (ge HW.out.1 bm) mm (show ∀g,u6.ownBlock=some g→¬X g from fun g hg q=>HW.out.2.1 g hg (HW.out.2.2 g (HC.out.xP g q))) (show ∀g,u6.ownBlock=some g→¬(P g∧g<wm.heap.size) from fun g hg q=>HW.out.2.1 g hg (HW.out.2.2 g q.1));clear kw hbm bm hm mm BL
    go_wp2_with fail
    refine ag kf ?_;rintro e wn ⟨rfl,Pn,Xn,hn,nn⟩;have hzf:=HS.out.2.1.f (by have:=HS.out.1;have:=HL.out.1;omega);have hz2:∀z∈Zs.map pl2,2≤z.1.id:=fun z hz=>(HS.out.2.1.good z hz).2.2.1
    obtain⟨HR2,HZF⟩:=Cg (show Ca2 w C k Zs u6 (I0) wn from⟨0,Pn,Xn,Nat.zero_le _,rfl,by rw[List.take_zero];exact hn,MM.out.to nn,nn.kb.own OWNM.out VX.out,fun g hg q=>VP.out g hg (nn.ps g (OWNM.out.lt g hg).2 q)⟩) (show _∧_ from⟨hzf,hz2⟩);obtain⟨N,hN⟩:=nmm Zs.length;obtain⟨a6,c6,rfl⟩:∃a c,u6=.slice a N c:=by
     rcases HW.out.1.2 with⟨hv,h0⟩|⟨g,cap,cur,hv,_⟩
     ·exact⟨none,0,by rw[hv,←hN,h0]⟩
     ·exact⟨_,cap,by rw[hv,hN]⟩
    have HNN:=Lib.hid (show _∧_ from⟨hN,show N≤12 by have:=HS.out.1;have:=HL.out.1;omega⟩);clear kf hn nn hzf hz2 hN OWNM MM VX VP HT HTL HC HH HW
    go_wp2_with fail
    go_loopw [17] (fun i wr=>Ca2 w C k Zs (.slice a6 N c6) i wr) (fun i _=>N -(RowKit.intOf i).toNat)
    case atStart=>exact HR2.out
    case round=>
     obtain⟨q,P2,X2,hq,rfl,hcn,hhm,hown,hvP⟩:=hrel;rw[HNN.out.1] at hq
     by_cases hqn:q<N
     ·have g2:decide ((q:Int)<(N:Int))=true:=aC (by omega)
      have hk2:(q:Int)<(N:Int):=by omega
      obtain⟨z,hz⟩:∃z,Zs[q]?=some z:=⟨_,aM (by rw[HNN.out.1];exact hqn)⟩;obtain⟨g,cap',e0,_⟩:=hown.form (by rw[HNN.out.1];omega)
      injection e0 with e1 e2 e3
      subst e1;have hzm:=List.mem_of_getElem? hz;have hrng:wr.rangeAt g (q*28) z.1.row.toList:=fun i v hi=>by
       have hil:i<28:=(List.getElem?_eq_some_iff.1 hi).1;have hc:=hown.cells (g:=g) rfl (q*28+i) v (by rw[ie _ q i z.1 (by rw[List.getElem?_map,hz];rfl) hil];exact hi);rw[show(⟨g,0,none⟩:Addr).add (q*28+i)=⟨g,q*28+i,none⟩ by simp[Addr.add_lit]] at hc;exact hc
      have hwq:=(HZF.out.1.good (pl2 z) (List.mem_map_of_mem hzm)).wr;rw[show(cR (pl2 z).1 (pl2 z).2).2=(cR z.1 z.2).2 by show(cR z.1.pl z.2).2=_;rw[DX]] at hwq;have hfr:frB (pl2 z)=(cR z.1 z.2).1:=by show(cR z.1.pl z.2).1=_;rw[DX]
      have hfeed:=FW HL.out.2 HZF.out.1 HZF.out.2 (q:=q) (y:=pl2 z) (by rw[List.getElem?_map,hz];rfl);have kw:=fa z.1 z.2 wr ((HS.out.2.1.ok z hzm).1.below hhm.bel) (HS.out.2.1.ok z hzm).2 hhm.now;obtain⟨t,ht⟩:=nmm ((cR z.1 z.2).1);have hlen:t.length≤65536:=by rw[←ht];exact jM hwq
      rw[hwq,ht] at kw;rw[hfr,ht] at hfeed;obtain⟨D,hD⟩:=nmm z.1.row;have hD2:D.size=28:=by rw[←hD];rfl
      rw[hD] at hrng kw;obtain⟨HRN,HD2,HFD,HCN⟩:=Ci hrng hD2 (show _∧_ from⟨hfeed,hlen⟩) (show _∧_∧_∧_ from⟨hcn,hhm,hown,hvP⟩);have hinn:=Eh (cur:=none) (out:=[]) (B:=(xt k,{})::(Zs.map pl2).take q) (fun y hy=>by
       rcases aY.1 hy with rfl|q'
       ·exact ER HL.out.2
       ·exact HZF.out.1.good y (List.mem_of_mem_take q')) (by have:=HNN.out.2;simp;omega)
      have HIN:=Lib.hid hinn;clear hD hD2 hrng hfeed hlen hcn hhm hown hvP hwq hfr ht hzm hz e2 e3 hinn
      go_wp2_with (refine wpList_load_mid rfl 32 (.tmp 113) rfl g (q*28) (by rfl) D.toList _ HRN.out Tryz.underlying32 rfl (by rw[Array.length_toList,HD2.out];rfl) ?_;rw[Array.toArray_toList])
      refine ag kw ?_;rintro e wp ⟨rfl,hbp⟩;have hp:=HCN.out.1.bel hbp;have mp:=HCN.out.2.1.bels hbp;have kf:=gF w _ _ C _ t wp hp.small mp (by have h1:=HIN.out;have h2:=HFD.out.2;omega) (by show(List.take 16 _).length≤16;simp;omega) (by show([]:List UInt8).length≤_;simp);rw[HFD.out.1] at kf;obtain⟨MP,OWNP,VX,VP⟩:=Ci mp (ge HCN.out.2.2.1 hbp) (show ∀g',(Value.slice (some ⟨g,0,none⟩) N c6).ownBlock=some g'→¬X2 g' from fun g' hg' q'=>HCN.out.2.2.2 g' hg' (HCN.out.1.xP g' q')) (show ∀g',(Value.slice (some ⟨g,0,none⟩) N c6).ownBlock=some g'→¬(P2 g'∧g'<wp.heap.size) from fun g' hg' q'=>HCN.out.2.2.2 g' hg' q'.1);have hwq2:wrap64 ((q:Int)+1)=((q+1:Nat):Int):=by have:=HNN.out.2;unfold wrap64;omega
      clear kw hbp hp mp HRN HD2
      go_wp2_with fail
      refine ag kf ?_;rintro e ws ⟨rfl,P5,X5,h5,n5⟩;have HR:=Lib.hid (show Ca2 w C k Zs (.slice (some ⟨g,0,none⟩) N c6) (.int .i64 ((q+1:Nat):Int)) ws from⟨q+1,P5,X5,by rw[HNN.out.1];omega,rfl,h5,MP.out.to n5,n5.kb.own OWNP.out VX.out,fun g' hg' q'=>VP.out g' hg' (n5.ps g' (OWNP.out.lt g' hg').2 q')⟩);clear kf h5 n5 MP OWNP VX VP HCN HFD HIN
      go_wp2_with fail
      go_roundw
      case rel=>rw[hwq2];exact HR.out
      case measure=>rw[hwq2];simp[RowKit.intOf];omega
     ·obtain rfl:q=N:=by omega
      have g2:decide ((q:Int)<(q:Int))=false:=an (by omega);rw[List.take_of_length_le (by rw[List.length_map,HNN.out.1];exact ah _)] at hcn;have HCN:=Lib.hid (show _∧_∧_∧_ from⟨hcn,hhm,hown,hvP⟩);clear hcn hhm hown hvP
      go_upto_region 28 with fail
      obtain⟨FB,hFB⟩:∃FB:Bool,(u7=.int .i64 (-1)∧u8=Bf∧FB=false∧∀z∈Zs,z.1.id≠(k:Int))∨∃(p:Nat) (z:Mg×Ls),u7=.int .i64 (p:Int)∧u8=.bool FB∧FB=(z.1.op==0)∧Zs[p]?=some z∧z.1.id=(k:Int):=by
       rcases HS.out.2.2 with⟨h1,h2,h3⟩|⟨p,z,h1,h2,h3,h4⟩
       ·exact⟨false,.inl ⟨h1,h2,rfl,h3⟩⟩
       ·exact⟨_,.inr ⟨p,z,h1,h2,rfl,h3,h4⟩⟩
      have HFB:=Lib.hid hFB;clear hFB
      go_cut [125] from 121 to 124 (fun t wx=>t=.bool FB∧wx=wr)
      case first=>
       rcases HFB.out with⟨rfl,rfl,rfl,-⟩|⟨p,z,rfl,rfl,-,-,-⟩
       ·have dm:decide ((-1:Int)≥0)=false:=rfl
        go_wp2_with fail
        go_meet
        exact⟨rfl,rfl⟩
       ·have dp:decide ((p:Int)≥0)=true:=aC (by omega)
        go_wp2_with fail
        go_meet
        exact⟨rfl,rfl⟩
      case rest=>
       obtain⟨rfl,hwc⟩:=hcut;rw[hwc];clear hwc
       go_upto_if 125 with fail
       go_cut [6,20,21,22,23] from 126 to 149 (fun v' cd wt _ _ wx=>CaQ w C k Zs v' cd wt wx)
       case first=>
        have stay:∀code:Int,Cs.cancels {ms:=Zs.map pl2} (xt k)={ms:=Zs.map pl2,out:=[]++(cR (xu 1 24 code) {}).1}→CaQ w C k Zs (.slice a6 q c6) (.int .i64 code) (Es) wr:=fun code hc=>
         ⟨Zs,code,[],P2,X2,rfl,rfl,HCN.out.1,HCN.out.2.1,fun _ h=>h,HZF.out.1,hc,HCN.out.2.2.1,HCN.out.2.2.2,by simp⟩
        have ST:=Lib.hid stay;clear stay;rcases HFB.out with⟨rfl,rfl,rfl,hno⟩|⟨p,z,rfl,rfl,hFB,hz,hid⟩
        ·have HF:=Lib.hid (ST.out 119 (by
          rw[List.nil_append];refine FT HL.out.2 fun y hy=>?_
          obtain⟨z,hz,rfl⟩:=List.mem_map.1 hy;exact hno z hz))
         have dm:decide ((-1:Int)≥0)=false:=rfl;clear hno
         go_wp2_with fail
         go_meet
         exact HF.out
        ·have hzp:(Zs.map pl2)[p]?=some (pl2 z):=by rw[List.getElem?_map,hz];rfl
         cases FB with
         |true=>
          have h0:z.1.op=0:=by simpa using hFB.symm
          have HF:=Lib.hid (ST.out 121 (by rw[List.nil_append];exact FU HL.out.2 HZF.out.1 hzp hid h0));clear hzp h0 hFB hz hid
          go_wp2_with fail
          go_meet
          exact HF.out
         |false=>
          have h0:z.1.op≠0:=by simpa using hFB.symm
          have dp:decide ((p:Int)≥0)=true:=aC (by omega);have hpl:p<q:=by have:=(List.getElem?_eq_some_iff.1 hz).1;rw[HNN.out.1] at this;exact this
          have hcan:=FH HL.out.2 HZF.out.1 hzp hid h0;obtain⟨g,cap',e0,hqc⟩:=HCN.out.2.2.1.form (by rw[HNN.out.1];omega)
          injection e0 with e1 e2 e3
          subst e1;have hcells:∀i x,(cC (Zs.map (·.1)))[i]?=some x→wr.cell? ⟨g,i,none⟩=some x:=fun i x hx=>by
           have hc:=HCN.out.2.2.1.cells (g:=g) rfl i x hx;rw[show(⟨g,0,none⟩:Addr).add i=⟨g,i,none⟩ by simp[Addr.add_lit]] at hc;exact hc
          have qop:wr.cell? ⟨g,p*28+1,none⟩=some (.int .i64 z.1.op):=hcells (p*28+1) _ (by rw[ie _ p 1 z.1 (by rw[List.getElem?_map,hz];rfl) (by omega)];rfl);obtain⟨HCL,HCAN⟩:=Cg hcells hcan;have hp1:(p:Int)<(q:Int):=by omega
          have kr:=s8 z.1.op wr;have HP:=Lib.hid hpl;clear hzp hFB hid hcan hcells hqc e2 e3 ST
          go_wp2_with fail
          refine ag kr ?_;rintro e wa ⟨rfl,ba⟩;have kR:=oC (k:Int) (gk z.1.op) 118 [] [] wa;have BA:=Lib.hid ba;clear kr ba qop
          go_wp2_with fail
          refine ag kR ?_;rintro e wb ⟨rfl,bb⟩;have BB:=Lib.hid (cM BA.out bb);have kw:=fa (xu k (gk z.1.op) 118) {} wb (uA _ _ rfl) (uc k (gk z.1.op) 118 [] [] [] (by decide) (by decide) (by decide)) (HCN.out.2.1.bels BB.out).now;rw[show(xu k (gk z.1.op) 118).row=Mg.row {id:=(k:Int),op:=gk z.1.op,code:=118,matched:=[],text:=[]} from rfl] at kw;obtain⟨t1,ht1⟩:=nmm ((cR (xu k (gk z.1.op) 118) {}).1);obtain⟨e1',he1⟩:=nmm ((cR (xu k (gk z.1.op) 118) {}).2);rw[ht1,he1] at kw;have HTL1:=Lib.hid (show t1.length≤65536 by rw[←ht1];exact Fk _ _);have hcan:=HCAN.out;rw[show gk (pl2 z).1.op=gk z.1.op from rfl,ht1] at hcan;have HCAN2:=Lib.hid hcan;clear kR bb BA ht1 he1 hcan HCAN
          go_wp2_with fail
          refine ag kw ?_;rintro e wd ⟨rfl,bd⟩;have BD:=Lib.hid (cM BB.out bd);clear kw bd BB
          go_upto_region 34 with fail
          refine hg (fun _=>True) ?_;intro w8 hb8 _ _;have T8:=trivial;have hNq:=HNN.out.2;have hpq:=HP.out;have hc6:q≤c6∧c6≤maxLen:=by
           rcases HCN.out.2.2.1.2 with⟨hv,_⟩|⟨g',cap',cur,hv,_,_,hn,hm,_⟩
           ·cases hv
           ·cases hv;exact⟨by have:=HNN.out.1;omega,hm⟩
          obtain⟨a1,a2,a3,a4,a5,a6,a7,a8,a9,a10⟩:=F7 hpq hNq hc6.1;have hMl:(cC (Zs.map (·.1))).length=q*28:=by rw[A9,List.length_map,HNN.out.1]
          have hw1:IntKind.i64.wrap ((p:Int)+1)=((p+1:Nat):Int):=by simp[IntKind.wrap,IntKind.signed,IntKind.bits];omega
          have hwp:wrap64 ((p:Int)+1)=((p+1:Nat):Int):=by unfold wrap64;omega
          refine hu 0 (.slice (some ⟨g,0,none⟩) q c6) rfl T8 ?_;refine hu 1 (.int .i64 (p:Int)) rfl T8 ?_;refine hv 2 (.slice (some ⟨g,0,none⟩) p c6) rfl T8 (fun w' _=>A3 rfl rfl rfl rfl (vc g q c6 p w' a1)) ?_;refine hu 4 (.slice (some ⟨g,0,none⟩) q c6) rfl T8 ?_;refine hu 5 (.int .i64 (p:Int)) rfl T8 ?_;refine hu 6 (.int .i64 ((p+1:Nat):Int)) rfl T8 ?_;refine hv 7 (.slice (some (if c6=p+1 then⟨g,0,none⟩ else⟨g,(p+1)*28,none⟩)) (q -(p+1)) (c6 -(p+1))) rfl T8 (fun w' _=>A3 rfl rfl rfl rfl (ve g q c6 (p+1) w' hpq a2)) ?_;have had:∀(W:World),(∀i x,(cC (Zs.map (·.1)))[i]?=some x→W.cell? ⟨g,i,none⟩=some x)→∀j u,((cC (Zs.map (·.1))).drop ((p+1)*28))[j]?=some u→W.cell? ((if c6=p+1 then(⟨g,0,none⟩:Addr) else⟨g,(p+1)*28,none⟩).add j)=some u:=fun W hW j u hj=>by
           have hjl:j<((cC (Zs.map (·.1))).drop ((p+1)*28)).length:=(List.getElem?_eq_some_iff.1 hj).1;rw[List.length_drop,hMl] at hjl;rw[if_neg (a10 j hjl)];rw[List.getElem?_drop] at hj;have:=hW _ u hj;rw[show(⟨g,(p+1)*28,none⟩:Addr).add j=⟨g,(p+1)*28+j,none⟩ by simp[Addr.add_lit]];exact this
          generalize(if c6=p+1 then(⟨g,0,none⟩:Addr) else⟨g,(p+1)*28,none⟩)=ad at had⊢;have hone1:=FX (fun z hz=>(HS.out.2.1.ok z hz).1);have b8:=cM BD.out hb8;have hc8:∀i x,(cC (Zs.map (·.1)))[i]?=some x→w8.cell? ⟨g,i,none⟩=some x:=fun i x hx=>by
           have:=HCL.out i x hx;exact(b8.cell (bj this)).trans this
          refine uC 3 rfl fun K hK=>?_
          refine wp_append_own w8 (.const (Sn)) (.tmp 143) 22 rfl w8.heap.size 32 i0 _ 28 368 Tryz.underlying22 hi0 hz0 hz1 hz2 rfl (by decide) (Sn) 0 [] rfl (World.ownsRow_nil _ _ _ _) ⟨g,0,none⟩ p c6 ((cC (Zs.map (·.1))).take (p*28)) rfl (by rw[List.length_take,hMl];exact a3) (fun j u hj=>?_) (fun u hu=>hone1 u (List.mem_of_mem_take hu)) a4 a5 (ah _) ?_
          ·rw[show(⟨g,0,none⟩:Addr).add j=⟨g,j,none⟩ by simp[Addr.add_lit]]
           refine hc8 j u ?_;have hjl:j<p*28:=by have:=(List.getElem?_eq_some_iff.1 hj).1;rw[List.length_take] at this;exact Nat.lt_of_lt_of_le this (Nat.min_le_left _ _)
           rw[List.getElem?_take_of_lt hjl] at hj;exact hj
          intro v1 w9 hown1 hgr1 _;refine hK _ _ T8 ?_;clear hK K;have b9:Bw w8 w9:=(aA _ _).grown hgr1 (ah _) (fun k hk=>by cases hk);have hc9:∀i x,(cC (Zs.map (·.1)))[i]?=some x→w9.cell? ⟨g,i,none⟩=some x:=fun i x hx=>by
           have:=hc8 i x hx;exact(b9.cell (bj this)).trans this
          refine uC 8 rfl fun K hK=>?_
          refine wp_append_own w9 (.tmp 144) (.tmp 148) 22 rfl w8.heap.size 32 i0 _ 28 368 Tryz.underlying22 hi0 hz0 hz1 hz2 rfl (by decide) v1 (0+p) _ rfl hown1 ad (q -(p+1)) (c6 -(p+1)) ((cC (Zs.map (·.1))).drop ((p+1)*28)) rfl (by rw[List.length_drop,hMl];exact a6) (had w9 hc9) (fun u hu=>hone1 u (List.mem_of_mem_drop hu)) a7 a8 b9.size ?_;intro v2 w10 hown2 hgr2 _;refine hK _ _ T8 ?_;clear hK K;have b10:Bw w8 w10:=b9.grown hgr2 b9.size (fun k hk=>(hown1.lt k hk).1);have hz1l:(Zs.eraseIdx p).length=0+p+(q -(p+1)):=by rw[List.length_eraseIdx_of_lt (by rw[HNN.out.1];exact hpq),HNN.out.1];exact a9
          have hrows:cC ((Zs.eraseIdx p).map (·.1))=[]++(cC (Zs.map (·.1))).take (p*28)++(cC (Zs.map (·.1))).drop ((p+1)*28):=by
           rw[gx,lM _ p (by rw[List.length_map,HNN.out.1];exact hpq)]
           rfl
          have bT:=btt b8 b10;have HF:=Lib.hid (show CaQ w C k Zs v2 (I0) (.string ⟨t1.toArray⟩) w10 from⟨Zs.eraseIdx p,0,t1,_,X2,rfl,rfl,HCN.out.1.small.bel bT,HCN.out.2.1.bels bT,fun z hz=>List.mem_of_mem_eraseIdx hz,by rw[gx];exact HZF.out.1.erase p,by rw[gx];exact HCAN2.out,by rw[hz1l,hrows];exact FY hown2 (Nat.le_trans HCN.out.2.1.bel.size b8.size),fun g' hg' q'=>absurd q'.2 (Nat.not_lt.2 (Nat.le_trans b8.size (hown2.lt g' hg').1)),HTL1.out⟩);clear had hone1 b8 hc8 hown1 hgr1 b9 hc9 hown2 hgr2 b10 hz1l hrows bT;refine oS 9 w10 rfl T8 ?_
          try simp only[Exit.then]
          go_wp2_with fail
          go_meet
          exact HF.out
       case rest=>
        obtain⟨Zt,code,want,P3,X3,rfl,rfl,hcn,hhm,hsub,hcf,hcan,hown,hvP,hwl⟩:=hcut;have kR:=oC 1 24 code [] [] wc;have hC3:=Lib.hid (show _∧_∧_∧_∧_∧_∧_ from⟨hcn,hhm,hsub,hcf,hcan,hown,hvP⟩);clear hcn hhm hsub hcf hcan hown hvP HFB HCN
        go_wp2_with fail
        refine ag kR ?_;rintro e wa ⟨rfl,ba⟩;have kw:=fa (xu 1 24 code) {} wa (uA _ _ rfl) (uc 1 24 code [] [] [] (by decide) (by decide) (by decide)) (hC3.out.2.1.bels ba).now;rw[show(xu 1 24 code).row=Mg.row {id:=1,op:=24,code:=code,matched:=[],text:=[]} from rfl] at kw;obtain⟨t2,ht2⟩:=nmm ((cR (xu 1 24 code) {}).1);obtain⟨e2',he2⟩:=nmm ((cR (xu 1 24 code) {}).2);rw[ht2,he2] at kw;have ht2l:t2.length≤65536:=by rw[←ht2];exact Fk _ _
        have hsum:want.length+t2.length≤1000000000:=by omega
        have HSUM:=Lib.hid hsum;clear hsum hwl ht2l;obtain⟨HT2,BA⟩:=Cg ht2 ba;clear kR ba ht2 he2
        go_wp2_with fail
        refine ag kw ?_;rintro e wb ⟨rfl,bb⟩;have b2:=cM BA.out bb;have hNI:NxI (stA none [] ((xt k,{})::Zs.map pl2)):=Gc HL.out.2 HZF.out.1;have kd:=Em NxI nxC w _ _ C _ wb (hC3.out.1.bel b2) (hC3.out.2.1.bels b2) hNI (fun P X s w' h hH hI=>EU w P X C s w' h hH hI) (fun s y hI _=>F0 hI);rw[FN HL.out.2 HZF.out.1 hC3.out.2.2.2.1 hC3.out.2.2.2.2.1,HT2.out] at kd;obtain⟨OWN,MB,VX⟩:=Ch (ge hC3.out.2.2.2.2.2.1 b2) (hC3.out.2.1.bels b2) (show ∀g,u6.ownBlock=some g→¬X3 g from fun g hg q'=>hC3.out.2.2.2.2.2.2 g hg (hC3.out.1.xP g q'));clear kw bb BA b2 hNI
        go_wp2_with fail
        refine ag kd ?_;rintro e w2 ⟨v2,Ms2,P5,X5,rfl,h2,n2,hrw,-⟩;have own2:=n2.kb.own OWN.out VX.out;have m2:=MB.out.to n2;obtain⟨Zg,hZg,hZp⟩:=hrw.at;have hWt:BC w2 u6 Zt:=Eg own2 fun z hz=>(HS.out.2.1.ok z (hC3.out.2.2.1 z hz)).1.below m2.bel
        have ka:=Fx w2 m2.now;obtain⟨H2,HZP,HZT⟩:=Ch (show _∧_∧_∧_ from⟨h2,m2,hZg,hWt⟩) hZp (show(∀z∈Zt,LsOk z.1 z.2)∧Zt.length≤12 from⟨fun z hz=>(HS.out.2.1.ok z (hC3.out.2.2.1 z hz)).2,by have:=hC3.out.2.2.2.1.len;simpa using this⟩);clear kd h2 n2 hrw own2 m2 hZg hZp hWt OWN VX MB hC3
        go_wp2_with fail
        refine ag ka ?_;rintro e w3 ⟨rfl,hb3⟩;obtain⟨h2,m2,hZg,hWt⟩:=H2.out;have ks:=Ed v2 u6 Zg Zt w3 (hZg.below hb3) (hWt.below hb3) (by have:=HZT.out.2;omega) HZT.out.1 HZP.out;have H3:=Lib.hid (show _∧_ from⟨h2.bel hb3,m2.bels hb3⟩);clear ka h2 m2 hZg hWt hb3 H2
        go_wp2_with fail
        refine ag ks ?_;rintro e w5 ⟨rfl,hb5⟩;obtain⟨h4,m4⟩:=H3.out;have h5:=h4.bel hb5;have kt:=DB _ _ _ _ w5 h5;have hadd:(⟨want.toArray⟩:ByteArray)++⟨t2.toArray⟩=⟨(want++t2).toArray⟩:=by simp[ByteArray.mk_append_mk]
        have hsum:=HSUM.out;have M5:=Lib.hid (m4.bels hb5);clear ks h4 m4 h5 hb5 H3
        go_wp2_with fail
        refine ag kt ?_;rintro e w6 ⟨rfl,P6,X6,h6,n6⟩;have kq:=FF 23 w6;have BE:=Lib.hid (M5.out.to n6).bel;clear kt h6 n6 M5
        go_wp2_with fail
        refine ag kq ?_;rintro e w7 ⟨rfl,rfl⟩;clear kq
        go_wp2_with fail
        go_ret
        exact⟨rfl,BE.out⟩
theorem xz{w:World}{a:Addr}{v:Value}{k:Nat}(h:w.cell? (a.add k)=some v)(hk:k=0):∃g o,a=⟨g,o,none⟩:=by
 subst hk;have e:(a.add 0)=a:=by simp[Addr.add]
 rw[e] at h;have hs:=mb h;obtain⟨g,o,s⟩:=a;simp only at hs;subst hs;exact⟨g,o,rfl⟩
theorem mL{H:Type}:∀l:List (DataW H),Rows.uptoBulkAll l=(l.map Rows.uptoBulk).sum
 |[]=>rfl
 |d::r=>by rw[Rows.uptoBulkAll,mL r];simp
theorem Cn{H:Type}(D:Nat→DataW H)(f:Nat→Nat):∀(n:Nat),(∀i,i<n→f i≤Rows.uptoBulk (D i))→((List.range n).map f).sum≤Rows.uptoBulkAll ((List.range n).map D):=by
 intro n;rw[mL,List.map_map]
 induction n with
 |zero=>intro _;simp
 |succ n ih=>
  intro h;rw[List.range_succ,List.map_append,List.map_append,List.sum_append,List.sum_append];have h1:=ih (fun i hi=>h i (by omega));have h2:=h n (by omega);simp only[List.map_cons,List.map_nil,List.sum_cons,List.sum_nil,Function.comp]
  omega
def buS(ls:List (List UInt8)):Nat:=(ls.map fun l=>l.length+1).sum
def buA(al:List (List UInt8×List (List UInt8))):Nat:=(al.map fun a=>a.1.length+buS a.2+1).sum
def buM(ml:List Md):Nat:=(ml.map fun m=>m.2.1.length+buS m.2.2+1).sum
def buF(fl:List Fl):Nat:=(fl.map fun p=>p.typ.length+p.value.length+p.init.length+p.final.length+buS p.any+1).sum
def buK(cl:List Ct):Nat:=(cl.map fun c=>c.oid.length+c.value.length+1).sum
theorem ib{H:Type}{enc:TypeId×Value→H}{W:World}{base:Nat}{spare:Nat→Bool}{held:Bool}{fuel:Nat}{cs:List Value}{x:DataW H×List MemPlace}
  (h:DataW.trod enc Tryz.prog W base spare held fuel 27 cs=some x):∃v ls,cs=[v]∧ct W v ls∧buS ls≤Rows.uptoBulk x.1:=by
 rcases Go.Deep.open_slice1 Tryz.underlying27 (by kernel_rfl) h with⟨rfl,rfl⟩|⟨a,len,cap,m,n,V,D,Pl,rfl,hb,hl,hm,hmm,rfl,hx⟩
 ·exact⟨_,[],rfl,⟨none,0,rfl,ah _,fun h=>absurd rfl h⟩,by simp[buS]⟩
 ·have hlm:len≤m:=by rw[hmm];split<;>omega
  have each:∀i,∃q:List UInt8,i<len→V i=.string ⟨q.toArray⟩∧D i=.lit (.string q):=by
   intro i
   by_cases hi:i<len
   ·obtain⟨s0,e0,y0,_⟩:=DataW.trod_string Tryz.underlying9 (hx i (by omega)).2
    refine⟨s0.data.toList,fun _=>⟨?_,congrArg Prod.fst y0⟩⟩;have:=aN e0;rw[this.1]
   ·exact⟨[],fun h=>absurd h hi⟩
  let f:=fun i=>Classical.choose (each i)
  have hf:∀i,i<len→V i=.string ⟨(f i).toArray⟩∧D i=.lit (.string (f i)):=fun i=>Classical.choose_spec (each i)
  have hlen:((List.range len).map f).length=len:=by simp
  refine⟨_,(List.range len).map f,rfl,⟨some a,cap,by rw[hlen],by rw[hlen];exact hl,fun h0=>?_⟩,?_⟩
  ·have hpos:0<len:=by
    rcases Nat.eq_zero_or_pos len with h|h
    ·subst h;exact absurd rfl h0
    ·exact h
   obtain⟨g,o,rfl⟩:=xz (hx 0 (by omega)).1 (by simp);refine⟨g,o,rfl,fun j y hj=>?_⟩;have hjl:j<len:=by have:=(List.getElem?_eq_some_iff.1 hj).1;simpa using this
   rw[List.getElem?_map,List.getElem?_range hjl] at hj;cases hj;have c0:=(hx j (by omega)).1;rw[Addr.add_lit,(hf j hjl).1] at c0;exact c0
  ·have:=Cn D (fun i=>(f i).length+1) len (fun i hi=>by rw[(hf i hi).2];simp[Rows.uptoBulk])
   simp only[Rows.uptoBulk,buS,List.map_map];simp only[Function.comp_def] at this⊢
   omega
theorem pt{H:Type}{enc:TypeId×Value→H}{W:World}{base:Nat}{spare:Nat→Bool}{held:Bool}{fuel:Nat}{cs:List Value}{x:DataW H×List MemPlace}
  (h:DataW.trod enc Tryz.prog W base spare held fuel 29 cs=some x):∃v al,cs=[v]∧eG W v al∧buA al≤Rows.uptoBulk x.1:=by
 rcases Go.Deep.open_slice_pairs Tryz.underlying29 Tryz.underlying143 (by kernel_rfl) rfl rfl (by kernel_rfl) (by kernel_rfl) h with⟨rfl,rfl⟩|⟨a,len,cap,m,n,V0,V1,D0,D1,P0,P1,rfl,hb,hl,hm,hmm,rfl,hx⟩
 ·exact⟨_,[],rfl,⟨none,0,rfl,ah _,fun h=>absurd rfl h⟩,by simp[buA]⟩
 ·have hlm:len≤m:=by rw[hmm];split<;>omega
  have each:∀i,∃q:List UInt8×List (List UInt8),i<len→V0 i=.string ⟨q.1.toArray⟩∧ct W (V1 i) q.2∧q.1.length+buS q.2+1≤Rows.uptoBulk (.agg [D0 i,D1 i]):=by
   intro i
   by_cases hi:i<len
   ·obtain⟨_,_,h0,h1⟩:=hx i (by omega)
    obtain⟨s0,e0,y0,_⟩:=DataW.trod_string Tryz.underlying9 h0;obtain⟨v1,ls,e1,h2,h3⟩:=ib h1;refine⟨(s0.data.toList,ls),fun _=>⟨?_,?_,?_⟩⟩
    ·have:=aN e0;rw[this.1]
    ·have:=aN e1;rw[this.1];exact h2
    ·have e:=congrArg Prod.fst y0
     simp only at e;simp only[Rows.uptoBulk,Rows.uptoBulkAll,e]
     try simp only at h3
     omega
   ·exact⟨([],[]),fun h=>absurd h hi⟩
  let f:=fun i=>Classical.choose (each i)
  have hf:∀i,i<len→V0 i=.string ⟨(f i).1.toArray⟩∧ct W (V1 i) (f i).2∧(f i).1.length+buS (f i).2+1≤Rows.uptoBulk (.agg [D0 i,D1 i]):=fun i=>Classical.choose_spec (each i)
  have hlen:((List.range len).map f).length=len:=by simp
  refine⟨_,(List.range len).map f,rfl,⟨some a,cap,by rw[hlen],by rw[hlen];exact hl,fun h0=>?_⟩,?_⟩
  ·have hpos:0<len:=by
    rcases Nat.eq_zero_or_pos len with h|h
    ·subst h;exact absurd rfl h0
    ·exact h
   obtain⟨g,o,rfl⟩:=xz (hx 0 (by omega)).1 (by simp);refine⟨g,o,rfl,fun j y hj=>?_⟩;have hjl:j<len:=by have:=(List.getElem?_eq_some_iff.1 hj).1;simpa using this
   rw[List.getElem?_map,List.getElem?_range hjl] at hj;cases hj;obtain⟨c0,c1,_,_⟩:=hx j (by omega);obtain⟨v0,v1,_⟩:=hf j hjl;rw[Addr.add_lit,v0] at c0;rw[Addr.add_lit,←Nat.add_assoc] at c1;exact⟨c0,V1 j,c1,v1⟩
  ·have:=Cn (fun i=>.agg [D0 i,D1 i]) (fun i=>(f i).1.length+buS (f i).2+1) len (fun i hi=>(hf i hi).2.2)
   simp only[Rows.uptoBulk,buA,List.map_map];simp only[Function.comp_def] at this⊢
   omega
theorem Bm{n:Int}(h:(Lit.int .i64 n).wf=true):n≤9223372036854775807:=by
 have:=(Bool.and_eq_true_iff.1 h).2;exact of_decide_eq_true this
theorem sD{α:Type}:∀{l:List α},l.length=3→∃x0 x1 x2,l=[x0,x1,x2]
 |[x0,x1,x2],_=>⟨x0,x1,x2,rfl⟩
theorem sE{α:Type}:∀{l:List α},l.length=4→∃x0 x1 x2 x3,l=[x0,x1,x2,x3]
 |[x0,x1,x2,x3],_=>⟨x0,x1,x2,x3,rfl⟩
theorem sF{α:Type}:∀{l:List α},l.length=7→∃x0 x1 x2 x3 x4 x5 x6,l=[x0,x1,x2,x3,x4,x5,x6]
 |[x0,x1,x2,x3,x4,x5,x6],_=>⟨x0,x1,x2,x3,x4,x5,x6,rfl⟩
theorem qR{α:Type}:∀{l:List α},l.length=28→∃x0 x1 x2 x3 x4 x5 x6 x7 x8 x9 x10 x11 x12 x13 x14 x15 x16 x17 x18 x19 x20 x21 x22 x23 x24 x25 x26 x27,l=[x0,x1,x2,x3,x4,x5,x6,x7,x8,x9,x10,x11,x12,x13,x14,x15,x16,x17,x18,x19,x20,x21,x22,x23,x24,x25,x26,x27]
 |[x0,x1,x2,x3,x4,x5,x6,x7,x8,x9,x10,x11,x12,x13,x14,x15,x16,x17,x18,x19,x20,x21,x22,x23,x24,x25,x26,x27],_=>⟨x0,x1,x2,x3,x4,x5,x6,x7,x8,x9,x10,x11,x12,x13,x14,x15,x16,x17,x18,x19,x20,x21,x22,x23,x24,x25,x26,x27,rfl⟩
theorem qS{H:Type}{enc:TypeId×Value→H}{W:World}{base:Nat}{spare:Nat→Bool}{held:Bool}{fuel:Nat}{cs:List Value}{x:DataW H×List MemPlace}
  (h:DataW.trod enc Tryz.prog W base spare held fuel 28 cs=some x):∃v ml,cs=[v]∧eY W v ml∧buM ml≤Rows.uptoBulk x.1:=by
 rcases Go.Deep.open_slice Tryz.underlying28 h with⟨rfl,rfl⟩|⟨a,len,cap,m,n,D,Pl,rfl,hb,hl,hm,hmm,rfl,hx⟩
 ·exact⟨_,[],rfl,⟨none,0,rfl,ah _,fun h=>absurd rfl h⟩,by simp[buM]⟩
 ·have hlm:len≤m:=by rw[hmm];split<;>omega
  have cK:Tryz.prog.cellsOf 112=3:=by kernel_rfl
  have each:∀i,∃q:Md,i<len→W.cell? (a.add (i*3))=some (.int .i64 q.1)∧W.cell? (a.add (i*3+1))=some (.string ⟨q.2.1.toArray⟩)∧(∃u,W.cell? (a.add (i*3+2))=some u∧ct W u q.2.2)∧q.2.1.length+buS q.2.2+1≤Rows.uptoBulk (D i):=by
   intro i
   by_cases hi:i<len
   ·obtain⟨cs',h1,h2⟩:=hx i (by omega)
    rw[cK] at h1;obtain⟨_,hlen,hcell⟩:=World.cells?_some h1;obtain⟨xs,k,_,hy,hl2,hlen2,hf2⟩:=DataW.trod_struct Tryz.underlying112 h2;obtain⟨v0,v1,v2,rfl⟩:=sD hlen;obtain⟨y0,y1,y2,rfl⟩:=sD (show xs.length=3 from hlen2);have ki:Tryz.prog.cellsOf 3=1:=by kernel_rfl
    have ks:Tryz.prog.cellsOf 9=1:=by kernel_rfl
    have kb:Tryz.prog.cellsOf 4=1:=by kernel_rfl
    have kS:Tryz.prog.cellsOf 27=1:=by kernel_rfl
    have g0:DataW.trod enc Tryz.prog W base spare held k 3 [v0]=some y0:=by have h:=hf2 0 _ rfl;simpa[ki] using h
    have g1:DataW.trod enc Tryz.prog W base spare held k 9 [v1]=some y1:=by have h:=hf2 1 _ rfl;simpa[ks] using h
    have g2:DataW.trod enc Tryz.prog W base spare held k 27 [v2]=some y2:=by have h:=hf2 2 _ rfl;simpa[kS] using h
    have e0:=hcell 0 (by omega);have e1:=hcell 1 (by omega);have e2:=hcell 2 (by omega);rw[Go.Deep.add_add] at e0 e1 e2;obtain⟨z0,q0,r0,w0⟩:=DataW.trod_int Tryz.underlying3 g0;obtain⟨z1,q1,r1,_⟩:=DataW.trod_string Tryz.underlying9 g1;obtain⟨u2,z2,q2,h2S,r2⟩:=ib g2;have q0:=(aN q0).1;have q1:=(aN q1).1;have q2:=(aN q2).1;subst q0 q1 q2;refine⟨(z0,z1.data.toList,z2),fun _=>⟨by simpa using e0,by simpa using e1,⟨_,by simpa using e2,h2S⟩,?_⟩⟩;have e:D i=.agg [y0.1,y1.1,y2.1]:=congrArg Prod.fst hy;have r1:=congrArg Prod.fst r1
    try simp only at r1
    simp only[e,Rows.uptoBulk,Rows.uptoBulkAll,r1]
    try simp only at r2
    omega
   ·exact⟨(0,[],[]),fun h=>absurd h hi⟩
  let f:=fun i=>Classical.choose (each i)
  have hf:∀i,i<len→W.cell? (a.add (i*3))=some (.int .i64 (f i).1)∧W.cell? (a.add (i*3+1))=some (.string ⟨(f i).2.1.toArray⟩)∧(∃u,W.cell? (a.add (i*3+2))=some u∧ct W u (f i).2.2)∧(f i).2.1.length+buS (f i).2.2+1≤Rows.uptoBulk (D i):=fun i=>Classical.choose_spec (each i)
  have hlen:((List.range len).map f).length=len:=by simp
  refine⟨_,(List.range len).map f,rfl,⟨some a,cap,by rw[hlen],by rw[hlen];exact hl,fun h0=>?_⟩,?_⟩
  ·have hpos:0<len:=by
    rcases Nat.eq_zero_or_pos len with h|h
    ·subst h;exact absurd rfl h0
    ·exact h
   obtain⟨g,o,rfl⟩:=xz (hf 0 hpos).1 (by simp);refine⟨g,o,rfl,fun j y hj=>?_⟩;have hjl:j<len:=by have:=(List.getElem?_eq_some_iff.1 hj).1;simpa using this
   rw[List.getElem?_map,List.getElem?_range hjl] at hj;cases hj;obtain⟨c0,c1,⟨u,c2,d2⟩,_⟩:=hf j hjl;rw[Addr.add_lit] at c0;rw[Addr.add_lit,←Nat.add_assoc] at c1 c2;exact⟨c0,c1,u,c2,d2⟩
  ·have:=Cn D (fun i=>(f i).2.1.length+buS (f i).2.2+1) len (fun i hi=>(hf i hi).2.2.2)
   simp only[Rows.uptoBulk,buM,List.map_map];simp only[Function.comp_def] at this⊢
   omega
theorem qT{H:Type}{enc:TypeId×Value→H}{W:World}{base:Nat}{spare:Nat→Bool}{held:Bool}{fuel:Nat}{cs:List Value}{x:DataW H×List MemPlace}
  (h:DataW.trod enc Tryz.prog W base spare held fuel 30 cs=some x):∃v ml,cs=[v]∧ig W v ml∧buK ml≤Rows.uptoBulk x.1:=by
 rcases Go.Deep.open_slice Tryz.underlying30 h with⟨rfl,rfl⟩|⟨a,len,cap,m,n,D,Pl,rfl,hb,hl,hm,hmm,rfl,hx⟩
 ·exact⟨_,[],rfl,⟨none,0,rfl,ah _,fun h=>absurd rfl h⟩,by simp[buK]⟩
 ·have hlm:len≤m:=by rw[hmm];split<;>omega
  have cK:Tryz.prog.cellsOf 83=4:=by kernel_rfl
  have each:∀i,∃q:Ct,i<len→W.cell? (a.add (i*4))=some (.string ⟨q.oid.toArray⟩)∧W.cell? (a.add (i*4+1))=some (.bool q.crit)∧W.cell? (a.add (i*4+2))=some (.bool q.has)∧W.cell? (a.add (i*4+3))=some (.string ⟨q.value.toArray⟩)∧q.oid.length+q.value.length+1≤Rows.uptoBulk (D i):=by
   intro i
   by_cases hi:i<len
   ·obtain⟨cs',h1,h2⟩:=hx i (by omega)
    rw[cK] at h1;obtain⟨_,hlen,hcell⟩:=World.cells?_some h1;obtain⟨xs,k,_,hy,hl2,hlen2,hf2⟩:=DataW.trod_struct Tryz.underlying83 h2;obtain⟨v0,v1,v2,v3,rfl⟩:=sE hlen;obtain⟨y0,y1,y2,y3,rfl⟩:=sE (show xs.length=4 from hlen2);have ki:Tryz.prog.cellsOf 3=1:=by kernel_rfl
    have ks:Tryz.prog.cellsOf 9=1:=by kernel_rfl
    have kb:Tryz.prog.cellsOf 4=1:=by kernel_rfl
    have kS:Tryz.prog.cellsOf 27=1:=by kernel_rfl
    have g0:DataW.trod enc Tryz.prog W base spare held k 9 [v0]=some y0:=by have h:=hf2 0 _ rfl;simpa[ks] using h
    have g1:DataW.trod enc Tryz.prog W base spare held k 4 [v1]=some y1:=by have h:=hf2 1 _ rfl;simpa[kb] using h
    have g2:DataW.trod enc Tryz.prog W base spare held k 4 [v2]=some y2:=by have h:=hf2 2 _ rfl;simpa[kb] using h
    have g3:DataW.trod enc Tryz.prog W base spare held k 9 [v3]=some y3:=by have h:=hf2 3 _ rfl;simpa[ks] using h
    have e0:=hcell 0 (by omega);have e1:=hcell 1 (by omega);have e2:=hcell 2 (by omega);have e3:=hcell 3 (by omega);rw[Go.Deep.add_add] at e0 e1 e2 e3;obtain⟨z0,q0,r0,_⟩:=DataW.trod_string Tryz.underlying9 g0;obtain⟨z1,q1,r1⟩:=DataW.trod_bool Tryz.underlying4 g1;obtain⟨z2,q2,r2⟩:=DataW.trod_bool Tryz.underlying4 g2;obtain⟨z3,q3,r3,_⟩:=DataW.trod_string Tryz.underlying9 g3;have q0:=(aN q0).1;have q1:=(aN q1).1;have q2:=(aN q2).1;have q3:=(aN q3).1;subst q0 q1 q2 q3;refine⟨⟨z0.data.toList,z1,z2,z3.data.toList⟩,fun _=>⟨by simpa using e0,by simpa using e1,by simpa using e2,by simpa using e3,?_⟩⟩;have e:D i=.agg [y0.1,y1.1,y2.1,y3.1]:=congrArg Prod.fst hy;have r0:=congrArg Prod.fst r0;have r3:=congrArg Prod.fst r3
    try simp only at r0 r3
    simp only[e,Rows.uptoBulk,Rows.uptoBulkAll,r0,r3]
    omega
   ·exact⟨⟨[],false,false,[]⟩,fun h=>absurd h hi⟩
  let f:=fun i=>Classical.choose (each i)
  have hf:∀i,i<len→W.cell? (a.add (i*4))=some (.string ⟨(f i).oid.toArray⟩)∧W.cell? (a.add (i*4+1))=some (.bool (f i).crit)∧W.cell? (a.add (i*4+2))=some (.bool (f i).has)∧W.cell? (a.add (i*4+3))=some (.string ⟨(f i).value.toArray⟩)∧(f i).oid.length+(f i).value.length+1≤Rows.uptoBulk (D i):=fun i=>Classical.choose_spec (each i)
  have hlen:((List.range len).map f).length=len:=by simp
  refine⟨_,(List.range len).map f,rfl,⟨some a,cap,by rw[hlen],by rw[hlen];exact hl,fun h0=>?_⟩,?_⟩
  ·have hpos:0<len:=by
    rcases Nat.eq_zero_or_pos len with h|h
    ·subst h;exact absurd rfl h0
    ·exact h
   obtain⟨g,o,rfl⟩:=xz (hf 0 hpos).1 (by simp);refine⟨g,o,rfl,fun j y hj=>?_⟩;have hjl:j<len:=by have:=(List.getElem?_eq_some_iff.1 hj).1;simpa using this
   rw[List.getElem?_map,List.getElem?_range hjl] at hj;cases hj;obtain⟨c0,c1,c2,c3,_⟩:=hf j hjl;rw[Addr.add_lit] at c0;rw[Addr.add_lit,←Nat.add_assoc] at c1 c2 c3;exact⟨c0,c1,c2,c3⟩
  ·have:=Cn D (fun i=>(f i).oid.length+(f i).value.length+1) len (fun i hi=>(hf i hi).2.2.2.2)
   simp only[Rows.uptoBulk,buK,List.map_map];simp only[Function.comp_def] at this⊢
   omega
theorem qU{H:Type}{enc:TypeId×Value→H}{W:World}{base:Nat}{spare:Nat→Bool}{held:Bool}{fuel:Nat}{cs:List Value}{x:DataW H×List MemPlace}
  (h:DataW.trod enc Tryz.prog W base spare held fuel 26 cs=some x):∃v ml,cs=[v]∧de W v ml∧buF ml≤Rows.uptoBulk x.1∧∀p∈ml,p.n≤9223372036854775807:=by
 rcases Go.Deep.open_slice Tryz.underlying26 h with⟨rfl,rfl⟩|⟨a,len,cap,m,n,D,Pl,rfl,hb,hl,hm,hmm,rfl,hx⟩
 ·exact⟨_,[],rfl,⟨none,0,rfl,ah _,fun h=>absurd rfl h⟩,by simp[buF],by simp⟩
 ·have hlm:len≤m:=by rw[hmm];split<;>omega
  have cK:Tryz.prog.cellsOf 141=7:=by kernel_rfl
  have each:∀i,∃q:Fl,i<len→W.cell? (a.add (i*7))=some (.int .i64 q.op)∧W.cell? (a.add (i*7+1))=some (.int .i64 q.n)∧W.cell? (a.add (i*7+2))=some (.string ⟨q.typ.toArray⟩)∧W.cell? (a.add (i*7+3))=some (.string ⟨q.value.toArray⟩)∧W.cell? (a.add (i*7+4))=some (.string ⟨q.init.toArray⟩)∧W.cell? (a.add (i*7+5))=some (.string ⟨q.final.toArray⟩)∧(∃u,W.cell? (a.add (i*7+6))=some u∧ct W u q.any)∧q.op≤9223372036854775807∧q.n≤9223372036854775807∧q.typ.length+q.value.length+q.init.length+q.final.length+buS q.any+1≤Rows.uptoBulk (D i):=by
   intro i
   by_cases hi:i<len
   ·obtain⟨cs',h1,h2⟩:=hx i (by omega)
    rw[cK] at h1;obtain⟨_,hlen,hcell⟩:=World.cells?_some h1;obtain⟨xs,k,_,hy,hl2,hlen2,hf2⟩:=DataW.trod_struct Tryz.underlying141 h2;obtain⟨v0,v1,v2,v3,v4,v5,v6,rfl⟩:=sF hlen;obtain⟨y0,y1,y2,y3,y4,y5,y6,rfl⟩:=sF (show xs.length=7 from hlen2);have ki:Tryz.prog.cellsOf 3=1:=by kernel_rfl
    have ks:Tryz.prog.cellsOf 9=1:=by kernel_rfl
    have kb:Tryz.prog.cellsOf 4=1:=by kernel_rfl
    have kS:Tryz.prog.cellsOf 27=1:=by kernel_rfl
    have g0:DataW.trod enc Tryz.prog W base spare held k 3 [v0]=some y0:=by have h:=hf2 0 _ rfl;simpa[ki] using h
    have g1:DataW.trod enc Tryz.prog W base spare held k 3 [v1]=some y1:=by have h:=hf2 1 _ rfl;simpa[ki] using h
    have g2:DataW.trod enc Tryz.prog W base spare held k 9 [v2]=some y2:=by have h:=hf2 2 _ rfl;simpa[ks] using h
    have g3:DataW.trod enc Tryz.prog W base spare held k 9 [v3]=some y3:=by have h:=hf2 3 _ rfl;simpa[ks] using h
    have g4:DataW.trod enc Tryz.prog W base spare held k 9 [v4]=some y4:=by have h:=hf2 4 _ rfl;simpa[ks] using h
    have g5:DataW.trod enc Tryz.prog W base spare held k 9 [v5]=some y5:=by have h:=hf2 5 _ rfl;simpa[ks] using h
    have g6:DataW.trod enc Tryz.prog W base spare held k 27 [v6]=some y6:=by have h:=hf2 6 _ rfl;simpa[kS] using h
    have e0:=hcell 0 (by omega);have e1:=hcell 1 (by omega);have e2:=hcell 2 (by omega);have e3:=hcell 3 (by omega);have e4:=hcell 4 (by omega);have e5:=hcell 5 (by omega);have e6:=hcell 6 (by omega);rw[Go.Deep.add_add] at e0 e1 e2 e3 e4 e5 e6;obtain⟨z0,q0,r0,w0⟩:=DataW.trod_int Tryz.underlying3 g0;obtain⟨z1,q1,r1,w1⟩:=DataW.trod_int Tryz.underlying3 g1;obtain⟨z2,q2,r2,_⟩:=DataW.trod_string Tryz.underlying9 g2;obtain⟨z3,q3,r3,_⟩:=DataW.trod_string Tryz.underlying9 g3;obtain⟨z4,q4,r4,_⟩:=DataW.trod_string Tryz.underlying9 g4;obtain⟨z5,q5,r5,_⟩:=DataW.trod_string Tryz.underlying9 g5;obtain⟨u6,z6,q6,h6S,r6⟩:=ib g6;have q0:=(aN q0).1;have q1:=(aN q1).1;have q2:=(aN q2).1;have q3:=(aN q3).1;have q4:=(aN q4).1;have q5:=(aN q5).1;have q6:=(aN q6).1;subst q0 q1 q2 q3 q4 q5 q6;refine⟨⟨z0,z1,z2.data.toList,z3.data.toList,z4.data.toList,z5.data.toList,z6⟩,fun _=>⟨by simpa using e0,by simpa using e1,by simpa using e2,by simpa using e3,by simpa using e4,by simpa using e5,⟨_,by simpa using e6,h6S⟩,Bm w0,Bm w1,?_⟩⟩;have e:D i=.agg [y0.1,y1.1,y2.1,y3.1,y4.1,y5.1,y6.1]:=congrArg Prod.fst hy;have r2:=congrArg Prod.fst r2;have r3:=congrArg Prod.fst r3;have r4:=congrArg Prod.fst r4;have r5:=congrArg Prod.fst r5
    try simp only at r2 r3 r4 r5
    simp only[e,Rows.uptoBulk,Rows.uptoBulkAll,r2,r3,r4,r5]
    try simp only at r6
    omega
   ·exact⟨⟨0,0,[],[],[],[],[]⟩,fun h=>absurd h hi⟩
  let f:=fun i=>Classical.choose (each i)
  have hf:∀i,i<len→W.cell? (a.add (i*7))=some (.int .i64 (f i).op)∧W.cell? (a.add (i*7+1))=some (.int .i64 (f i).n)∧W.cell? (a.add (i*7+2))=some (.string ⟨(f i).typ.toArray⟩)∧W.cell? (a.add (i*7+3))=some (.string ⟨(f i).value.toArray⟩)∧W.cell? (a.add (i*7+4))=some (.string ⟨(f i).init.toArray⟩)∧W.cell? (a.add (i*7+5))=some (.string ⟨(f i).final.toArray⟩)∧(∃u,W.cell? (a.add (i*7+6))=some u∧ct W u (f i).any)∧(f i).op≤9223372036854775807∧(f i).n≤9223372036854775807∧(f i).typ.length+(f i).value.length+(f i).init.length+(f i).final.length+buS (f i).any+1≤Rows.uptoBulk (D i):=fun i=>Classical.choose_spec (each i)
  have hlen:((List.range len).map f).length=len:=by simp
  refine⟨_,(List.range len).map f,rfl,⟨some a,cap,by rw[hlen],by rw[hlen];exact hl,fun h0=>?_⟩,?_,?_⟩
  ·have hpos:0<len:=by
    rcases Nat.eq_zero_or_pos len with h|h
    ·subst h;exact absurd rfl h0
    ·exact h
   obtain⟨g,o,rfl⟩:=xz (hf 0 hpos).1 (by simp);refine⟨g,o,rfl,fun j y hj=>?_⟩;have hjl:j<len:=by have:=(List.getElem?_eq_some_iff.1 hj).1;simpa using this
   rw[List.getElem?_map,List.getElem?_range hjl] at hj;cases hj;obtain⟨c0,c1,c2,c3,c4,c5,⟨u,c6,d6⟩,_⟩:=hf j hjl;rw[Addr.add_lit] at c0;rw[Addr.add_lit,←Nat.add_assoc] at c1 c2 c3 c4 c5 c6;exact⟨c0,c1,c2,c3,c4,c5,u,c6,d6⟩
  ·have:=Cn D (fun i=>(f i).typ.length+(f i).value.length+(f i).init.length+(f i).final.length+buS (f i).any+1) len (fun i hi=>(hf i hi).2.2.2.2.2.2.2.2.2)
   simp only[Rows.uptoBulk,buF,List.map_map];simp only[Function.comp_def] at this⊢
   omega
  ·intro p hp
   simp only[List.mem_map,List.mem_range] at hp;obtain⟨i,hi,rfl⟩:=hp;exact(hf i hi).2.2.2.2.2.2.2.2.1
def buG(m:Mg)(l:Ls):Nat:=m.dn.length+m.secret.length+m.newRdn.length+m.newSup.length+m.typ.length+m.value.length+m.oid.length+m.matched.length+m.text.length+buF l.filt+buS l.sel+buM l.mods+buA l.attrs+buK l.ctl
theorem pu{H:Type}{enc:TypeId×Value→H}{W:World}{base:Nat}{spare:Nat→Bool}{held:Bool}{fuel:Nat}{cs:List Value}{x:DataW H×List MemPlace}
  (h:DataW.trod enc Tryz.prog W base spare held fuel 32 cs=some x):∃m l,cs=(Mg.row m).toList∧MgM W m l∧buG m l≤Rows.uptoBulk x.1∧∀p∈l.filt,p.n≤9223372036854775807:=by
 obtain⟨xs,n,_,rfl,hl,hlen,hf⟩:=DataW.trod_struct Tryz.underlying32 h;have c28:Tryz.prog.cellsOf 32=28:=by kernel_rfl
 rw[c28] at hl;obtain⟨v0,v1,v2,v3,v4,v5,v6,v7,v8,v9,v10,v11,v12,v13,v14,v15,v16,v17,v18,v19,v20,v21,v22,v23,v24,v25,v26,v27,rfl⟩:=qR hl;obtain⟨y0,y1,y2,y3,y4,y5,y6,y7,y8,y9,y10,y11,y12,y13,y14,y15,y16,y17,y18,y19,y20,y21,y22,y23,y24,y25,y26,y27,rfl⟩:=qR (show xs.length=28 from hlen);have ki:Tryz.prog.cellsOf 3=1:=by kernel_rfl
 have ks:Tryz.prog.cellsOf 9=1:=by kernel_rfl
 have kb:Tryz.prog.cellsOf 4=1:=by kernel_rfl
 have kvF:Tryz.prog.cellsOf 26=1:=by kernel_rfl
 have kvS:Tryz.prog.cellsOf 27=1:=by kernel_rfl
 have kvM:Tryz.prog.cellsOf 28=1:=by kernel_rfl
 have kvA:Tryz.prog.cellsOf 29=1:=by kernel_rfl
 have kvK:Tryz.prog.cellsOf 30=1:=by kernel_rfl
 have g0:DataW.trod enc Tryz.prog W base spare held n 3 [v0]=some y0:=by have h:=hf 0 _ rfl;simpa[ki,ks,kb,kvF,kvS,kvM,kvA,kvK] using h
 have g1:DataW.trod enc Tryz.prog W base spare held n 3 [v1]=some y1:=by have h:=hf 1 _ rfl;simpa[ki,ks,kb,kvF,kvS,kvM,kvA,kvK] using h
 have g2:DataW.trod enc Tryz.prog W base spare held n 9 [v2]=some y2:=by have h:=hf 2 _ rfl;simpa[ki,ks,kb,kvF,kvS,kvM,kvA,kvK] using h
 have g3:DataW.trod enc Tryz.prog W base spare held n 3 [v3]=some y3:=by have h:=hf 3 _ rfl;simpa[ki,ks,kb,kvF,kvS,kvM,kvA,kvK] using h
 have g4:DataW.trod enc Tryz.prog W base spare held n 4 [v4]=some y4:=by have h:=hf 4 _ rfl;simpa[ki,ks,kb,kvF,kvS,kvM,kvA,kvK] using h
 have g5:DataW.trod enc Tryz.prog W base spare held n 9 [v5]=some y5:=by have h:=hf 5 _ rfl;simpa[ki,ks,kb,kvF,kvS,kvM,kvA,kvK] using h
 have g6:DataW.trod enc Tryz.prog W base spare held n 3 [v6]=some y6:=by have h:=hf 6 _ rfl;simpa[ki,ks,kb,kvF,kvS,kvM,kvA,kvK] using h
 have g7:DataW.trod enc Tryz.prog W base spare held n 3 [v7]=some y7:=by have h:=hf 7 _ rfl;simpa[ki,ks,kb,kvF,kvS,kvM,kvA,kvK] using h
 have g8:DataW.trod enc Tryz.prog W base spare held n 3 [v8]=some y8:=by have h:=hf 8 _ rfl;simpa[ki,ks,kb,kvF,kvS,kvM,kvA,kvK] using h
 have g9:DataW.trod enc Tryz.prog W base spare held n 3 [v9]=some y9:=by have h:=hf 9 _ rfl;simpa[ki,ks,kb,kvF,kvS,kvM,kvA,kvK] using h
 have g10:DataW.trod enc Tryz.prog W base spare held n 4 [v10]=some y10:=by have h:=hf 10 _ rfl;simpa[ki,ks,kb,kvF,kvS,kvM,kvA,kvK] using h
 have g11:DataW.trod enc Tryz.prog W base spare held n 26 [v11]=some y11:=by have h:=hf 11 _ rfl;simpa[ki,ks,kb,kvF,kvS,kvM,kvA,kvK] using h
 have g12:DataW.trod enc Tryz.prog W base spare held n 27 [v12]=some y12:=by have h:=hf 12 _ rfl;simpa[ki,ks,kb,kvF,kvS,kvM,kvA,kvK] using h
 have g13:DataW.trod enc Tryz.prog W base spare held n 28 [v13]=some y13:=by have h:=hf 13 _ rfl;simpa[ki,ks,kb,kvF,kvS,kvM,kvA,kvK] using h
 have g14:DataW.trod enc Tryz.prog W base spare held n 29 [v14]=some y14:=by have h:=hf 14 _ rfl;simpa[ki,ks,kb,kvF,kvS,kvM,kvA,kvK] using h
 have g15:DataW.trod enc Tryz.prog W base spare held n 9 [v15]=some y15:=by have h:=hf 15 _ rfl;simpa[ki,ks,kb,kvF,kvS,kvM,kvA,kvK] using h
 have g16:DataW.trod enc Tryz.prog W base spare held n 9 [v16]=some y16:=by have h:=hf 16 _ rfl;simpa[ki,ks,kb,kvF,kvS,kvM,kvA,kvK] using h
 have g17:DataW.trod enc Tryz.prog W base spare held n 4 [v17]=some y17:=by have h:=hf 17 _ rfl;simpa[ki,ks,kb,kvF,kvS,kvM,kvA,kvK] using h
 have g18:DataW.trod enc Tryz.prog W base spare held n 4 [v18]=some y18:=by have h:=hf 18 _ rfl;simpa[ki,ks,kb,kvF,kvS,kvM,kvA,kvK] using h
 have g19:DataW.trod enc Tryz.prog W base spare held n 9 [v19]=some y19:=by have h:=hf 19 _ rfl;simpa[ki,ks,kb,kvF,kvS,kvM,kvA,kvK] using h
 have g20:DataW.trod enc Tryz.prog W base spare held n 9 [v20]=some y20:=by have h:=hf 20 _ rfl;simpa[ki,ks,kb,kvF,kvS,kvM,kvA,kvK] using h
 have g21:DataW.trod enc Tryz.prog W base spare held n 9 [v21]=some y21:=by have h:=hf 21 _ rfl;simpa[ki,ks,kb,kvF,kvS,kvM,kvA,kvK] using h
 have g22:DataW.trod enc Tryz.prog W base spare held n 4 [v22]=some y22:=by have h:=hf 22 _ rfl;simpa[ki,ks,kb,kvF,kvS,kvM,kvA,kvK] using h
 have g23:DataW.trod enc Tryz.prog W base spare held n 3 [v23]=some y23:=by have h:=hf 23 _ rfl;simpa[ki,ks,kb,kvF,kvS,kvM,kvA,kvK] using h
 have g24:DataW.trod enc Tryz.prog W base spare held n 3 [v24]=some y24:=by have h:=hf 24 _ rfl;simpa[ki,ks,kb,kvF,kvS,kvM,kvA,kvK] using h
 have g25:DataW.trod enc Tryz.prog W base spare held n 9 [v25]=some y25:=by have h:=hf 25 _ rfl;simpa[ki,ks,kb,kvF,kvS,kvM,kvA,kvK] using h
 have g26:DataW.trod enc Tryz.prog W base spare held n 9 [v26]=some y26:=by have h:=hf 26 _ rfl;simpa[ki,ks,kb,kvF,kvS,kvM,kvA,kvK] using h
 have g27:DataW.trod enc Tryz.prog W base spare held n 30 [v27]=some y27:=by have h:=hf 27 _ rfl;simpa[ki,ks,kb,kvF,kvS,kvM,kvA,kvK] using h
 clear hf;obtain⟨z0,q0,r0,_⟩:=DataW.trod_int Tryz.underlying3 g0;obtain⟨z1,q1,r1,_⟩:=DataW.trod_int Tryz.underlying3 g1;obtain⟨z2,q2,r2,_⟩:=DataW.trod_string Tryz.underlying9 g2;obtain⟨z3,q3,r3,_⟩:=DataW.trod_int Tryz.underlying3 g3;obtain⟨z4,q4,r4⟩:=DataW.trod_bool Tryz.underlying4 g4;obtain⟨z5,q5,r5,_⟩:=DataW.trod_string Tryz.underlying9 g5;obtain⟨z6,q6,r6,_⟩:=DataW.trod_int Tryz.underlying3 g6;obtain⟨z7,q7,r7,_⟩:=DataW.trod_int Tryz.underlying3 g7;obtain⟨z8,q8,r8,_⟩:=DataW.trod_int Tryz.underlying3 g8;obtain⟨z9,q9,r9,_⟩:=DataW.trod_int Tryz.underlying3 g9;obtain⟨z10,q10,r10⟩:=DataW.trod_bool Tryz.underlying4 g10;obtain⟨u11,z11,q11,h11S,r11,w11⟩:=qU g11;obtain⟨u12,z12,q12,h12S,r12⟩:=ib g12;obtain⟨u13,z13,q13,h13S,r13⟩:=qS g13;obtain⟨u14,z14,q14,h14S,r14⟩:=pt g14;obtain⟨z15,q15,r15,_⟩:=DataW.trod_string Tryz.underlying9 g15;obtain⟨z16,q16,r16,_⟩:=DataW.trod_string Tryz.underlying9 g16;obtain⟨z17,q17,r17⟩:=DataW.trod_bool Tryz.underlying4 g17;obtain⟨z18,q18,r18⟩:=DataW.trod_bool Tryz.underlying4 g18;obtain⟨z19,q19,r19,_⟩:=DataW.trod_string Tryz.underlying9 g19;obtain⟨z20,q20,r20,_⟩:=DataW.trod_string Tryz.underlying9 g20;obtain⟨z21,q21,r21,_⟩:=DataW.trod_string Tryz.underlying9 g21;obtain⟨z22,q22,r22⟩:=DataW.trod_bool Tryz.underlying4 g22;obtain⟨z23,q23,r23,_⟩:=DataW.trod_int Tryz.underlying3 g23;obtain⟨z24,q24,r24,_⟩:=DataW.trod_int Tryz.underlying3 g24;obtain⟨z25,q25,r25,_⟩:=DataW.trod_string Tryz.underlying9 g25;obtain⟨z26,q26,r26,_⟩:=DataW.trod_string Tryz.underlying9 g26;obtain⟨u27,z27,q27,h27S,r27⟩:=qT g27;have q0:=(aN q0).1;have q1:=(aN q1).1;have q2:=(aN q2).1;have q3:=(aN q3).1;have q4:=(aN q4).1;have q5:=(aN q5).1;have q6:=(aN q6).1;have q7:=(aN q7).1;have q8:=(aN q8).1;have q9:=(aN q9).1;have q10:=(aN q10).1;have q11:=(aN q11).1;have q12:=(aN q12).1;have q13:=(aN q13).1;have q14:=(aN q14).1;have q15:=(aN q15).1;have q16:=(aN q16).1;have q17:=(aN q17).1;have q18:=(aN q18).1;have q19:=(aN q19).1;have q20:=(aN q20).1;have q21:=(aN q21).1;have q22:=(aN q22).1;have q23:=(aN q23).1;have q24:=(aN q24).1;have q25:=(aN q25).1;have q26:=(aN q26).1;have q27:=(aN q27).1;subst q0 q1 q2 q3 q4 q5 q6 q7 q8 q9 q10 q11 q12 q13 q14 q15 q16 q17 q18 q19 q20 q21 q22 q23 q24 q25 q26 q27;refine⟨{id:=z0,op:=z1,dn:=z2.data.toList,ver:=z3,sasl:=z4,secret:=z5.data.toList,scope:=z6,deref:=z7,size:=z8,time:=z9,types:=z10,filt:=v11,sel:=v12,mods:=v13,attrs:=v14,newRdn:=z15.data.toList,newSup:=z16.data.toList,delOld:=z17,hasSup:=z18,typ:=z19.data.toList,value:=z20.data.toList,oid:=z21.data.toList,has:=z22,target:=z23,code:=z24,matched:=z25.data.toList,text:=z26.data.toList,ctl:=v27},⟨z11,z12,z13,z14,z27⟩,by simp[Mg.row],⟨h11S,h12S,h13S,h14S,h27S⟩,?_,w11⟩
 have r2:=congrArg Prod.fst r2;have r5:=congrArg Prod.fst r5;have r15:=congrArg Prod.fst r15;have r16:=congrArg Prod.fst r16;have r19:=congrArg Prod.fst r19;have r20:=congrArg Prod.fst r20;have r21:=congrArg Prod.fst r21;have r25:=congrArg Prod.fst r25;have r26:=congrArg Prod.fst r26
 try simp only at r2 r5 r15 r16 r19 r20 r21 r25 r26
 simp only[List.map_cons,List.map_nil,Rows.uptoBulk,Rows.uptoBulkAll,r2,r5,r15,r16,r19,r20,r21,r25,r26,buG]
 omega
theorem gz{α:Type}(f:α→Nat):∀(l:List α) (x:α),x∈l→f x≤(l.map f).sum
 |y::l,x,h=>by
  rcases aY.1 h with rfl|h
  ·simp
  ·have:=gz f l x h;simp;omega
theorem wV{α:Type}(f:α→Nat)(hf:∀x,1≤f x):∀(l:List α),l.length≤(l.map f).sum
 |[]=>by simp
 |y::l=>by have:=wV f hf l;have:=hf y;simp;omega
theorem kH{ls:List (List UInt8)}{n:Nat}(h:buS ls≤n):ls.length≤n∧∀s∈ls,s.length≤n:=by
 unfold buS at h;refine⟨by have:=wV (fun l:List UInt8=>l.length+1) (by intro x;omega) ls;omega,fun s hs=>?_⟩;have:=gz (fun l:List UInt8=>l.length+1) ls s hs
 try simp only at this
 omega
theorem tq{m:Mg}{l:Ls}(h:buG m l≤1048576)(hn:∀p∈l.filt,p.n≤9223372036854775807):LsOk m l:=by
 unfold buG at h;have s1:=kH (ls:=l.sel) (n:=1048576) (by omega);have lf:=wV (fun p:Fl=>p.typ.length+p.value.length+p.init.length+p.final.length+buS p.any+1) (by intro x;omega) l.filt;have lm:=wV (fun x:Md=>x.2.1.length+buS x.2.2+1) (by intro x;omega) l.mods;have la:=wV (fun x:List UInt8×List (List UInt8)=>x.1.length+buS x.2+1) (by intro x;omega) l.attrs;have lk:=wV (fun x:Ct=>x.oid.length+x.value.length+1) (by intro x;omega) l.ctl;simp only[buF,buM,buA,buK] at h;refine⟨by omega,by omega,by omega,by omega,by omega,by omega,by omega,by omega,by omega,⟨by omega,fun p hp=>?_⟩,by omega,fun s hs=>?_,by omega,fun x hx=>?_,⟨by omega,fun x hx=>?_⟩,by omega,fun c hc=>?_⟩
 ·have:=gz (fun p:Fl=>p.typ.length+p.value.length+p.init.length+p.final.length+buS p.any+1) l.filt p hp
  try simp only at this
  have hb:=kH (ls:=p.any) (n:=1048576) (by omega);exact⟨⟨by omega,by omega,by omega,by omega,by omega,fun s hs=>by have:=hb.2 s hs;omega⟩,hn p hp⟩
 ·have:=s1.2 s hs;omega
 ·have:=gz (fun x:Md=>x.2.1.length+buS x.2.2+1) l.mods x hx
  try simp only at this
  have hb:=kH (ls:=x.2.2) (n:=1048576) (by omega);exact⟨by omega,by omega,fun s hs=>by have:=hb.2 s hs;omega⟩
 ·have:=gz (fun x:List UInt8×List (List UInt8)=>x.1.length+buS x.2+1) l.attrs x hx
  try simp only at this
  have hb:=kH (ls:=x.2) (n:=1048576) (by omega)
  first|exact⟨by omega,by omega,fun s hs=>by have:=hb.2 s hs;omega⟩|exact⟨by omega,⟨by omega,fun s hs=>by have:=hb.2 s hs;omega⟩⟩
 ·have:=gz (fun x:Ct=>x.oid.length+x.value.length+1) l.ctl c hc
  try simp only at this
  exact⟨by omega,by omega⟩
def buX(l:List (Mg×Ls)):Nat:=(l.map fun y=>buG y.1 y.2).sum
theorem DJ{H:Type}{enc:TypeId×Value→H}{W:World}{base:Nat}{spare:Nat→Bool}{held:Bool}{fuel:Nat}{cs:List Value}{x:DataW H×List MemPlace}
  (h:DataW.trod enc Tryz.prog W base spare held fuel 22 cs=some x):∃v l,cs=[v]∧BC W v l∧buX l≤Rows.uptoBulk x.1∧∀y∈l,∀p∈y.2.filt,p.n≤9223372036854775807:=by
 rcases Go.Deep.open_slice Tryz.underlying22 h with⟨rfl,rfl⟩|⟨a,len,cap,m,n,D,Pl,rfl,hb,hl,hm,hmm,rfl,hx⟩
 ·exact⟨_,[],rfl,⟨none,0,rfl,ah _,fun h=>absurd rfl h⟩,by simp[buX],by simp⟩
 ·have hlm:len≤m:=by rw[hmm];split<;>omega
  have c28:Tryz.prog.cellsOf 32=28:=by kernel_rfl
  have each:∀i,∃q:Mg×Ls,i<len→(∀(k:Nat) (y:Value),q.1.row.toList[k]?=some y→W.cell? (a.add (i*28+k))=some y)∧MgM W q.1 q.2∧buG q.1 q.2≤Rows.uptoBulk (D i)∧∀p∈q.2.filt,p.n≤9223372036854775807:=by
   intro i
   by_cases hi:i<len
   ·obtain⟨cs',h1,h2⟩:=hx i (by omega)
    rw[c28] at h1;obtain⟨_,hlen,hcell⟩:=World.cells?_some h1;obtain⟨m',l',hc,q1,q2,q3⟩:=pu h2;refine⟨(m',l'),fun _=>⟨fun k y hk=>?_,q1,q2,q3⟩⟩;have hk28:k<28:=(List.getElem?_eq_some_iff.1 hk).1;have e0:=hcell k (by omega);rw[Go.Deep.add_add] at e0;have e1:cs'[k]?=some y:=by rw[hc];exact hk
    first|rw[e0,e1]|(rw[e0];have:=List.getElem?_eq_some_iff.1 e1;simp[this.2])
   ·exact⟨({},{}),fun h=>absurd h hi⟩
  let f:=fun i=>Classical.choose (each i)
  have hf:=fun i (hi:i<len)=>Classical.choose_spec (each i) hi
  have hlen:((List.range len).map fun i=>f i).length=len:=by simp
  refine⟨_,(List.range len).map fun i=>f i,rfl,⟨some a,cap,by rw[hlen],by rw[hlen];exact hl,fun h0=>?_⟩,?_,fun y hy=>?_⟩
  ·have hpos:0<len:=by
    rcases Nat.eq_zero_or_pos len with h|h
    ·subst h;exact absurd rfl h0
    ·exact h
   obtain⟨g,o,rfl⟩:=xz ((hf 0 hpos).1 0 _ rfl) (by simp);refine⟨g,o,rfl,fun j y hj=>?_⟩;have hjl:j<len:=by have:=(List.getElem?_eq_some_iff.1 hj).1;simpa using this
   rw[List.getElem?_map,List.getElem?_range hjl] at hj;cases hj;obtain⟨g1,g2,_⟩:=hf j hjl;refine⟨fun k y hk=>?_,g2⟩;have:=g1 k y hk;rw[Addr.add_lit,←Nat.add_assoc] at this;exact this
  ·have:=Cn D (fun i=>buG (f i).1 (f i).2) len (fun i hi=>(hf i hi).2.2.1)
   simp only[Rows.uptoBulk,buX,List.map_map];simp only[Function.comp_def] at this⊢
   omega
  ·obtain⟨i,hi,rfl⟩:=List.mem_map.1 hy
   exact(hf i (List.mem_range.1 hi)).2.2.2
theorem DL{l:List (Mg×Ls)}(h:buX l≤1048576)(hn:∀y∈l,∀p∈y.2.filt,p.n≤9223372036854775807):∀y∈l,LsOk y.1 y.2:=fun y hy=>
 tq (by have:=gz (fun y:Mg×Ls=>buG y.1 y.2) l y hy;unfold buX at h;omega) (hn y hy)
end Go.Proofs.YtfhghdcbofbceaaGreatDoor
