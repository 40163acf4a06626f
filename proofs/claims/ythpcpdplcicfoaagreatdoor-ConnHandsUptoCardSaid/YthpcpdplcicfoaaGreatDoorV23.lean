/- CoG, CoH, CoI, CoJ, CoK, CoL. -/
import Derived.Test.YthpcpdplcicfoaaGreatDoorV22
namespace Go.Proofs.YthpcpdplcicfoaaGreatDoor
open Go.RowKit Go.Lib
set_option maxRecDepth 100000
set_option maxHeartbeats 16000000
theorem CI(A:Array Value)(k:Int)(B:Nat)(mid:Int)(w:World)(hA0:A[0]?=some (.int .i64 mid))(hB:w.cell? ⟨B,0,none⟩=some (.int .i64 k)):
  Cr 141 #[.agg A,.pointer (some ⟨B,0,none⟩)] w (.bool (mid==k)):=by
 have b1:=alb w A 33;have m1:=alz w A 33;have c0:(w.alloc (.cells A 33)).cell? ⟨w.heap.size,0,none⟩=some (.int .i64 mid):=(aq m1 0).trans hA0;have cB:=(b1.cell (bj hB)).trans hB;clear hA0 hB m1
 go_enter Tryz.func141,Tryz.ntmps141
 go_upto_region 1 with fail
 generalize w.alloc (.cells A 33)=w1 at b1 c0 cB⊢
 go_wp2_with fail
 go_ret
 exact⟨rfl,b1⟩
def Dy(w:World)(ids:List Int)(k:Int)(v:Value)(wr:World):Prop:=∃j:Nat,j≤ids.length∧v=.int .i64 (j:Int)∧(ids.take j).contains k=false∧Below w.heap.size w wr
def ua(ids:List Int)(k:Int)(r:Int):Prop:=(r=-1∧ids.contains k=false)∨∃j:Nat,r=j∧ids[j]?=some k
theorem s9(P:Nat→Prop)(v:Value)(Ms:List Mg)(ms:List (Mg×Ls))(k:Int)(B:Nat)(w:World)(h:w.ownsRow 0 33 28 v ms.length (cC Ms))(hm:eq P w Ms ms)(hl:ms.length≤1000)(hB:w.cell? ⟨B,0,none⟩=some (.int .i64 k)):
  Calls Tryz.prog 140 #[v,.func (.func 141) #[] #[.pointer (some ⟨B,0,none⟩)]] w fun e w'=>(∃r,e=.returned (.int .i64 r)∧ua (ms.map (·.1.id)) k r)∧Below w.heap.size w w':=by
 obtain⟨ids,hI⟩:=nmm (ms.map (·.1.id));obtain⟨n,hn⟩:=nmm ms.length;have hlen:ids.length=n:=by rw[←hI,List.length_map,hn]
 obtain⟨a,cap,rfl⟩:∃a cap,v=.slice a n cap:=by
  rcases h.2 with⟨hv,h0⟩|⟨g,cap,cur,hv,_⟩
  ·exact⟨none,0,by rw[hv,←hn,h0]⟩
  ·exact⟨_,cap,by rw[hv,hn]⟩
 rw[hI];rw[hn] at h hl;obtain⟨HH,HM,HI,HLN⟩:=Ci h hm hI hlen;clear h hm hI hn hlen
 go_enter Tryz.func140,Tryz.ntmps140
 go_wp2_with fail
 go_loopw [8] (fun v wr=>Dy w ids k v wr) (fun v _=>n -(RowKit.intOf v).toNat)
 case atStart=>exact⟨0,Nat.zero_le _,rfl,rfl,aA _ _⟩
 case round=>
  obtain⟨j,hj,rfl,htk,hbe⟩:=hrel;rw[HLN.out] at hj
  by_cases hlt:j<n
  ·have g1:decide ((j:Int)<(n:Int))=true:=aC (by omega)
   obtain⟨g,cap',e0,_⟩:=HH.out.form (by omega)
   injection e0 with ea _ ec
   subst ea;subst ec
   have hjm:j<ms.length:=by have:=HI.out;have h2:=HLN.out;rw[←this,List.length_map] at h2;omega
   obtain⟨y,hy⟩:∃y,ms[j]?=some y:=⟨_,aM hjm⟩;obtain⟨m,hMi,hpl,hls⟩:=HM.out.get hy;have hkey:ids[j]?=some y.1.id:=by rw[←HI.out,List.getElem?_map,hy];rfl
   have hown:wr.ownsRow 0 33 28 (.slice (some ⟨g,0,none⟩) n cap) n (cC Ms):=gM HH.out fun b hb=>hbe.block b (HH.out.lt b hb).2
   have hrng:wr.rangeAt g (j*28) m.row.toList:=fun i v hi=>by
    have hil:i<28:=(List.getElem?_eq_some_iff.1 hi).1;have hc:=hown.cells (g:=g) rfl (j*28+i) v (by rw[ie Ms j i m hMi hil];exact hi);rw[show(⟨g,0,none⟩:Addr).add (j*28+i)=⟨g,j*28+i,none⟩ by simp[Addr.add_lit]] at hc;exact hc
   obtain⟨D,hD⟩:=nmm m.row;have hD2:D.size=28:=by rw[←hD];rfl
   have hD0:D[0]?=some (.int .i64 y.1.id):=by rw[←hD,←hpl];rfl
   rw[hD] at hrng;have kc:=CI D k B y.1.id wr hD0 ((hbe.cell (bj hB)).trans hB);obtain⟨b,hb⟩:=nmm (y.1.id==k);rw[hb] at kc;obtain⟨HD2,HB,HKEY,HTK,HRN⟩:=Cj hD2 hb hkey htk hrng;have hk1:((j:Int)<(n:Int)):=by omega
   clear hD hD2 hD0 hpl hls hMi hy hjm hown htk hb hkey hrng
   go_wp2_with (first|(refine wpList_load_mid rfl 33 (.tmp 14) rfl g (j*28) (by rfl) D.toList _ HRN.out Tryz.underlying33 rfl (by rw[Array.length_toList,HD2.out];rfl) ?_;rw[Array.toArray_toList]))
   refine ag kc ?_;rintro e w2 ⟨rfl,hb2⟩;have hbe2:=cM hbe hb2;clear kc hb2 hbe HRN;cases b
   ·have hne:y.1.id≠k:=fun e=>by have:=HB.out;rw[e,beq_self_eq_true] at this;cases this
    have TK:(ids.take (j+1)).contains k=false:=by
     rw[List.take_add_one,HKEY.out];cases hc:(ids.take j++(some y.1.id).toList).contains k with
     |false=>rfl
     |true=>
      rcases List.mem_append.1 (List.contains_iff_mem.1 hc) with q|q
      ·have:=HTK.out;rw[List.contains_iff_mem.2 q] at this;cases this
      ·simp at q;exact absurd q.symm hne
    have HTK2:=hid TK;clear TK hne
    go_wp2_with fail
    go_roundw
    case rel=>exact⟨j+1,by rw[HLN.out];omega,by go_num,HTK2.out,hbe2⟩
    case measure=>simp[RowKit.intOf];omega
   ·have e0:y.1.id=k:=by simpa using HB.out
    have FIN:ua ids k (j:Int):=.inr ⟨j,rfl,by rw[HKEY.out,e0]⟩;have HF:=hid FIN;clear FIN e0
    go_wp2_with fail
    go_ret
    exact⟨⟨_,rfl,HF.out⟩,hbe2⟩
  ·obtain rfl:j=n:=by omega
   have g1:decide ((j:Int)<(j:Int))=false:=an (by omega);have FIN:ua ids k (-1):=.inl ⟨rfl,by rw[←HLN.out,List.take_length] at htk;exact htk⟩;have HF:=hid FIN;clear FIN htk
   go_wp2_with fail
   go_ret
   exact⟨⟨_,rfl,HF.out⟩,hbe⟩
theorem CJ(P X:Nat→Prop)(C:Nat)(s:Cs)(k:Int)(w:World)(h:dc P X C s w)(hlen:s.ms.length≤1000):
  Calls Tryz.prog 84 #[.pointer (some ⟨C,0,none⟩),.int .i64 k] w fun e w'=>(∃r,e=.returned (.int .i64 r)∧ua s.ids k r)∧Below w.heap.size w w':=by
 obtain⟨wv,iv,cv,bp,bv,Ms,hr,hb⟩:=h;have b1:=alb w #[.int .i64 k] 3;have m1:=alz w #[.int .i64 k] 3;have h1:=hb.bel hr b1;have c1:=(b1.cell (bj (dM hr).2.1)).trans (dM hr).2.1;have kx:=s9 _ wv Ms s.ms k w.heap.size _ h1.own h1.msg hlen ((aq m1 0).trans rfl);have hmf:∀(fn:Fn) (first cap:Array Value) (w:World),(Instr.makeFunc fn first cap).run Tryz.prog w=.ok (.func fn first cap) w:=fun _ _ _ _=>rfl
 clear hr hb m1 h1 hlen
 go_enter Tryz.func84,Tryz.ntmps84
 go_upto_region 1 with fail
 generalize w.alloc (.cells #[.int .i64 k] 3)=w1 at b1 c1 kx⊢
 go_wp2_with fail
 refine ag kx ?_;rintro e w2 ⟨⟨r,rfl,hA⟩,hb2⟩;have HA:=hid hA;have b2:=cM b1 hb2;clear kx hA hb2 b1
 go_wp2_with fail
 go_ret
 exact⟨⟨_,rfl,HA.out⟩,b2⟩
def Cs.strike(s:Cs)(k:Int):Cs:={s with ms:=s.ms.filter fun y=>y.1.id !=k}
def Cs.comes(s:Cs)(y:Mg×Ls):Cs:=if y.1.op=2 then s.shut else if y.1.op=16 then s.strike y.1.target else{s with ms:=s.ms++[y]}
theorem lX{α:Type}(f:α→Int)(k:Int):∀(l:List α) (j:Nat),(l.map f).Nodup→(l.map f)[j]?=some k→l.eraseIdx j=l.filter fun y=>f y !=k
 |[],j,_,h=>by simp at h
 |a::l,0,hn,h=>by
  have e:f a=k:=by simpa using h
  have hn':=List.nodup_cons.1 hn;rw[List.filter_cons_of_neg (by simp[e])];show l=_
  symm
  rw[List.filter_eq_self];intro b hb;have:f b≠k:=fun q=>hn'.1 (by rw[e,←q];exact List.mem_map_of_mem hb)
  simpa using this
 |a::l,j+1,hn,h=>by
  have hn':=List.nodup_cons.1 hn;have hk:(l.map f)[j]?=some k:=by simpa using h
  have hne:f a≠k:=fun q=>hn'.1 (by rw[q];exact List.mem_of_getElem? hk)
  rw[List.filter_cons_of_pos (by simpa using hne),List.eraseIdx_cons_succ,lX f k l j hn'.2 hk]
theorem A1{α:Type}(f:α→Int)(k:Int)(l:List α)(h:(l.map f).contains k=false):(l.filter fun y=>f y !=k)=l:=by
 rw[List.filter_eq_self];intro b hb;have:f b≠k:=fun q=>by
  rw[List.contains_iff_mem.2 (by rw[←q];exact List.mem_map_of_mem hb)] at h;cases h
 simpa using this
theorem CK(P X:Nat→Prop)(C:Nat)(s:Cs)(m:Mg)(y:Mg×Ls)(w:World)(h:dc P X C s w)(hm:m.pl=y.1)(hl:LsP (fun g=>P g∧¬X g) w m y.2)(hn:y.1.op≠2→y.1.op≠16→s.ids.contains y.1.id=false)(hlen:s.ms.length≤1000):
  Calls Tryz.prog 81 #[.pointer (some ⟨C,0,none⟩),.agg m.row] w fun e w'=>e=.returned (.tuple #[])∧em P X C w (s.comes y) w':=by
 unfold Cs.comes
 by_cases h2:y.1.op=2
 ·rw[if_pos h2]
  have b1:=alb w m.row 33;have m1:=alz w m.row 33;have q1:(w.alloc (.cells m.row 33)).cell? ⟨w.heap.size,1,none⟩=some (.int .i64 2):=(aq m1 1).trans (by rw[←h2,←hm];rfl);have ks:=sa P X C s _ (h.bel b1);have hA:∃A,m.row=A:=⟨_,rfl⟩;obtain⟨A,hA⟩:=hA;rw[hA] at b1 q1 ks⊢;clear hA m1 h hm hl hn hlen h2
  go_enter Tryz.func81,Tryz.ntmps81
  go_upto_region 1 with fail
  generalize w.alloc (.cells A 33)=w1 at b1 q1 ks⊢
  go_wp2_with fail
  refine ag ks ?_;rintro e w2 ⟨rfl,hT⟩;have HT:=hid (em.trans (P:=P) (X:=X) ⟨Kb.of b1,fun _ _ q=>q,fun _ _ q=>q⟩ hT);clear ks hT b1 q1
  go_wp2_with fail
  first
   |refine bodyPost_end (results_none rfl _ _ _) rfl ?_
   |refine aH (results_none rfl _ _ _) rfl ?_
  exact⟨rfl,HT.out⟩
 ·rw[if_neg h2]
  by_cases h16:y.1.op=16
  ·rw[if_pos h16]
   have b1:=alb w m.row 33;have m1:=alz w m.row 33;have q1:(w.alloc (.cells m.row 33)).cell? ⟨w.heap.size,1,none⟩=some (.int .i64 16):=(aq m1 1).trans (by rw[←h16,←hm];rfl);have q23:(w.alloc (.cells m.row 33)).cell? ⟨w.heap.size,23,none⟩=some (.int .i64 y.1.target):=(aq m1 23).trans (by rw[←hm];rfl);have h1:=h.bel b1;have kp:=CJ P X C s y.1.target _ h1 hlen;obtain⟨A,hA⟩:=nmm m.row;rw[hA] at b1 q1 q23 kp h1⊢;have H1:=hid h1;obtain⟨S',hS'⟩:=nmm (s.strike y.1.target);rw[hS'];have HS:=hid hS';clear hA m1 h hm hl hn h2 h16 h1 hS'
   go_enter Tryz.func81,Tryz.ntmps81
   go_upto_region 1 with fail
   generalize w.alloc (.cells A 33)=w1 at b1 q1 q23 kp H1⊢
   go_wp2_with fail
   refine ag kp ?_;rintro e w2 ⟨⟨r,rfl,hA⟩,hb2⟩;have h2:=H1.out.bel hb2;have b2:=cM b1 hb2;clear kp hb2 b1 H1 q1 q23;rcases hA with⟨rfl,hc⟩|⟨j,rfl,hk⟩
   ·obtain rfl:S'=s:=by rw[←HS.out];unfold Cs.strike;rw[A1 _ _ _ hc]
    have HT:=hid (show em P X C w S' w2 from⟨P,X,h2,Kb.of b2,fun _ _ q=>q,fun _ _ q=>q⟩);clear hc HS h2 b2
    go_wp2_with fail
    first
     |refine bodyPost_end (results_none rfl _ _ _) rfl ?_
     |refine aH (results_none rfl _ _ _) rfl ?_
    exact⟨rfl,HT.out⟩
   ·have hnd:s.ids.Nodup:=by obtain⟨_,_,_,_,_,_,q⟩:=h2;exact q.b.nd
    obtain⟨z,hz⟩:∃z,s.ms[j]?=some z:=by
     have:=(List.getElem?_eq_some_iff.1 hk).1;exact⟨_,aM (by simpa[Cs.ids] using this)⟩
    have kd:=sA P X C s j z w2 h2 hz hlen;obtain rfl:S'={s with ms:=s.ms.eraseIdx j}:=by rw[←HS.out];unfold Cs.strike;rw[lX _ _ _ _ hnd hk]
    have g0:(0:Int)≤(j:Int):=by omega
    have HB:=hid b2;clear hk HS h2 hnd hz b2
    go_wp2_with fail
    refine ag kd ?_;rintro e w3 ⟨⟨m',rfl,_,_⟩,h3,k3⟩;have HT:=hid (show em P X C w {s with ms:=s.ms.eraseIdx j} w3 from⟨P,X,h3,(Kb.of HB.out).trans k3,fun _ _ q=>q,fun _ _ q=>q⟩);clear kd h3 k3 HB
    go_wp2_with fail
    first
     |refine bodyPost_end (results_none rfl _ _ _) rfl ?_
     |refine aH (results_none rfl _ _ _) rfl ?_
    exact⟨rfl,HT.out⟩
  ·rw[if_neg h16]
   exact CF P X C s m y w h hm hl (hn h2 h16) h2 h16 hlen
def gq(op:Int):Bool:=op==2||op==16
def Cs.badB(s:Cs)(y:Mg×Ls):Bool:=!fC.contains y.1.op||(!gq y.1.op&&(y.1.id==0||s.has y.1.id))
def Cs.cut:Nat→Cs→Cs
 |0,s=>s
 |n+1,s=>
  if s.cl=true∨16≤s.ms.length then s
  else if(eA s.inn).2=20∨((eA s.inn).2=0∧s.inn.length<(eA s.inn).1) then s
  else if(eA s.inn).2≠0 then s.gone
  else match dy (s.inn.take (eA s.inn).1) with
   | .error _=>s.gone
   | .ok y=>if s.badB y then s.gone else Cs.cut n ({s with inn:=s.inn.drop (eA s.inn).1}.comes y)
def MrQ(b:List UInt8)(w:World)(D:Array Value)(cd id op:Int)(w':World):Prop:=
 D[0]?=some (.int .i64 id)∧D[1]?=some (.int .i64 op)∧D.size=28∧D.all (·.oneCell')=true∧
  ((cd≠0∧op=0∧∃c,dy b=.error c)∨(cd=0∧∃(y:Mg×Ls) (m:Mg),dy b=.ok y∧D=m.row∧m.pl=y.1∧LsL w.heap.size w' m y.2∧id=y.1.id∧op=y.1.op))
theorem MrP.parts{b:List UInt8}{w w':World}{e:Ending}(h:MrP b w e w'):∃D cd id op,e=.returned (.tuple #[.agg D,.int .i64 cd])∧MrQ b w D cd id op w'∧Below w.heap.size w w':=by
 obtain⟨h,hb⟩:=h;cases hr:dy b with
 |error c=>
  rw[hr] at h;exact⟨_,c,0,0,h,⟨rfl,rfl,rfl,by simp[Mg.row,Value.oneCell'],.inl ⟨lI hr,rfl,c,hr⟩⟩,hb⟩
 |ok y=>
  rw[hr] at h;obtain⟨m,he,hm,hl⟩:=h;exact⟨_,0,y.1.id,y.1.op,he,⟨by rw[←hm];rfl,by rw[←hm];rfl,rfl,hl.lsp.one,.inr ⟨rfl,y,m,hr,rfl,hm,hl,rfl,rfl⟩⟩,hb⟩
def pm(C:Nat)(w:World):Nat:=match w.cell? ⟨C,0,none⟩ with|some (.string b)=>b.size|_=>0
theorem vS{P X:Nat→Prop}{C:Nat}{s:Cs}{w:World}(h:dc P X C s w):pm C w=s.inn.length:=by
 obtain⟨wv,iv,cv,bp,bv,Ms,h,_⟩:=h;unfold pm;rw[(dM h).1];exact Lib.size_mk _
theorem C3(s:Cs)(y:Mg×Ls):(s.comes y).inn.length≤s.inn.length∧(s.comes y).ms.length≤s.ms.length+1∧(s.comes y).out=s.out:=by
 unfold Cs.comes
 split
 ·exact⟨Nat.zero_le _,Nat.zero_le _,rfl⟩
 ·split
  ·exact⟨ah _,Nat.le_succ_of_le (List.length_filter_le _ _),rfl⟩
  ·exact⟨ah _,by simp,rfl⟩
def wa(P X:Nat→Prop)(C:Nat)(w:World)(ANS:Cs)(N:Nat)(wr:World):Prop:=
 ∃P' X' s n,dc P' X' C s wr∧Nx P X w P' X' wr∧s.inn.length<n∧s.inn.length≤N∧s.ms.length≤16∧s.out.length≤1099511627776∧Cs.cut n s=ANS
theorem wo(w0:World)(P X:Nat→Prop)(C:Nat)(s:Cs)(w:World)(h:dc P X C s w)(hH:Hm w0 X w)(hi:s.inn.length≤1000000000)(hm:s.ms.length≤16)(ho:s.out.length≤1099511627776):
  Calls Tryz.prog 40 #[.pointer (some ⟨C,0,none⟩)] w fun e w'=>e=.returned (.tuple #[])∧em P X C w (Cs.cut (s.inn.length+1) s) w':=by
 obtain⟨ANS,hA⟩:=nmm (Cs.cut (s.inn.length+1) s);rw[hA];generalize hPR:(em P X C w ANS:World→Prop)=PR;obtain⟨HPR,HH⟩:=Cg hPR hH;have REL:wa P X C w ANS 1000000000 w:=⟨P,X,s,s.inn.length+1,h,Nx.refl _ _ _,by omega,hi,hm,ho,hA⟩;have HREL:=Lib.hid REL;clear hPR hH REL h hi hm ho hA
 go_enter Tryz.func40,Tryz.ntmps40
 go_wp2_with fail
 go_loopw [] (fun wr=>wa P X C w ANS 1000000000 wr) (fun wr=>pm C wr)
 case atStart=>exact HREL.out
 case round=>
  obtain⟨P',X',⟨inn,ms,cur,out,cl⟩,n,hat,hnx,hn,hin,hms,hou,hcut⟩:=hrel;have hI:=vS hat;simp only at hn hin hms hou hI;have hHr:=HH.out.to hnx;obtain⟨wv,iv,cv,bp,bv,Ms,hrow,hb⟩:=hat;simp only at hrow hb;obtain⟨c0,c1,c2,c3,c8⟩:=dM hrow;obtain⟨nm,hnm⟩:=nmm ms.length;obtain⟨av,cap,rfl⟩:∃a cap,wv=.slice a nm cap:=by
   rcases hb.own.2 with⟨hv,h0⟩|⟨g,cap,x,hv,_⟩
   ·exact⟨none,0,by rw[hv,←hnm,h0]⟩
   ·exact⟨_,cap,by rw[hv,hnm]⟩
  obtain⟨n,rfl⟩:∃k,n=k+1:=⟨n -1,by omega⟩;unfold Cs.cut at hcut;simp only at hcut
  by_cases hst:cl=true∨16≤ms.length
  ·rw[if_pos hst] at hcut
   have FIN:PR wr:=by rw[←HPR.out,←hcut];exact⟨P',X',⟨_,_,_,_,_,_,hrow,hb⟩,hnx⟩
   have HF:=Lib.hid FIN;clear FIN hcut hnx hb hrow c2 c3 hI hHr;cases cl with
   |true=>
    go_wp2_with fail
    first
     |refine bodyPost_end (results_none rfl _ _ _) rfl ?_
     |refine aH (results_none rfl _ _ _) rfl ?_
    exact⟨rfl,HF.out⟩
   |false=>
    have hlt:decide ((nm:Int)<16)=false:=an (by
     rcases hst with q|q
     ·cases q
     ·omega)
    go_wp2_with fail
    first
     |refine bodyPost_end (results_none rfl _ _ _) rfl ?_
     |refine aH (results_none rfl _ _ _) rfl ?_
    exact⟨rfl,HF.out⟩
  ·rw[if_neg hst] at hcut
   obtain rfl:cl=false:=by cases cl with|false=>rfl|true=>exact absurd (.inl rfl) hst
   have hlt:decide ((nm:Int)<16)=true:=aC (by have:¬16≤ms.length:=fun q=>hst (.inr q);omega);have hns:nm<16:=by have:¬16≤ms.length:=fun q=>hst (.inr q);omega
   have kf:=CS inn hin wr;have hfge:(eA inn).2=0→2≤(eA inn).1:=fun q=>by have:=mh inn q;unfold eA;simp only;omega
   obtain⟨⟨k,c⟩,hF⟩:∃F,eA inn=F:=⟨_,rfl⟩;have HK6:Hid (k≤65536):=Lib.hid (by have:=jL inn;have e:=congrArg Prod.fst hF;unfold eA at e;simp only at e;omega);rw[hF] at hcut kf hfge;simp only at hcut kf hfge;have HO:Hid (CnO P' X' C ⟨inn,ms,cur,out,false⟩ (.slice av nm cap) iv cv bp bv Ms wr):=Lib.hid ⟨hrow,hb⟩;obtain⟨HCUT,HFG,HN,HIN,HI,HMS,HNX,HHR,HNM⟩:=CE hcut hfge hn hin hI hms hnx hHr hnm;clear hcut hfge hn hin hI hms hnx hHr hb hF hst hrow c2 c3
   go_wp2_with fail
   refine ag kf ?_;rintro e w2 ⟨rfl,hb2⟩;have h2:=HO.out.bel hb2;have n2:=HNX.out.bel hb2;have q2:=HHR.out.bels hb2;obtain⟨d0,d1,d2,d3,d8⟩:=dM h2.row;obtain⟨H2,N2,Q2⟩:=Ch h2 n2 q2;clear kf hb2 HO HNX HHR h2 n2 q2 c0 c1 c8 d2 d3 hns hnm
   by_cases hc20:c=20
   ·subst hc20
    have FIN:PR w2:=by rw[←HPR.out,←HCUT.out,if_pos (.inl rfl)];exact⟨P',X',H2.out.at,N2.out⟩
    have HF:=Lib.hid FIN;clear FIN HCUT
    go_wp2_with fail
    first
     |refine bodyPost_end (results_none rfl _ _ _) rfl ?_
     |refine aH (results_none rfl _ _ _) rfl ?_
    exact⟨rfl,HF.out⟩
   ·have e20:(c==20)=false:=aE hc20
    by_cases hc0:c=0
    ·subst hc0
     by_cases hk:inn.length<k
     ·have FIN:PR w2:=by rw[←HPR.out,←HCUT.out,if_pos (.inr ⟨rfl,hk⟩)];exact⟨P',X',H2.out.at,N2.out⟩
      have HF:=Lib.hid FIN;have hg:decide ((k:Int)>(inn.length:Int))=true:=aC (by omega);clear FIN HCUT
      go_wp2_with fail
      first
       |refine bodyPost_end (results_none rfl _ _ _) rfl ?_
       |refine aH (results_none rfl _ _ _) rfl ?_
      exact⟨rfl,HF.out⟩
     ·have hkl:k≤inn.length:=by omega
      have hg:decide ((k:Int)>(inn.length:Int))=false:=an (by omega);have hk1:(k:Int)≤(inn.length:Int):=by omega
      have hx:(⟨inn.toArray⟩:ByteArray).extract 0 k=⟨(inn.take k).toArray⟩:=by rw[Lib.extract_eq];simp
      have hy:(⟨inn.toArray⟩:ByteArray).extract k inn.length=⟨(inn.drop k).toArray⟩:=by rw[Lib.extract_eq];simp[List.take_of_length_le]
      have kr:=lG (inn.take k) (by rw[List.length_take];have:=HK6.out;omega) w2 Q2.out.now;have hk2:=HFG.out rfl;have HK:=Lib.hid hk;clear hk
      go_wp2_with fail
      refine ag kr ?_;rintro e w3 hP;obtain⟨D,cd,id,op,rfl,hQ,hb3⟩:=hP.parts;obtain⟨HQ,HD1,HD2⟩:=Ch hQ hQ.2.2.2.1 hQ.2.2.1;have h3:=H2.out.bel hb3;have n3:=N2.out.bel hb3;have q3:=Q2.out.bels hb3;have hXl:∀j,X' j→j<w2.heap.size:=H2.out.b.xl;have hs3:=hb3.size;have hCl:C<w2.heap.size:=(gl H2.out.row);have y3:=alz w3 Zm 33;have g3:Below w3.heap.size w3 ((w3.alloc (.cells Zm 33)).setRow w3.heap.size D):=bm ((aA _ _).alloc (ah _) _) (ah _) D;have e4:=setRow_heap (w3.alloc (.cells Zm 33)) w3.heap.size _ D _ _ y3;have h4:=h3.bel g3;have n4:=n3.bel g3;have q4:=q3.bels g3;obtain⟨Y3,E4,H4,N4,Q4,G3,HXL,HS3,HCL,HW2⟩:=Cz y3 e4 h4 n4 q4 g3 hXl hs3 hCl N2.out.kb.size;clear kr hP hQ hb3 h3 n3 q3 y3 g3 e4 h4 n4 q4 hXl hs3 hCl H2 N2 Q2 d0 d1 d8
      go_upto_region 8 with(refine bh rfl 33 (.tmp 4) (.tmp 54) rfl w3.heap.size 33 Zm D (by rfl) (by rfl) Y3.out (by rw[HD2.out];rfl) (by rw[HD2.out];rfl) HD1.out ?_;generalize(w3.alloc (.cells Zm 33)).setRow w3.heap.size D=w4 at E4 H4 N4 Q4 G3⊢;obtain⟨d0,d1,d2,d3,d8⟩:=dM H4.out.row;have z0:=aj H4.out.row 0;clear d1 d2 d3 d8 Y3)
      obtain⟨w5,hw5⟩:=nmm (w4.setCell ⟨C,0,none⟩ (.string ⟨(inn.drop k).toArray⟩));have hMC:w3.heap.size≠C:=by have h1:=HCL.out;have h2:=HS3.out;omega
      have h5:CnO P' X' C ⟨inn.drop k,ms,cur,out,false⟩ (.slice av nm cap) iv cv bp bv Ms w5:=by
       rw[←hw5];exact⟨cq (i:=0) (u:=.string ⟨(inn.drop k).toArray⟩) H4.out.row,H4.out.b.put H4.out.row 0 _⟩
      have e5:w5.heap[w3.heap.size]?=some (.cells D 33 (0,0)):=by rw[←hw5];exact(heap_setCell_other w4 ⟨C,0,none⟩ _ _ hMC).trans E4.out
      have hoth:∀j,j≠C→j<w3.heap.size→w5.heap[j]?=w3.heap[j]?:=fun j hj hl=>by rw[←hw5];exact(heap_setCell_other w4 ⟨C,0,none⟩ j _ hj).trans (G3.out.block j hl)
      have n5:Nx P X w (fun g=>P' g∨(w2.heap.size≤g∧g<w3.heap.size)) X' w5:=by
       have:=N4.out.trans (P2:=P') (X2:=X') (c:=w5) ⟨by rw[←hw5];exact(Kb.refl _ _).set (.inl H4.out.b.xC) _,fun _ _ q=>q,fun _ _ q=>q⟩;exact⟨this.kb,this.xs,fun j hj q=>q.elim (this.ps j hj) (fun e=>by have:=HW2.out;omega)⟩
      have q5:=HH.out.to n5;have q0:w5.cell? ⟨w3.heap.size,0,none⟩=some (.int .i64 id):=(aq e5 0).trans HQ.out.1;have q1:w5.cell? ⟨w3.heap.size,1,none⟩=some (.int .i64 op):=(aq e5 1).trans HQ.out.2.1;obtain⟨H5,E5,N5,Q5,HO⟩:=Cj (h5.more (P':=fun g=>P' g∨(w2.heap.size≤g∧g<w3.heap.size)) fun g=>.inl) e5 n5 q5 hoth;clear h5 e5 n5 q5 hoth E4 H4 N4 Q4 G3 d0 z0 hx hy hMC
      try rw[hw5]
      clear hw5;obtain⟨bb,hbb⟩:=nmm (!fC.contains op||(!gq op&&(id==0||Cs.has ⟨inn.drop k,ms,cur,out,false⟩ id)));obtain⟨BAD,hBAD⟩:=nmm (cd !=0||bb);obtain⟨HBB,HBD⟩:=Cg hbb hBAD;clear hbb hBAD;obtain⟨sl,hsl⟩:=nmm (gq op);have HSL:=Lib.hid hsl;clear hsl
      go_cut [5] from 65 to 72 (fun v wx=>v=.bool sl∧wx=w5)
      case first=>
       by_cases h2:op=2
       ·subst h2
        obtain rfl:sl=true:=HSL.out.symm
        go_wp2_with fail
        go_meet
        exact⟨rfl,rfl⟩
       ·have e2:(op==2)=false:=aE h2
        obtain⟨b16,e16⟩:=nmm (op==16);obtain rfl:sl=b16:=by have:=HSL.out;unfold gq at this;rw[e2,e16,Bool.false_or] at this;exact this.symm
        go_wp2_with fail
        go_meet
        exact⟨rfl,rfl⟩
      case rest=>
       obtain⟨rfl,hwc⟩:=hcut;rw[hwc];clear hwc
       go_upto_region 9 with fail
       go_cut [95] from 73 to 95 (fun v wx=>v=.bool BAD∧Below w5.heap.size w5 wx)
       case first=>
        by_cases hcd:cd=0
        ·have ecd:(cd==0)=true:=by rw[hcd];rfl
         have ncd:(cd !=0)=false:=by rw[bne,ecd];rfl
         obtain rfl:bb=BAD:=by have:=HBD.out;rw[ncd,Bool.false_or] at this;exact this
         have kq:=s5 op w5;have ht:=fun w' hb=>BW (fun g=>P' g∨(w2.heap.size≤g∧g<w3.heap.size)) X' C ⟨inn.drop k,ms,cur,out,false⟩ id w' (H5.out.bel hb).at
         obtain⟨rq,hrq⟩:=nmm (fC.contains op);obtain⟨hs,hhs⟩:=nmm (Cs.has ⟨inn.drop k,ms,cur,out,false⟩ id);rw[hrq] at kq;rw[hhs] at ht;obtain⟨HT,HRQ,HHS⟩:=Ch ht hrq hhs;clear ht hrq hhs hcd
         go_wp2_with fail
         refine ag kq ?_;rintro e w6 ⟨rfl,hb6⟩;have q0':=(hb6.cell (bj q0)).trans q0;cases rq with
         |false=>
          obtain rfl:bb=true:=by rw[←HBB.out,HRQ.out];rfl
          go_wp2_with fail
          go_meet
          exact⟨rfl,hb6⟩
         |true=>
          cases sl with
          |true=>
           obtain rfl:bb=false:=by rw[←HBB.out,HRQ.out,HSL.out];rfl
           go_wp2_with fail
           go_meet
           exact⟨rfl,hb6⟩
          |false=>
           cases hz:(id==0) with
           |true=>
            obtain rfl:bb=true:=by rw[←HBB.out,HRQ.out,HSL.out,hz];rfl
            go_wp2_with fail
            go_meet
            exact⟨rfl,hb6⟩
           |false=>
            obtain rfl:bb=hs:=by rw[←HBB.out,HRQ.out,HSL.out,hz,HHS.out];rfl
            have kt:=HT.out w6 hb6
            go_wp2_with fail
            refine ag kt ?_;rintro e w7 ⟨rfl,hb7⟩
            go_wp2_with fail
            go_meet
            exact⟨rfl,cM hb6 hb7⟩
        ·have ecd:(cd==0)=false:=aE hcd
         have ncd:(cd !=0)=true:=by rw[bne,ecd];rfl
         obtain rfl:BAD=true:=by have:=HBD.out;rw[ncd,Bool.true_or] at this;exact this.symm
         go_wp2_with fail
         go_meet
         exact⟨rfl,aA _ _⟩
       case rest=>
        obtain⟨rfl,hb7⟩:=hcut;have h7:=H5.out.bel hb7;have n7:=N5.out.bel hb7;have q7:=Q5.out.bels hb7;have e7:=bk hb7 E5.out;cases BAD with
        |true=>
         have kg:=mC w0 _ X' C ⟨inn.drop k,ms,cur,out,false⟩ wc h7.at q7 hou;have HN7:=Lib.hid n7;clear h7 n7 q7 e7
         go_wp2_with fail
         refine ag kg ?_;rintro e w8 ⟨rfl,hT⟩;have FIN:PR w8:=by
          have hc:Cs.gone ⟨inn,ms,cur,out,false⟩=ANS:=by
           rw[←HCUT.out,if_neg (by rintro(q|q);exact absurd q (by decide);exact HK.out q.2),if_neg (by decide)];rcases HQ.out.2.2.2.2 with q|⟨hcd,y,m,hy,hD,hm,hl,hid,hop⟩
           ·obtain⟨c,hc⟩:=q.2.2
            rw[hc]
           ·rw[hy]
            have hbb:Cs.badB ⟨inn,ms,cur,out,false⟩ y=true:=by
             have h1:=HBD.out;rw[hcd,show((0:Int) !=0)=false from rfl,Bool.false_or] at h1;rw[←h1,←HBB.out,hid,hop]
             rfl
            simp only[hbb,if_true]
          rw[←HPR.out,←hc];exact hT.trans HN7.out
         have HF:=Lib.hid FIN;clear FIN HCUT hT kg HN7
         go_wp2_with fail
         first
          |refine bodyPost_end (results_none rfl _ _ _) rfl ?_
          |refine aH (results_none rfl _ _ _) rfl ?_
         exact⟨rfl,HF.out⟩
        |false=>
         have hcd:cd=0:=by
          have h1:=HBD.out;cases hc:(cd !=0) with
          |true=>rw[hc,Bool.true_or] at h1;cases h1
          |false=>simpa using hc
         obtain⟨y,m,hy,hD,hm,hl,hid,hop⟩:∃(y:Mg×Ls) (m:Mg),dy (inn.take k)=.ok y∧D=m.row∧m.pl=y.1∧LsL w2.heap.size w3 m y.2∧id=y.1.id∧op=y.1.op:=by
          rcases HQ.out.2.2.2.2 with q|q
          ·exact absurd hcd q.1
          ·exact q.2
         have hbb:(!fC.contains y.1.op||(!gq y.1.op&&(y.1.id==0||Cs.has ⟨inn.drop k,ms,cur,out,false⟩ y.1.id)))=false:=by
          have h1:=HBD.out;rw[hcd,show((0:Int) !=0)=false from rfl,Bool.false_or] at h1;rw[←hid,←hop,HBB.out,h1]
         have hl7:LsP (fun g=>(P' g∨(w2.heap.size≤g∧g<w3.heap.size))∧¬X' g) wc m y.2:=hl.lsp.kept fun g hg hgl=>
          ⟨(hb7.block g (by have:=HO.out;have q:=(gl E5.out);omega)).trans (HO.out g (by have:=HCL.out;omega) hgl),.inr ⟨hg,hgl⟩,fun q=>by have:=HXL.out g q;omega⟩
         have kc:=CK _ X' C ⟨inn.drop k,ms,cur,out,false⟩ m y wc h7.at hm hl7 (fun h2 h16=>by
          have hs:gq y.1.op=false:=by unfold gq;rw[aE h2,aE h16];rfl
          rw[hs] at hbb;cases hc:Cs.ids ⟨inn.drop k,ms,cur,out,false⟩|>.contains y.1.id with
          |false=>rfl
          |true=>
           have:Cs.has ⟨inn.drop k,ms,cur,out,false⟩ y.1.id=true:=by unfold Cs.has;rw[hc];rfl
           rw[this] at hbb
           simp at hbb) (by have:=HMS.out;show ms.length≤1000;omega)
         rw[←hD] at kc;have hc:Cs.cut n (Cs.comes ⟨inn.drop k,ms,cur,out,false⟩ y)=ANS:=by
          rw[←HCUT.out,if_neg (by rintro(q|q);exact absurd q (by decide);exact HK.out q.2),if_neg (by decide),hy];have hb':Cs.badB ⟨inn,ms,cur,out,false⟩ y=false:=hbb;simp only[hb',aW,if_false]
         obtain⟨HC,HN7⟩:=Cg hc n7;clear h7 n7 q7 hy hD hm hl hl7 hbb hc HCUT hid hop
         go_wp2_with (refine bg rfl 33 (.tmp 4) rfl w3.heap.size 33 D (0,0) (by rfl) e7 _ Tryz.underlying33 rfl (by rw[HD2.out];rfl) ?_)
         refine ag kc ?_;rintro e w8 ⟨rfl,hT⟩;obtain⟨P8,X8,h8,n8⟩:=hT;have hle:=C3 ⟨inn.drop k,ms,cur,out,false⟩ y;have hin2:(Cs.comes ⟨inn.drop k,ms,cur,out,false⟩ y).inn.length+k≤inn.length:=by have:=hle.1;simp only[List.length_drop] at this;omega
         have REL:wa P X C w ANS 1000000000 w8:=⟨P8,X8,_,n,h8,HN7.out.trans n8,by have:=HN.out;omega,by have:=HIN.out;omega,by
          have h1:=hle.2.1;have h2:=HNM.out;have h3:=of_decide_eq_true hlt;simp only at h1
          omega,by rw[hle.2.2];exact hou,HC.out⟩
         have MEA:pm C w8<pm C wr:=by rw[vS h8,HI.out];omega
         obtain⟨HREL2,HMEA⟩:=Cg REL MEA;clear REL MEA hin2 hle h8 n8 kc HC HN7
         go_wp2_with fail
         go_roundw
         case rel=>exact HREL2.out
         case measure=>exact HMEA.out
    ·have ec0:(c==0)=false:=aE hc0
     have en0:(c !=0)=true:=by rw[bne,ec0];rfl
     have kg:=mC w0 P' X' C ⟨inn,ms,cur,out,false⟩ w2 H2.out.at Q2.out hou;clear hc20 hc0 H2
     go_wp2_with fail
     refine ag kg ?_;rintro e w3 ⟨rfl,hT⟩;have FIN:PR w3:=by
      rw[←HPR.out,←HCUT.out,if_neg (by rintro(q|q);exact absurd q (by simpa using e20);exact absurd q.1 (by simpa using ec0)),if_pos (by simpa using ec0)];exact hT.trans N2.out
     have HF:=Lib.hid FIN;clear FIN HCUT hT kg
     go_wp2_with fail
     first
      |refine bodyPost_end (results_none rfl _ _ _) rfl ?_
      |refine aH (results_none rfl _ _ _) rfl ?_
     exact⟨rfl,HF.out⟩
abbrev Xc(C:Nat):Nat→Prop:=fun g=>g=C
theorem nM(w:World):Calls Tryz.prog 13 #[] w fun e w'=>e=.returned (.pointer (some ⟨w.heap.size,0,none⟩))∧dc (Xc w.heap.size) (Xc w.heap.size) w.heap.size {} w'∧Below w.heap.size w w':=by
 have b1:=alb w #[Es,Sn,.map none,.pointer none,.pointer none,Sn,Es,I0,Bf] 81;have t1:(w.alloc (.cells #[Es,Sn,.map none,.pointer none,.pointer none,Sn,Es,I0,Bf] 81)).heap[w.heap.size]?=some (.cells (lC [] (Sn) (.map none) (.pointer none) (.pointer none) (Sn) false) 81 (0,0)):=bC _ _ _ rfl;have hat:dc (Xc w.heap.size) (Xc w.heap.size) w.heap.size {} (w.alloc (.cells #[Es,Sn,.map none,.pointer none,.pointer none,Sn,Es,I0,Bf] 81)):=
  ⟨_,_,_,_,_,[],t1,World.ownsRow_nil _ _ _ _,trivial,.inl ⟨rfl,rfl⟩,List.nodup_nil,rfl,.inl rfl,World.ownsRow_nil _ _ _ _,(fun g hg=>by cases hg),(fun g hg=>by cases hg),(fun g hg=>by cases hg),rfl,(fun g hg=>hg),fun g hg=>by rw[hg];simp⟩
 have T1:=hid hat;clear t1 hat
 go_enter Tryz.func13,Tryz.ntmps13
 go_wp2_with fail
 go_ret
 exact⟨rfl,T1.out,b1⟩
def Cs.feed(s:Cs)(b:List UInt8):Cs:=if s.cl then s else Cs.cut (s.inn.length+b.length+1) {s with inn:=s.inn++b}
theorem gF(w0:World)(P X:Nat→Prop)(C:Nat)(s:Cs)(b:List UInt8)(w:World)(h:dc P X C s w)(hH:Hm w0 X w)(hi:s.inn.length+b.length≤1000000000)(hm:s.ms.length≤16)(ho:s.out.length≤1099511627776):
  Calls Tryz.prog 15 #[.pointer (some ⟨C,0,none⟩),.string ⟨b.toArray⟩] w fun e w'=>e=.returned (.tuple #[])∧em P X C w (s.feed b) w':=by
 obtain⟨inn,ms,cur,out,cl⟩:=s;unfold Cs.feed;simp only at hi hm ho⊢;obtain⟨wv,iv,cv,bp,bv,Ms,hr,hb⟩:=h;simp only at hr hb;obtain⟨c0,c1,c2,c3,c8⟩:=dM hr;cases cl with
 |true=>
  have FIN:em P X C w ⟨inn,ms,cur,out,true⟩ w:=⟨P,X,⟨_,_,_,_,_,_,hr,hb⟩,Nx.refl _ _ _⟩;have HF:=hid FIN;rw[if_pos rfl];clear FIN hr hb c1 c2 c3
  go_enter Tryz.func15,Tryz.ntmps15
  go_wp2_with fail
  first
   |refine bodyPost_end (results_none rfl _ _ _) rfl ?_
   |refine aH (results_none rfl _ _ _) rfl ?_
  exact⟨rfl,HF.out⟩
 |false=>
  rw[if_neg (by decide)];have z0:=aj hr 0;have z7:=aj hr 7;have c7:=cval hr 7 I0;have hadd:(⟨inn.toArray⟩:ByteArray)++⟨b.toArray⟩=⟨(inn++b).toArray⟩:=by simp[ByteArray.mk_append_mk]
  have kc:∀W,W.heap[C]?=some (.cells (lC (inn++b) wv iv cv bp bv false) 81 (0,0))→CnB P X C ms (Cs.ids ⟨inn,ms,cur,out,false⟩) cur out wv iv cv bp bv Ms W→Kb X w W→
    Calls Tryz.prog 40 #[.pointer (some ⟨C,0,none⟩)] W fun e w'=>e=.returned (.tuple #[])∧em P X C w (Cs.cut (inn.length+b.length+1) ⟨inn++b,ms,cur,out,false⟩) w':=fun W h1 h2 h3=>by
   have:=wo w0 P X C ⟨inn++b,ms,cur,out,false⟩ W ⟨_,_,_,_,_,_,h1,h2⟩ (hH.to (P:=P) (P':=P) ⟨h3,fun _ _ q=>q,fun _ _ q=>q⟩) (by simpa using hi) hm ho;simp only[bd] at this;exact this.mono fun e w' q=>⟨q.1,em.trans ⟨h3,fun _ _ q=>q,fun _ _ q=>q⟩ q.2⟩
  obtain⟨S',hS'⟩:=nmm (Cs.cut (inn.length+b.length+1) ⟨inn++b,ms,cur,out,false⟩);rw[hS'] at kc⊢;obtain⟨KC,HR,HB⟩:=Ch kc hr hb;clear kc hr hb hS' hH c1 c2 c3
  by_cases hb0:b=[]
  ·subst hb0
   have R1:=cq (i:=0) (u:=.string ⟨(inn++[]).toArray⟩) HR.out;have k1:=KC.out _ R1 (HB.out.put HR.out 0 _) ((Kb.refl X w).set (.inl HB.out.xC) _);rw[List.append_nil] at k1;clear R1
   go_enter Tryz.func15,Tryz.ntmps15
   go_upto_region 4 with fail
   go_wp2_with fail
   refine ag k1 ?_;rintro e w3 ⟨rfl,hT⟩;have HF:=hid hT;clear hT k1 KC HR HB
   go_wp2_with fail
   first
    |refine bodyPost_end (results_none rfl _ _ _) rfl ?_
    |refine aH (results_none rfl _ _ _) rfl ?_
   exact⟨rfl,HF.out⟩
  ·have hbn:(b==[])=false:=aE hb0
   have R1:=cq (i:=0) (u:=.string ⟨(inn++b).toArray⟩) (cq (i:=7) (u:=I0) HR.out);have k1:=KC.out _ R1 ((HB.out.put HR.out 7 _).put (cq (i:=7) (u:=I0) HR.out) 0 _) (((Kb.refl X w).set (.inl HB.out.xC) _).set (.inl HB.out.xC) _);clear R1
   go_enter Tryz.func15,Tryz.ntmps15
   go_upto_region 4 with fail
   go_wp2_with fail
   refine ag k1 ?_;rintro e w3 ⟨rfl,hT⟩;have HF:=hid hT;clear hT k1 KC HR HB
   go_wp2_with fail
   first
    |refine bodyPost_end (results_none rfl _ _ _) rfl ?_
    |refine aH (results_none rfl _ _ _) rfl ?_
   exact⟨rfl,HF.out⟩
def Dc:List UInt8:=[49,46,51,46,54,46,49,46,49,46,56]
def gS(y:Mg):Bool:=y.op==23&&y.oid==Dc
theorem ws(m:Mg)(w:World):Cr 44 #[.agg m.row] w (.bool (gS m)):=by
 have b1:=alb w m.row 33;have t1:=alz w m.row 33;have q1:(w.alloc (.cells m.row 33)).cell? ⟨w.heap.size,1,none⟩=some (.int .i64 m.op):=(aq t1 1).trans rfl;have q21:(w.alloc (.cells m.row 33)).cell? ⟨w.heap.size,21,none⟩=some (.string ⟨m.oid.toArray⟩):=(aq t1 21).trans rfl;obtain⟨D,hD⟩:=nmm m.row;obtain⟨B,hB⟩:=nmm (gS m);rw[hB];have HB:=hid hB;unfold gS at hB;rw[hD] at b1 q1 q21⊢;clear t1 hD hB;obtain⟨eo,heo⟩:=nmm (m.oid==Dc);have he:(m.oid==[49,46,51,46,54,46,49,46,49,46,56])=eo:=heo;have HEO:=hid heo;clear heo
 go_enter Tryz.func44,Tryz.ntmps44
 go_upto_region 1 with fail
 generalize w.alloc (.cells D 33)=w1 at b1 q1 q21⊢
 by_cases h23:m.op=23
 ·have i1:(m.op==23)=true:=by rw[h23];rfl
  obtain rfl:B=eo:=by rw[←HB.out,←HEO.out];unfold gS;rw[i1,Bool.true_and]
  go_wp2_with fail
  go_ret
  exact⟨rfl,b1⟩
 ·have i1:(m.op==23)=false:=aE h23
  obtain rfl:B=false:=by rw[←HB.out];unfold gS;rw[i1,Bool.false_and]
  clear he
  go_wp2_with fail
  go_ret
  exact⟨rfl,b1⟩
def Cs.idle(s:Cs):Prop:=s.cl=true∨s.cur≠none∨s.ms=[]
theorem CL(P X:Nat→Prop)(C:Nat)(s:Cs)(w:World)(h:dc P X C s w)(hidle:s.idle):
  Cr 19 #[.pointer (some ⟨C,0,none⟩)] w (.tuple #[.agg (Mg.row {}),Bf]):=by
 obtain⟨D,hD⟩:=nmm (Zm:Array Value);have hDm:Mg.row {}=D:=hD;have hD1:D.all (·.oneCell')=true:=by rw[←hD];simp[Value.oneCell']
 have hD2:D.size=28:=by rw[←hD];rfl
 rw[hDm];have b1:=alb w Zm 33;have x3:=alz w Zm 33;obtain⟨wv,iv,cv,bp,bv,Ms,hr,hb⟩:=h;obtain⟨inn,ms,cur,out,cl⟩:=s;simp only[Cs.idle] at hidle hr hb;obtain⟨c0,c1,c2,c3,c8⟩:=dM (bk b1 hr);have hcur:=hb.cu;obtain⟨av,cap,rfl⟩:∃a cap,wv=.slice a ms.length cap:=by
  rcases hb.own.2 with⟨hv,h0⟩|⟨g,cap,x,hv,_⟩
  ·exact⟨none,0,by rw[hv,h0]⟩
  ·exact⟨_,cap,hv⟩
 have b3:Below w.heap.size w ((w.alloc (.cells Zm 33)).setRow w.heap.size D):=bm b1 (ah _) D;have e3:=setRow_heap (w.alloc (.cells Zm 33)) w.heap.size _ D _ _ x3;obtain⟨X3,E3,B3,HD,HD1,HD2⟩:=Cy x3 e3 b3 hD hD1 hD2;have HX:Hid (cl=true∨(∃F,cv=.pointer (some ⟨F,0,none⟩))∨(cv=.pointer none∧ms.length=0)):=hid (by
  rcases hidle with q|q|q
  ·exact .inl q
  ·right;left
   cases cur with
   |none=>exact absurd rfl q
   |some c=>obtain⟨F,D,h1,_⟩:=hcur;exact⟨F,h1⟩
  ·cases cur with
   |none=>exact .inr (.inr ⟨hcur,by rw[q];rfl⟩)
   |some c=>obtain⟨F,D,h1,_⟩:=hcur;exact .inr (.inl ⟨F,h1⟩))
 generalize ms.length=nm at c1 HX;clear x3 e3 b3 hD hD1 hD2 hDm b1 hr hb hcur hidle c0 c2
 go_enter Tryz.func19,Tryz.ntmps19
 go_wp2_with fail
 refine wp_loop_rounds 1 ?_;rw[rounds_succ];have FIN:∀w4:World,w4.heap[w.heap.size]?=some (.cells D 33 (0,0))→(Sem.run Tryz.prog (loadVar 33 ⟨w.heap.size,0,none⟩) w4)=.ok (.agg D) w4:=fun w4 e4=>
  aJ (P:=Tryz.prog) w4 w.heap.size 33 33 D (0,0) _ e4 (show Tryz.prog.underlying 33=_ from Tryz.underlying33) (by rfl) (by rw[HD2.out];rfl)
 have HF:=hid FIN;clear FIN;rcases HX.out with rfl|⟨F,rfl⟩|⟨rfl,hn0⟩
 case' inr.inr=>subst hn0;cases cl
 case' inr.inl=>cases cl
 all_goals
  clear HX
  go_wp2_with (refine bh rfl 33 (.tmp 2) (.tmp 44) rfl w.heap.size 33 Zm D (by rfl) (by show Act.eval _ (.tmp 44)=.agg D;rw[←HD.out];rfl) X3.out (by rw[HD2.out];rfl) (by rw[HD2.out];rfl) HD1.out ?_;clear c1 c3 c8;generalize((w.alloc (.cells Zm 33)).setRow w.heap.size D)=w4 at E3 B3⊢;clear X3)
  refine aH (v:=.tuple #[.agg D,Bf]) ?_ rfl ⟨rfl,B3.out⟩
  simp[results,Tryz.f19]
  show((Sem.run Tryz.prog (loadVar 33 ⟨w.heap.size,0,none⟩) w4).andThen fun a w'=>Result.ok (Value.tuple #[a,Bf]) w')=_;rw[HF.out w4 E3.out]
  simp
theorem dc.small{P X:Nat→Prop}{C:Nat}{s:Cs}{w:World}(h:dc P X C s w):dc (fun g=>P g∧g<w.heap.size) X C s w:=by
 obtain⟨wv,iv,cv,bp,bv,Ms,h⟩:=h;exact(h.kept (P':=fun g=>P g∧g<w.heap.size) (X':=X) (fun g hp hl=>⟨rfl,⟨hp,hl⟩,Iff.rfl⟩) (fun g hg=>⟨h.b.xP g hg,h.b.xl g hg⟩) h.b.xl).at
theorem dc.xl{P X:Nat→Prop}{C:Nat}{s:Cs}{w:World}(h:dc P X C s w):∀g,X g→g<w.heap.size:=by
 obtain⟨wv,iv,cv,bp,bv,Ms,h⟩:=h;exact h.b.xl
theorem dc.xC{P X:Nat→Prop}{C:Nat}{s:Cs}{w:World}(h:dc P X C s w):X C:=by
 obtain⟨wv,iv,cv,bp,bv,Ms,h⟩:=h;exact h.b.xC
theorem dc.cells{P X:Nat→Prop}{C:Nat}{s:Cs}{w:World}(h:dc P X C s w):w.cell? ⟨C,8,none⟩=some (.bool s.cl)∧(s.cur=none→w.cell? ⟨C,3,none⟩=some (.pointer none))∧(∃a cap,w.cell? ⟨C,1,none⟩=some (.slice a s.ms.length cap))∧w.frozen? ⟨C,3,none⟩=false:=by
 obtain⟨wv,iv,cv,bp,bv,Ms,h⟩:=h;obtain⟨c0,c1,c2,c3,c8⟩:=dM h.row;refine⟨c8,fun hc=>?_,?_,aj h.row 3⟩
 ·have:=h.b.cu
  rw[hc] at this;rw[c3,show cv=.pointer none from this]
 ·rcases h.b.own.2 with⟨hv,h0⟩|⟨g,cap,x,hv,_⟩
  ·exact⟨none,0,by rw[c1,hv,h0]⟩
  ·exact⟨_,cap,by rw[c1,hv]⟩
theorem dc.setCur{P X:Nat→Prop}{C F:Nat}{s:Cs}{w:World}{D:Array Value}{c:Int×Int}(h:dc P X C s w)(hF:w.heap[F]?=some (.cells D 33 (0,0)))(h0:D[0]?=some (.int .i64 c.1))(h1:D[1]?=some (.int .i64 c.2))(hX:¬X F):
  dc (fun g=>P g∨g=F) X C {s with cur:=some c} (w.setCell ⟨C,3,none⟩ (.pointer (some ⟨F,0,none⟩))):=by
 obtain⟨wv,iv,cv,bp,bv,Ms,h⟩:=h;have k:=(h.more (P':=fun g=>P g∨g=F) fun g=>.inl).b.put h.row 3 (.pointer (some ⟨F,0,none⟩));have hFC:F≠C:=fun e=>hX (e▸h.b.xC)
 exact⟨_,_,_,_,_,_,cq (i:=3) (u:=.pointer (some ⟨F,0,none⟩)) h.row,k.own,k.msg,k.im,k.nd,⟨F,D,rfl,⟨.inr rfl,hX⟩,(heap_setCell_other w ⟨C,3,none⟩ F _ hFC).trans hF,h0,h1⟩,k.bq,k.bw,k.xw,k.xi,k.xb,k.xC,k.xP,k.xl⟩
theorem dc.row{P X:Nat→Prop}{C E:Nat}{s:Cs}{w:World}(h:dc P X C s w)(hE:¬P E)(D:Array Value):dc P X C s (w.setRow E D):=by
 obtain⟨wv,iv,cv,bp,bv,Ms,h⟩:=h;exact(h.kept (P':=P) (X':=X) (fun g hp _=>⟨setRow_other w E g D (fun e=>hE (e▸hp)),hp,Iff.rfl⟩) h.b.xP (fun g hg=>by simpa[World.setRow] using h.b.xl g hg)).at
def Cs.took(s:Cs)(y:Mg×Ls)(r:List (Mg×Ls)):Cs:=Cs.cut (s.inn.length+1) {s with ms:=r,cur:=some (y.1.id,y.1.op)}
def Dd(P X:Nat→Prop)(C:Nat)(w:World)(y:Mg×Ls)(s':Cs)(e:Ending)(w':World):Prop:=
 ∃(m:Mg) (P' X':Nat→Prop),e=.returned (.tuple #[.agg m.row,.bool true])∧m.pl=y.1∧dc P' X' C s' w'∧Nx P X w P' X' w'∧LsP (fun g=>(g<w.heap.size→P g)∧g<w'.heap.size∧¬X' g) w' m y.2
theorem ko(w0:World)(P X:Nat→Prop)(C:Nat)(s:Cs)(y:Mg×Ls)(r:List (Mg×Ls))(w:World)(h:dc P X C s w)(hH:Hm w0 X w)(hcl:s.cl=false)(hcu:s.cur=none)(hms:s.ms=y::r)(hc:gS y.1=false)
  (hi:s.inn.length≤1000000000) (hm:s.ms.length≤16) (ho:s.out.length≤1099511627776):
  Calls Tryz.prog 19 #[.pointer (some ⟨C,0,none⟩)] w (Dd P X C w y (s.took y r)):=by
 have b1:=alb w Zm 33;have x1:=alz w Zm 33;have h1:=h.small.bel b1;have hX:=h.xl;have hxC:=h.xC;obtain⟨c8,c3,⟨av,cap,c1⟩,_⟩:=h1.cells;have c3:=c3 hcu;obtain⟨nm,hnm⟩:∃k,s.ms.length=k+1:=⟨r.length,by rw[hms];rfl⟩;rw[hnm] at c1;rw[hcl] at c8;have hg0:decide (((nm+1:Nat):Int)>0)=true:=aC (by omega);have kd:=sA _ X C s 0 y _ h1 (by rw[hms];rfl) (by omega);rw[show({s with ms:=s.ms.eraseIdx 0}:Cs)={s with ms:=r} by rw[hms];rfl] at kd;obtain⟨HX,HXC,HH,HC,HI,HMS,HO,HCL,HCU⟩:=CE hX hxC hH hc hi (show r.length≤16 by rw[hms] at hm;simp at hm;omega) ho hcl hcu;clear h h1 hX hxC hH hcl hcu hms hc hi hm ho hnm
 go_enter Tryz.func19,Tryz.ntmps19
 go_wp2_with fail
 refine wp_loop_rounds 1 ?_;rw[rounds_succ];generalize w.alloc (.cells Zm 33)=w1 at b1 x1 c1 c3 c8 kd⊢
 go_wp2_with fail
 refine ag kd ?_;rintro e w2 ⟨⟨m,rfl,hpl,hls⟩,h2,k2⟩;have hXE:¬X w.heap.size:=fun q=>by have:=HX.out _ q;omega
 have x2:=k2.at x1 hXE;have b2:Kb X w w2:=(Kb.of b1).trans k2;have hE2:=(gl x2);have hCl:C<w.heap.size:=HX.out C HXC.out;obtain⟨D,hD⟩:=nmm m.row;have hD1:D.all (·.oneCell')=true:=by rw[←hD];exact hls.one
 have hD2:D.size=28:=by rw[←hD];rfl
 have hD0:D[0]?=some (.int .i64 y.1.id):=by rw[←hD,←hpl];rfl
 have hDo:D[1]?=some (.int .i64 y.1.op):=by rw[←hD,←hpl];rfl
 rw[hD];have ki:=fun W=>ws m W
 rw[hD,show gS m=false by rw[←HC.out,←hpl];rfl] at ki;have y3:=alz w2 Zm 33;have g3:Below w2.heap.size w2 ((w2.alloc (.cells Zm 33)).setRow w2.heap.size D):=bm ((aA _ _).alloc (ah _) _) (ah _) D;have e3:=setRow_heap (w2.alloc (.cells Zm 33)) w2.heap.size _ D _ _ y3;have h3:=h2.bel g3;have x3:=bk g3 x2;have k3:Kb X w ((w2.alloc (.cells Zm 33)).setRow w2.heap.size D):=b2.bel g3;obtain⟨Y3,E3,H3,X3,K3,HD,HD0,HDO,HD1,HD2,HPL,HLS,G3,HE2,HCl,B2⟩:=Ds y3 e3 h3 x3 k3 hD hD0 hDo hD1 hD2 hpl hls g3 hE2 hCl b2;clear y3 e3 h3 x3 k3 g3 hD hD0 hDo hD1 hD2 hpl hls h2 k2 kd c1 c3 c8 x1 x2 b1 b2 hg0 hE2 hCl
 go_wp2_with (first
  |(refine bh rfl 33 (.tmp 4) (.tmp 30) rfl w2.heap.size 33 Zm D (by rfl) (by rfl) Y3.out (by rw[HD2.out];rfl) (by rw[HD2.out];rfl) HD1.out ?_;generalize((w2.alloc (.cells Zm 33)).setRow w2.heap.size D)=w3 at E3 H3 X3 K3 G3⊢;clear Y3)
  |(refine bg rfl 33 (.tmp 4) rfl w2.heap.size 33 D (0,0) (by rfl) E3.out _ Tryz.underlying33 rfl (by rw[HD2.out];rfl) ?_))
 refine ag (show Calls _ _ _ _ _ from ki w3) ?_;rintro e w4 ⟨rfl,hb4⟩;have h4:=H3.out.bel hb4;have e4:=bk hb4 E3.out;have x4:=bk hb4 X3.out;have k4:=K3.out.bel hb4;have hFX:¬X w2.heap.size:=fun q=>by have:=HX.out _ q;have:=HE2.out;omega
 obtain⟨d8,d3,_,z3⟩:=h4.cells;have d3:=d3 HCU.out;have h5:=h4.setCur (c:=(y.1.id,y.1.op)) e4 HD0.out HDO.out hFX;have hEC:w.heap.size≠C:=by have:=HCl.out;omega
 have hFC:w2.heap.size≠C:=by have:=HCl.out;have:=HE2.out;omega
 have e5:=(heap_setCell_other w4 ⟨C,3,none⟩ w2.heap.size (.pointer (some ⟨w2.heap.size,0,none⟩)) hFC).trans e4;have x5:=(heap_setCell_other w4 ⟨C,3,none⟩ w.heap.size (.pointer (some ⟨w2.heap.size,0,none⟩)) hEC).trans x4;have k5:Kb X w (w4.setCell ⟨C,3,none⟩ (.pointer (some ⟨w2.heap.size,0,none⟩))):=k4.set (.inl HXC.out) _;obtain⟨H5,E5,X5,K5⟩:=Ci h5 e5 x5 k5;clear h4 h5 e4 e5 x4 x5 k4 k5 hb4 ki d8 H3 E3 X3 K3 G3
 go_wp2_with fail
 generalize w4.setCell ⟨C,3,none⟩ (.pointer (some ⟨w2.heap.size,0,none⟩))=w5 at H5 E5 X5 K5⊢;clear d3 z3;have kc:=wo w0 _ X C _ w5 H5.out (HH.out.to (P:=P) (P':=P) ⟨K5.out,fun _ _ q=>q,fun _ _ q=>q⟩) HI.out (show r.length≤16 from HMS.out) HO.out;refine ag kc ?_;rintro e w6 ⟨rfl,P6,X6,h6,n6⟩;have e6:=n6.kb.at E5.out hFX;have x6:=n6.kb.at X5.out hXE;have hw5:=K5.out.size;have hE5:=(gl X5.out);have hF2:=HE2.out;have hPE:¬P6 w.heap.size:=fun q=>by
  rcases n6.ps _ hE5 q with q|q
  ·exact absurd q.2 (Nat.lt_irrefl _)
  ·omega
 have FIN:Dd P X C w y (s.took y r) (.returned (.tuple #[.agg m.row,.bool true])) (w6.setRow w.heap.size D):=by
  refine⟨m,P6,X6,rfl,HPL.out,h6.row hPE D,⟨(K5.out.step n6.kb fun _ _ q=>q).row (.inr (ah _)) D,fun j hj q=>n6.xs j (by omega) q,fun j hj q=>?_⟩,HLS.out.kept fun g hg hl=>?_⟩
  ·rcases n6.ps j (by omega) q with q|q
   ·exact q.1
   ·omega
  ·have hgl:g<w.heap.size:=hg.1.2
   have hg5:w5.heap[g]?=w2.heap[g]?:=(K5.out.block g hgl hg.2).trans (B2.out.block g hgl hg.2).symm;refine⟨(setRow_other w6 w.heap.size g D (by omega)).trans ((n6.kb.block g (by omega) hg.2).trans hg5),fun _=>hg.1.1,?_,fun q=>hg.2 (n6.xs g (by omega) q)⟩;have q6:=n6.kb.size;have qs:(w6.setRow w.heap.size D).heap.size=w6.heap.size:=by simp[World.setRow]
   omega
 have t7:=setRow_heap w6 w.heap.size _ D _ _ x6;obtain⟨HF,T7,X6',E6⟩:=Ci FIN t7 x6 e6;clear FIN t7 x6 e6 h6 n6 kc H5 E5 X5 K5 hPE hw5 hE5 hF2
 go_wp2_with (first
  |(refine bg rfl 33 (.tmp 4) rfl w2.heap.size 33 D (0,0) (by rfl) E6.out _ Tryz.underlying33 rfl (by rw[HD2.out];rfl) ?_)
  |(refine bh rfl 33 (.tmp 2) (.tmp 43) rfl w.heap.size 33 Zm D (by rfl) (by rfl) X6'.out (by rw[HD2.out];rfl) (by rw[HD2.out];rfl) HD1.out ?_;generalize(w6.setRow w.heap.size D)=w7 at T7 HF⊢))
 refine aH (v:=.tuple #[.agg D,.bool true]) ?_ rfl (by rw[←HD.out];exact HF.out);have hr:=aJ (P:=Tryz.prog) w7 w.heap.size 33 33 D (0,0) _ T7.out (show Tryz.prog.underlying 33=_ from Tryz.underlying33) (by rfl) (by rw[HD2.out];rfl)
 simp[results,Tryz.f19]
 show((Sem.run Tryz.prog (loadVar 33 ⟨w.heap.size,0,none⟩) w7).andThen fun a w'=>Result.ok (Value.tuple #[a,.bool true]) w')=_;rw[hr]
 simp
end Go.Proofs.YthpcpdplcicfoaaGreatDoor
