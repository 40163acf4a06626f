/- CoP, CoB, CoG, CoH, CoI, CoJ, CoK, CoL, Two, CoQ, CoM, CoN, SmA, SmB, SmC, MgAt, SmM, CoW, CoO, CoR, CoX, RiA, CoY, PlainVl, CoZ, SmI, LawPi. -/
import Derived.Test.YthpcpdplcicfoaaGreatDoorV22
import Derived.Deep.Cut
import Derived.MapKept
import Derived.Defers
import Derived.Recover
import Derived.Laws.Pointers
import Derived.OwnWalk
import Derived.Deep.AppendLies
import Derived.Test.YthpcpdplcicfoaaGreatDoorShelf
import Derived.WalkKit
import Derived.WalkLawsBesides
import Derived.WalkSpells
import Derived.Deep.QuietTactic
import Derived.BigQuiet
import Derived.Lib.AppendStr
import Derived.Lib.OthersKept
import Derived.Lib.Hide
import Derived.Lib.TrimUEq
import Derived.Lib.ValidLaws
import Derived.Laws.Runes
import Derived.Laws.Rows
import Derived.Laws.Tables
import Derived.RegionTactic
import Derived.OrdersHeld
import Derived.Lib.Builder
import Derived.Lib.UnsafeStr
import Derived.ChangeKeysEq
import Derived.Deep.CutRange
import Derived.Deep.CutBlock
import Derived.Lib.IndexLaws
import Derived.Lib.Split
import Derived.Shelf.Strings.SlTrimAscii
import Derived.Lib.SplitLaws
import Derived.Deep.MidRow
namespace Go.Proofs.YthpcpdplcicfoaaGreatDoor
open Go.RowKit Go.Lib
set_option maxRecDepth 100000
set_option maxHeartbeats 16000000
theorem fi{b:List UInt8}{y:Mg×Ls}(h:dy b=.ok y):bH y.1 y.2=true∧LsOk y.1 y.2:=by
 unfold dy fO at h;cases hr:bP 20 b with
 |error c=>rw[hr] at h;cases h
 |ok p=>
  obtain⟨el,r⟩:=p;rw[hr] at h;cases r with
  |cons x r=>cases h
  |nil=>
   simp only at h;cases hT:dU el with
   |none=>rw[hT] at h;cases h
   |some z=>
    rw[hT] at h;simp only at h
    split at h
    ·rename_i hv
     cases h;have hraw:=(fL 20 b el [] hr).2;exact⟨hv,kQ (m:=y.1) (l:=y.2) hT (by omega)⟩
    ·cases h
theorem Tryz.cCells:Tryz.prog.cellsOf 5=1:=by kernel_rfl
theorem CI(A:Array Value)(k:Int)(B:Nat)(mid:Int)(w:World)(hA0:A[0]?=some (.int .i64 mid))(hB:w.cell? ⟨B,0,none⟩=some (.int .i64 k)):
  Cr 141 #[.agg A,.pointer (some ⟨B,0,none⟩)] w (.bool (mid==k)):=by
 have b1:=alb w A 33;have m1:=alz w A 33;have c0:(w.alloc (.cells A 33)).cell? ⟨w.heap.size,0,none⟩=some (.int .i64 mid):=(aq m1 0).trans hA0;have cB:=(b1.cell (bj hB)).trans hB;clear hA0 hB m1
 go_enter Tryz.func141,Tryz.ntmps141
 go_upto_region 1 with fail
 generalize w.alloc (.cells A 33)=w1 at b1 c0 cB⊢
 go_wp2_with fail
 go_ret
 exact⟨rfl,b1⟩
def Dy(w:World)(ids:List Int)(k:Int)(v:Value)(wr:World):Prop:=∃j:Nat,j≤ids.length∧v=.int .i64 (j:Int)∧(ids.take j).contains k=false∧Below w.heap.size w wr
def ua(ids:List Int)(k:Int)(r:Int):Prop:=(r=-1∧ids.contains k=false)∨∃j:Nat,r=j∧ids[j]?=some k
theorem s9(P:Nat→Prop)(v:Value)(Ms:List Mg)(ms:List (Mg×Ls))(k:Int)(B:Nat)(w:World)(h:w.ownsRow 0 33 28 v ms.length (cC Ms))(hm:eq P w Ms ms)(hl:ms.length≤1000)(hB:w.cell? ⟨B,0,none⟩=some (.int .i64 k)):
  Calls Tryz.prog 140 #[v,.func (.func 141) #[] #[.pointer (some ⟨B,0,none⟩)]] w fun e w'=>(∃r,e=.returned (.int .i64 r)∧ua (ms.map (·.1.id)) k r)∧Below w.heap.size w w':=by
 obtain⟨ids,hI⟩:=nmm (ms.map (·.1.id));obtain⟨n,hn⟩:=nmm ms.length;have hlen:ids.length=n:=by rw[←hI,List.length_map,hn]
 obtain⟨a,cap,rfl⟩:∃a cap,v=.slice a n cap:=by
  rcases h.2 with⟨hv,h0⟩|⟨g,cap,cur,hv,_⟩
  ·exact⟨none,0,by rw[hv,←hn,h0]⟩
  ·exact⟨_,cap,by rw[hv,hn]⟩
 rw[hI];rw[hn] at h hl;obtain⟨HH,HM,HI,HLN⟩:=Ci h hm hI hlen;clear h hm hI hn hlen
 go_enter Tryz.func140,Tryz.ntmps140
 go_wp2_with fail
 go_loopw [8] (fun v wr=>Dy w ids k v wr) (fun v _=>n -(RowKit.intOf v).toNat)
 case atStart=>exact⟨0,Nat.zero_le _,rfl,rfl,aA _ _⟩
 case round=>
  obtain⟨j,hj,rfl,htk,hbe⟩:=hrel;rw[HLN.out] at hj
  by_cases hlt:j<n
  ·have g1:decide ((j:Int)<(n:Int))=true:=aC (by omega)
   obtain⟨g,cap',e0,_⟩:=HH.out.form (by omega)
   injection e0 with ea _ ec
   subst ea;subst ec
   have hjm:j<ms.length:=by have:=HI.out;have h2:=HLN.out;rw[←this,List.length_map] at h2;omega
   obtain⟨y,hy⟩:∃y,ms[j]?=some y:=⟨_,aM hjm⟩;obtain⟨m,hMi,hpl,hls⟩:=HM.out.get hy;have hkey:ids[j]?=some y.1.id:=by rw[←HI.out,List.getElem?_map,hy];rfl
   have hown:wr.ownsRow 0 33 28 (.slice (some ⟨g,0,none⟩) n cap) n (cC Ms):=gM HH.out fun b hb=>hbe.block b (HH.out.lt b hb).2
   have hrng:wr.rangeAt g (j*28) m.row.toList:=fun i v hi=>by
    have hil:i<28:=(List.getElem?_eq_some_iff.1 hi).1;have hc:=hown.cells (g:=g) rfl (j*28+i) v (by rw[ie Ms j i m hMi hil];exact hi);rw[show(⟨g,0,none⟩:Addr).add (j*28+i)=⟨g,j*28+i,none⟩ by simp[Addr.add_lit]] at hc;exact hc
   obtain⟨D,hD⟩:=nmm m.row;have hD2:D.size=28:=by rw[←hD];rfl
   have hD0:D[0]?=some (.int .i64 y.1.id):=by rw[←hD,←hpl];rfl
   rw[hD] at hrng;have kc:=CI D k B y.1.id wr hD0 ((hbe.cell (bj hB)).trans hB);obtain⟨b,hb⟩:=nmm (y.1.id==k);rw[hb] at kc;obtain⟨HD2,HB,HKEY,HTK,HRN⟩:=Cj hD2 hb hkey htk hrng;have hk1:((j:Int)<(n:Int)):=by omega
   clear hD hD2 hD0 hpl hls hMi hy hjm hown htk hb hkey hrng
   go_wp2_with (first|(refine wpList_load_mid rfl 33 (.tmp 14) rfl g (j*28) (by rfl) D.toList _ HRN.out Tryz.underlying33 rfl (by rw[Array.length_toList,HD2.out];rfl) ?_;rw[Array.toArray_toList]))
   refine ag kc ?_;rintro e w2 ⟨rfl,hb2⟩;have hbe2:=cM hbe hb2;clear kc hb2 hbe HRN;cases b
   ·have hne:y.1.id≠k:=fun e=>by have:=HB.out;rw[e,beq_self_eq_true] at this;cases this
    have TK:(ids.take (j+1)).contains k=false:=by
     rw[List.take_add_one,HKEY.out];cases hc:(ids.take j++(some y.1.id).toList).contains k with
     |false=>rfl
     |true=>
      rcases List.mem_append.1 (List.contains_iff_mem.1 hc) with q|q
      ·have:=HTK.out;rw[List.contains_iff_mem.2 q] at this;cases this
      ·simp at q;exact absurd q.symm hne
    have HTK2:=hid TK;clear TK hne
    go_wp2_with fail
    go_roundw
    case rel=>exact⟨j+1,by rw[HLN.out];omega,by go_num,HTK2.out,hbe2⟩
    case measure=>simp[RowKit.intOf];omega
   ·have e0:y.1.id=k:=by simpa using HB.out
    have FIN:ua ids k (j:Int):=.inr ⟨j,rfl,by rw[HKEY.out,e0]⟩;have HF:=hid FIN;clear FIN e0
    go_wp2_with fail
    go_ret
    exact⟨⟨_,rfl,HF.out⟩,hbe2⟩
  ·obtain rfl:j=n:=by omega
   have g1:decide ((j:Int)<(j:Int))=false:=an (by omega);have FIN:ua ids k (-1):=.inl ⟨rfl,by rw[←HLN.out,List.take_length] at htk;exact htk⟩;have HF:=hid FIN;clear FIN htk
   go_wp2_with fail
   go_ret
   exact⟨⟨_,rfl,HF.out⟩,hbe⟩
theorem CJ(P X:Nat→Prop)(C:Nat)(s:Cs)(k:Int)(w:World)(h:dc P X C s w)(hlen:s.ms.length≤1000):
  Calls Tryz.prog 84 #[.pointer (some ⟨C,0,none⟩),.int .i64 k] w fun e w'=>(∃r,e=.returned (.int .i64 r)∧ua s.ids k r)∧Below w.heap.size w w':=by
 obtain⟨wv,iv,cv,bp,bv,Ms,hr,hb⟩:=h;have b1:=alb w #[.int .i64 k] 3;have m1:=alz w #[.int .i64 k] 3;have h1:=hb.bel hr b1;have c1:=(b1.cell (bj (dM hr).2.1)).trans (dM hr).2.1;have kx:=s9 _ wv Ms s.ms k w.heap.size _ h1.own h1.msg hlen ((aq m1 0).trans rfl);have hmf:∀(fn:Fn) (first cap:Array Value) (w:World),(Instr.makeFunc fn first cap).run Tryz.prog w=.ok (.func fn first cap) w:=fun _ _ _ _=>rfl
 clear hr hb m1 h1 hlen
 go_enter Tryz.func84,Tryz.ntmps84
 go_upto_region 1 with fail
 generalize w.alloc (.cells #[.int .i64 k] 3)=w1 at b1 c1 kx⊢
 go_wp2_with fail
 refine ag kx ?_;rintro e w2 ⟨⟨r,rfl,hA⟩,hb2⟩;have HA:=hid hA;have b2:=cM b1 hb2;clear kx hA hb2 b1
 go_wp2_with fail
 go_ret
 exact⟨⟨_,rfl,HA.out⟩,b2⟩
def Cs.strike(s:Cs)(k:Int):Cs:={s with ms:=s.ms.filter fun y=>y.1.id !=k}
def Cs.comes(s:Cs)(y:Mg×Ls):Cs:=if y.1.op=2 then s.shut else if y.1.op=16 then s.strike y.1.target else{s with ms:=s.ms++[y]}
theorem lX{α:Type}(f:α→Int)(k:Int):∀(l:List α) (j:Nat),(l.map f).Nodup→(l.map f)[j]?=some k→l.eraseIdx j=l.filter fun y=>f y !=k
 |[],j,_,h=>by simp at h
 |a::l,0,hn,h=>by
  have e:f a=k:=by simpa using h
  have hn':=List.nodup_cons.1 hn;rw[List.filter_cons_of_neg (by simp[e])];show l=_
  symm
  rw[List.filter_eq_self];intro b hb;have:f b≠k:=fun q=>hn'.1 (by rw[e,←q];exact List.mem_map_of_mem hb)
  simpa using this
 |a::l,j+1,hn,h=>by
  have hn':=List.nodup_cons.1 hn;have hk:(l.map f)[j]?=some k:=by simpa using h
  have hne:f a≠k:=fun q=>hn'.1 (by rw[q];exact List.mem_of_getElem? hk)
  rw[List.filter_cons_of_pos (by simpa using hne),List.eraseIdx_cons_succ,lX f k l j hn'.2 hk]
theorem A1{α:Type}(f:α→Int)(k:Int)(l:List α)(h:(l.map f).contains k=false):(l.filter fun y=>f y !=k)=l:=by
 rw[List.filter_eq_self];intro b hb;have:f b≠k:=fun q=>by
  rw[List.contains_iff_mem.2 (by rw[←q];exact List.mem_map_of_mem hb)] at h;cases h
 simpa using this
theorem CK(P X:Nat→Prop)(C:Nat)(s:Cs)(m:Mg)(y:Mg×Ls)(w:World)(h:dc P X C s w)(hm:m.pl=y.1)(hl:LsP (fun g=>P g∧¬X g) w m y.2)(hn:y.1.op≠2→y.1.op≠16→s.ids.contains y.1.id=false)(hlen:s.ms.length≤1000):
  Calls Tryz.prog 81 #[.pointer (some ⟨C,0,none⟩),.agg m.row] w fun e w'=>e=.returned (.tuple #[])∧em P X C w (s.comes y) w':=by
 unfold Cs.comes
 by_cases h2:y.1.op=2
 ·rw[if_pos h2]
  have b1:=alb w m.row 33;have m1:=alz w m.row 33;have q1:(w.alloc (.cells m.row 33)).cell? ⟨w.heap.size,1,none⟩=some (.int .i64 2):=(aq m1 1).trans (by rw[←h2,←hm];rfl);have ks:=sa P X C s _ (h.bel b1);have hA:∃A,m.row=A:=⟨_,rfl⟩;obtain⟨A,hA⟩:=hA;rw[hA] at b1 q1 ks⊢;clear hA m1 h hm hl hn hlen h2
  go_enter Tryz.func81,Tryz.ntmps81
  go_upto_region 1 with fail
  generalize w.alloc (.cells A 33)=w1 at b1 q1 ks⊢
  go_wp2_with fail
  refine ag ks ?_;rintro e w2 ⟨rfl,hT⟩;have HT:=hid (em.trans (P:=P) (X:=X) ⟨Kb.of b1,fun _ _ q=>q,fun _ _ q=>q⟩ hT);clear ks hT b1 q1
  go_wp2_with fail
  first
   |refine bodyPost_end (results_none rfl _ _ _) rfl ?_
   |refine aH (results_none rfl _ _ _) rfl ?_
  exact⟨rfl,HT.out⟩
 ·rw[if_neg h2]
  by_cases h16:y.1.op=16
  ·rw[if_pos h16]
   have b1:=alb w m.row 33;have m1:=alz w m.row 33;have q1:(w.alloc (.cells m.row 33)).cell? ⟨w.heap.size,1,none⟩=some (.int .i64 16):=(aq m1 1).trans (by rw[←h16,←hm];rfl);have q23:(w.alloc (.cells m.row 33)).cell? ⟨w.heap.size,23,none⟩=some (.int .i64 y.1.target):=(aq m1 23).trans (by rw[←hm];rfl);have h1:=h.bel b1;have kp:=CJ P X C s y.1.target _ h1 hlen;obtain⟨A,hA⟩:=nmm m.row;rw[hA] at b1 q1 q23 kp h1⊢;have H1:=hid h1;obtain⟨S',hS'⟩:=nmm (s.strike y.1.target);rw[hS'];have HS:=hid hS';clear hA m1 h hm hl hn h2 h16 h1 hS'
   go_enter Tryz.func81,Tryz.ntmps81
   go_upto_region 1 with fail
   generalize w.alloc (.cells A 33)=w1 at b1 q1 q23 kp H1⊢
   go_wp2_with fail
   refine ag kp ?_;rintro e w2 ⟨⟨r,rfl,hA⟩,hb2⟩;have h2:=H1.out.bel hb2;have b2:=cM b1 hb2;clear kp hb2 b1 H1 q1 q23;rcases hA with⟨rfl,hc⟩|⟨j,rfl,hk⟩
   ·obtain rfl:S'=s:=by rw[←HS.out];unfold Cs.strike;rw[A1 _ _ _ hc]
    have HT:=hid (show em P X C w S' w2 from⟨P,X,h2,Kb.of b2,fun _ _ q=>q,fun _ _ q=>q⟩);clear hc HS h2 b2
    go_wp2_with fail
    first
     |refine bodyPost_end (results_none rfl _ _ _) rfl ?_
     |refine aH (results_none rfl _ _ _) rfl ?_
    exact⟨rfl,HT.out⟩
   ·have hnd:s.ids.Nodup:=by obtain⟨_,_,_,_,_,_,q⟩:=h2;exact q.b.nd
    obtain⟨z,hz⟩:∃z,s.ms[j]?=some z:=by
     have:=(List.getElem?_eq_some_iff.1 hk).1;exact⟨_,aM (by simpa[Cs.ids] using this)⟩
    have kd:=sA P X C s j z w2 h2 hz hlen;obtain rfl:S'={s with ms:=s.ms.eraseIdx j}:=by rw[←HS.out];unfold Cs.strike;rw[lX _ _ _ _ hnd hk]
    have g0:(0:Int)≤(j:Int):=by omega
    have HB:=hid b2;clear hk HS h2 hnd hz b2
    go_wp2_with fail
    refine ag kd ?_;rintro e w3 ⟨⟨m',rfl,_,_⟩,h3,k3⟩;have HT:=hid (show em P X C w {s with ms:=s.ms.eraseIdx j} w3 from⟨P,X,h3,(Kb.of HB.out).trans k3,fun _ _ q=>q,fun _ _ q=>q⟩);clear kd h3 k3 HB
    go_wp2_with fail
    first
     |refine bodyPost_end (results_none rfl _ _ _) rfl ?_
     |refine aH (results_none rfl _ _ _) rfl ?_
    exact⟨rfl,HT.out⟩
  ·rw[if_neg h16]
   exact CF P X C s m y w h hm hl (hn h2 h16) h2 h16 hlen
def gq(op:Int):Bool:=op==2||op==16
def Cs.badB(s:Cs)(y:Mg×Ls):Bool:=!fC.contains y.1.op||(!gq y.1.op&&(y.1.id==0||s.has y.1.id))
def Cs.cut:Nat→Cs→Cs
 |0,s=>s
 |n+1,s=>
  if s.cl=true∨16≤s.ms.length then s
  else if(eA s.inn).2=20∨((eA s.inn).2=0∧s.inn.length<(eA s.inn).1) then s
  else if(eA s.inn).2≠0 then s.gone
  else match dy (s.inn.take (eA s.inn).1) with
   | .error _=>s.gone
   | .ok y=>if s.badB y then s.gone else Cs.cut n ({s with inn:=s.inn.drop (eA s.inn).1}.comes y)
def MrQ(b:List UInt8)(w:World)(D:Array Value)(cd id op:Int)(w':World):Prop:=
 D[0]?=some (.int .i64 id)∧D[1]?=some (.int .i64 op)∧D.size=28∧D.all (·.oneCell')=true∧
  ((cd≠0∧op=0∧∃c,dy b=.error c)∨(cd=0∧∃(y:Mg×Ls) (m:Mg),dy b=.ok y∧D=m.row∧m.pl=y.1∧LsL w.heap.size w' m y.2∧id=y.1.id∧op=y.1.op))
theorem MrP.parts{b:List UInt8}{w w':World}{e:Ending}(h:MrP b w e w'):∃D cd id op,e=.returned (.tuple #[.agg D,.int .i64 cd])∧MrQ b w D cd id op w'∧Below w.heap.size w w':=by
 obtain⟨h,hb⟩:=h;cases hr:dy b with
 |error c=>
  rw[hr] at h;exact⟨_,c,0,0,h,⟨rfl,rfl,rfl,by simp[Mg.row,Value.oneCell'],.inl ⟨lI hr,rfl,c,hr⟩⟩,hb⟩
 |ok y=>
  rw[hr] at h;obtain⟨m,he,hm,hl⟩:=h;exact⟨_,0,y.1.id,y.1.op,he,⟨by rw[←hm];rfl,by rw[←hm];rfl,rfl,hl.lsp.one,.inr ⟨rfl,y,m,hr,rfl,hm,hl,rfl,rfl⟩⟩,hb⟩
def pm(C:Nat)(w:World):Nat:=match w.cell? ⟨C,0,none⟩ with|some (.string b)=>b.size|_=>0
theorem vS{P X:Nat→Prop}{C:Nat}{s:Cs}{w:World}(h:dc P X C s w):pm C w=s.inn.length:=by
 obtain⟨wv,iv,cv,bp,bv,Ms,h,_⟩:=h;unfold pm;rw[(dM h).1];exact Lib.size_mk _
theorem C3(s:Cs)(y:Mg×Ls):(s.comes y).inn.length≤s.inn.length∧(s.comes y).ms.length≤s.ms.length+1∧(s.comes y).out=s.out:=by
 unfold Cs.comes
 split
 ·exact⟨Nat.zero_le _,Nat.zero_le _,rfl⟩
 ·split
  ·exact⟨ah _,Nat.le_succ_of_le (List.length_filter_le _ _),rfl⟩
  ·exact⟨ah _,by simp,rfl⟩
def wa(P X:Nat→Prop)(C:Nat)(w:World)(ANS:Cs)(N:Nat)(wr:World):Prop:=
 ∃P' X' s n,dc P' X' C s wr∧Nx P X w P' X' wr∧s.inn.length<n∧s.inn.length≤N∧s.ms.length≤16∧s.out.length≤1099511627776∧Cs.cut n s=ANS
theorem wo(w0:World)(P X:Nat→Prop)(C:Nat)(s:Cs)(w:World)(h:dc P X C s w)(hH:Hm w0 X w)(hi:s.inn.length≤1000000000)(hm:s.ms.length≤16)(ho:s.out.length≤1099511627776):
  Calls Tryz.prog 40 #[.pointer (some ⟨C,0,none⟩)] w fun e w'=>e=.returned (.tuple #[])∧em P X C w (Cs.cut (s.inn.length+1) s) w':=by
 obtain⟨ANS,hA⟩:=nmm (Cs.cut (s.inn.length+1) s);rw[hA];generalize hPR:(em P X C w ANS:World→Prop)=PR;obtain⟨HPR,HH⟩:=Cg hPR hH;have REL:wa P X C w ANS 1000000000 w:=⟨P,X,s,s.inn.length+1,h,Nx.refl _ _ _,by omega,hi,hm,ho,hA⟩;have HREL:=Lib.hid REL;clear hPR hH REL h hi hm ho hA
 go_enter Tryz.func40,Tryz.ntmps40
 go_wp2_with fail
 go_loopw [] (fun wr=>wa P X C w ANS 1000000000 wr) (fun wr=>pm C wr)
 case atStart=>exact HREL.out
 case round=>
  obtain⟨P',X',⟨inn,ms,cur,out,cl⟩,n,hat,hnx,hn,hin,hms,hou,hcut⟩:=hrel;have hI:=vS hat;simp only at hn hin hms hou hI;have hHr:=HH.out.to hnx;obtain⟨wv,iv,cv,bp,bv,Ms,hrow,hb⟩:=hat;simp only at hrow hb;obtain⟨c0,c1,c2,c3,c8⟩:=dM hrow;obtain⟨nm,hnm⟩:=nmm ms.length;obtain⟨av,cap,rfl⟩:∃a cap,wv=.slice a nm cap:=by
   rcases hb.own.2 with⟨hv,h0⟩|⟨g,cap,x,hv,_⟩
   ·exact⟨none,0,by rw[hv,←hnm,h0]⟩
   ·exact⟨_,cap,by rw[hv,hnm]⟩
  obtain⟨n,rfl⟩:∃k,n=k+1:=⟨n -1,by omega⟩;unfold Cs.cut at hcut;simp only at hcut
  by_cases hst:cl=true∨16≤ms.length
  ·rw[if_pos hst] at hcut
   have FIN:PR wr:=by rw[←HPR.out,←hcut];exact⟨P',X',⟨_,_,_,_,_,_,hrow,hb⟩,hnx⟩
   have HF:=Lib.hid FIN;clear FIN hcut hnx hb hrow c2 c3 hI hHr;cases cl with
   |true=>
    go_wp2_with fail
    first
     |refine bodyPost_end (results_none rfl _ _ _) rfl ?_
     |refine aH (results_none rfl _ _ _) rfl ?_
    exact⟨rfl,HF.out⟩
   |false=>
    have hlt:decide ((nm:Int)<16)=false:=an (by
     rcases hst with q|q
     ·cases q
     ·omega)
    go_wp2_with fail
    first
     |refine bodyPost_end (results_none rfl _ _ _) rfl ?_
     |refine aH (results_none rfl _ _ _) rfl ?_
    exact⟨rfl,HF.out⟩
  ·rw[if_neg hst] at hcut
   obtain rfl:cl=false:=by cases cl with|false=>rfl|true=>exact absurd (.inl rfl) hst
   have hlt:decide ((nm:Int)<16)=true:=aC (by have:¬16≤ms.length:=fun q=>hst (.inr q);omega);have hns:nm<16:=by have:¬16≤ms.length:=fun q=>hst (.inr q);omega
   have kf:=CS inn hin wr;have hfge:(eA inn).2=0→2≤(eA inn).1:=fun q=>by have:=mh inn q;unfold eA;simp only;omega
   obtain⟨⟨k,c⟩,hF⟩:∃F,eA inn=F:=⟨_,rfl⟩;have HK6:Hid (k≤65536):=Lib.hid (by have:=jL inn;have e:=congrArg Prod.fst hF;unfold eA at e;simp only at e;omega);rw[hF] at hcut kf hfge;simp only at hcut kf hfge;have HO:Hid (CnO P' X' C ⟨inn,ms,cur,out,false⟩ (.slice av nm cap) iv cv bp bv Ms wr):=Lib.hid ⟨hrow,hb⟩;obtain⟨HCUT,HFG,HN,HIN,HI,HMS,HNX,HHR,HNM⟩:=CE hcut hfge hn hin hI hms hnx hHr hnm;clear hcut hfge hn hin hI hms hnx hHr hb hF hst hrow c2 c3
   go_wp2_with fail
   refine ag kf ?_;rintro e w2 ⟨rfl,hb2⟩;have h2:=HO.out.bel hb2;have n2:=HNX.out.bel hb2;have q2:=HHR.out.bels hb2;obtain⟨d0,d1,d2,d3,d8⟩:=dM h2.row;obtain⟨H2,N2,Q2⟩:=Ch h2 n2 q2;clear kf hb2 HO HNX HHR h2 n2 q2 c0 c1 c8 d2 d3 hns hnm
   by_cases hc20:c=20
   ·subst hc20
    have FIN:PR w2:=by rw[←HPR.out,←HCUT.out,if_pos (.inl rfl)];exact⟨P',X',H2.out.at,N2.out⟩
    have HF:=Lib.hid FIN;clear FIN HCUT
    go_wp2_with fail
    first
     |refine bodyPost_end (results_none rfl _ _ _) rfl ?_
     |refine aH (results_none rfl _ _ _) rfl ?_
    exact⟨rfl,HF.out⟩
   ·have e20:(c==20)=false:=aE hc20
    by_cases hc0:c=0
    ·subst hc0
     by_cases hk:inn.length<k
     ·have FIN:PR w2:=by rw[←HPR.out,←HCUT.out,if_pos (.inr ⟨rfl,hk⟩)];exact⟨P',X',H2.out.at,N2.out⟩
      have HF:=Lib.hid FIN;have hg:decide ((k:Int)>(inn.length:Int))=true:=aC (by omega);clear FIN HCUT
      go_wp2_with fail
      first
       |refine bodyPost_end (results_none rfl _ _ _) rfl ?_
       |refine aH (results_none rfl _ _ _) rfl ?_
      exact⟨rfl,HF.out⟩
     ·have hkl:k≤inn.length:=by omega
      have hg:decide ((k:Int)>(inn.length:Int))=false:=an (by omega);have hk1:(k:Int)≤(inn.length:Int):=by omega
      have hx:(⟨inn.toArray⟩:ByteArray).extract 0 k=⟨(inn.take k).toArray⟩:=by rw[Lib.extract_eq];simp
      have hy:(⟨inn.toArray⟩:ByteArray).extract k inn.length=⟨(inn.drop k).toArray⟩:=by rw[Lib.extract_eq];simp[List.take_of_length_le]
      have kr:=lG (inn.take k) (by rw[List.length_take];have:=HK6.out;omega) w2 Q2.out.now;have hk2:=HFG.out rfl;have HK:=Lib.hid hk;clear hk
      go_wp2_with fail
      refine ag kr ?_;rintro e w3 hP;obtain⟨D,cd,id,op,rfl,hQ,hb3⟩:=hP.parts;obtain⟨HQ,HD1,HD2⟩:=Ch hQ hQ.2.2.2.1 hQ.2.2.1;have h3:=H2.out.bel hb3;have n3:=N2.out.bel hb3;have q3:=Q2.out.bels hb3;have hXl:∀j,X' j→j<w2.heap.size:=H2.out.b.xl;have hs3:=hb3.size;have hCl:C<w2.heap.size:=(gl H2.out.row);have y3:=alz w3 Zm 33;have g3:Below w3.heap.size w3 ((w3.alloc (.cells Zm 33)).setRow w3.heap.size D):=bm ((aA _ _).alloc (ah _) _) (ah _) D;have e4:=setRow_heap (w3.alloc (.cells Zm 33)) w3.heap.size _ D _ _ y3;have h4:=h3.bel g3;have n4:=n3.bel g3;have q4:=q3.bels g3;obtain⟨Y3,E4,H4,N4,Q4,G3,HXL,HS3,HCL,HW2⟩:=Cz y3 e4 h4 n4 q4 g3 hXl hs3 hCl N2.out.kb.size;clear kr hP hQ hb3 h3 n3 q3 y3 g3 e4 h4 n4 q4 hXl hs3 hCl H2 N2 Q2 d0 d1 d8
      go_upto_region 8 with(refine bh rfl 33 (.tmp 4) (.tmp 54) rfl w3.heap.size 33 Zm D (by rfl) (by rfl) Y3.out (by rw[HD2.out];rfl) (by rw[HD2.out];rfl) HD1.out ?_;generalize(w3.alloc (.cells Zm 33)).setRow w3.heap.size D=w4 at E4 H4 N4 Q4 G3⊢;obtain⟨d0,d1,d2,d3,d8⟩:=dM H4.out.row;have z0:=aj H4.out.row 0;clear d1 d2 d3 d8 Y3)
      obtain⟨w5,hw5⟩:=nmm (w4.setCell ⟨C,0,none⟩ (.string ⟨(inn.drop k).toArray⟩));have hMC:w3.heap.size≠C:=by have h1:=HCL.out;have h2:=HS3.out;omega
      have h5:CnO P' X' C ⟨inn.drop k,ms,cur,out,false⟩ (.slice av nm cap) iv cv bp bv Ms w5:=by
       rw[←hw5];exact⟨cq (i:=0) (u:=.string ⟨(inn.drop k).toArray⟩) H4.out.row,H4.out.b.put H4.out.row 0 _⟩
      have e5:w5.heap[w3.heap.size]?=some (.cells D 33 (0,0)):=by rw[←hw5];exact(heap_setCell_other w4 ⟨C,0,none⟩ _ _ hMC).trans E4.out
      have hoth:∀j,j≠C→j<w3.heap.size→w5.heap[j]?=w3.heap[j]?:=fun j hj hl=>by rw[←hw5];exact(heap_setCell_other w4 ⟨C,0,none⟩ j _ hj).trans (G3.out.block j hl)
      have n5:Nx P X w (fun g=>P' g∨(w2.heap.size≤g∧g<w3.heap.size)) X' w5:=by
       have:=N4.out.trans (P2:=P') (X2:=X') (c:=w5) ⟨by rw[←hw5];exact(Kb.refl _ _).set (.inl H4.out.b.xC) _,fun _ _ q=>q,fun _ _ q=>q⟩;exact⟨this.kb,this.xs,fun j hj q=>q.elim (this.ps j hj) (fun e=>by have:=HW2.out;omega)⟩
      have q5:=HH.out.to n5;have q0:w5.cell? ⟨w3.heap.size,0,none⟩=some (.int .i64 id):=(aq e5 0).trans HQ.out.1;have q1:w5.cell? ⟨w3.heap.size,1,none⟩=some (.int .i64 op):=(aq e5 1).trans HQ.out.2.1;obtain⟨H5,E5,N5,Q5,HO⟩:=Cj (h5.more (P':=fun g=>P' g∨(w2.heap.size≤g∧g<w3.heap.size)) fun g=>.inl) e5 n5 q5 hoth;clear h5 e5 n5 q5 hoth E4 H4 N4 Q4 G3 d0 z0 hx hy hMC
      try rw[hw5]
      clear hw5;obtain⟨bb,hbb⟩:=nmm (!fC.contains op||(!gq op&&(id==0||Cs.has ⟨inn.drop k,ms,cur,out,false⟩ id)));obtain⟨BAD,hBAD⟩:=nmm (cd !=0||bb);obtain⟨HBB,HBD⟩:=Cg hbb hBAD;clear hbb hBAD;obtain⟨sl,hsl⟩:=nmm (gq op);have HSL:=Lib.hid hsl;clear hsl
      go_cut [5] from 65 to 72 (fun v wx=>v=.bool sl∧wx=w5)
      case first=>
       by_cases h2:op=2
       ·subst h2
        obtain rfl:sl=true:=HSL.out.symm
        go_wp2_with fail
        go_meet
        exact⟨rfl,rfl⟩
       ·have e2:(op==2)=false:=aE h2
        obtain⟨b16,e16⟩:=nmm (op==16);obtain rfl:sl=b16:=by have:=HSL.out;unfold gq at this;rw[e2,e16,Bool.false_or] at this;exact this.symm
        go_wp2_with fail
        go_meet
        exact⟨rfl,rfl⟩
      case rest=>
       obtain⟨rfl,hwc⟩:=hcut;rw[hwc];clear hwc
       go_upto_region 9 with fail
       go_cut [95] from 73 to 95 (fun v wx=>v=.bool BAD∧Below w5.heap.size w5 wx)
       case first=>
        by_cases hcd:cd=0
        ·have ecd:(cd==0)=true:=by rw[hcd];rfl
         have ncd:(cd !=0)=false:=by rw[bne,ecd];rfl
         obtain rfl:bb=BAD:=by have:=HBD.out;rw[ncd,Bool.false_or] at this;exact this
         have kq:=s5 op w5;have ht:=fun w' hb=>BW (fun g=>P' g∨(w2.heap.size≤g∧g<w3.heap.size)) X' C ⟨inn.drop k,ms,cur,out,false⟩ id w' (H5.out.bel hb).at
         obtain⟨rq,hrq⟩:=nmm (fC.contains op);obtain⟨hs,hhs⟩:=nmm (Cs.has ⟨inn.drop k,ms,cur,out,false⟩ id);rw[hrq] at kq;rw[hhs] at ht;obtain⟨HT,HRQ,HHS⟩:=Ch ht hrq hhs;clear ht hrq hhs hcd
         go_wp2_with fail
         refine ag kq ?_;rintro e w6 ⟨rfl,hb6⟩;have q0':=(hb6.cell (bj q0)).trans q0;cases rq with
         |false=>
          obtain rfl:bb=true:=by rw[←HBB.out,HRQ.out];rfl
          go_wp2_with fail
          go_meet
          exact⟨rfl,hb6⟩
         |true=>
          cases sl with
          |true=>
           obtain rfl:bb=false:=by rw[←HBB.out,HRQ.out,HSL.out];rfl
           go_wp2_with fail
           go_meet
           exact⟨rfl,hb6⟩
          |false=>
           cases hz:(id==0) with
           |true=>
            obtain rfl:bb=true:=by rw[←HBB.out,HRQ.out,HSL.out,hz];rfl
            go_wp2_with fail
            go_meet
            exact⟨rfl,hb6⟩
           |false=>
            obtain rfl:bb=hs:=by rw[←HBB.out,HRQ.out,HSL.out,hz,HHS.out];rfl
            have kt:=HT.out w6 hb6
            go_wp2_with fail
            refine ag kt ?_;rintro e w7 ⟨rfl,hb7⟩
            go_wp2_with fail
            go_meet
            exact⟨rfl,cM hb6 hb7⟩
        ·have ecd:(cd==0)=false:=aE hcd
         have ncd:(cd !=0)=true:=by rw[bne,ecd];rfl
         obtain rfl:BAD=true:=by have:=HBD.out;rw[ncd,Bool.true_or] at this;exact this.symm
         go_wp2_with fail
         go_meet
         exact⟨rfl,aA _ _⟩
       case rest=>
        obtain⟨rfl,hb7⟩:=hcut;have h7:=H5.out.bel hb7;have n7:=N5.out.bel hb7;have q7:=Q5.out.bels hb7;have e7:=bk hb7 E5.out;cases BAD with
        |true=>
         have kg:=mC w0 _ X' C ⟨inn.drop k,ms,cur,out,false⟩ wc h7.at q7 hou;have HN7:=Lib.hid n7;clear h7 n7 q7 e7
         go_wp2_with fail
         refine ag kg ?_;rintro e w8 ⟨rfl,hT⟩;have FIN:PR w8:=by
          have hc:Cs.gone ⟨inn,ms,cur,out,false⟩=ANS:=by
           rw[←HCUT.out,if_neg (by rintro(q|q);exact absurd q (by decide);exact HK.out q.2),if_neg (by decide)];rcases HQ.out.2.2.2.2 with q|⟨hcd,y,m,hy,hD,hm,hl,hid,hop⟩
           ·obtain⟨c,hc⟩:=q.2.2
            rw[hc]
           ·rw[hy]
            have hbb:Cs.badB ⟨inn,ms,cur,out,false⟩ y=true:=by
             have h1:=HBD.out;rw[hcd,show((0:Int) !=0)=false from rfl,Bool.false_or] at h1;rw[←h1,←HBB.out,hid,hop]
             rfl
            simp only[hbb,if_true]
          rw[←HPR.out,←hc];exact hT.trans HN7.out
         have HF:=Lib.hid FIN;clear FIN HCUT hT kg HN7
         go_wp2_with fail
         first
          |refine bodyPost_end (results_none rfl _ _ _) rfl ?_
          |refine aH (results_none rfl _ _ _) rfl ?_
         exact⟨rfl,HF.out⟩
        |false=>
         have hcd:cd=0:=by
          have h1:=HBD.out;cases hc:(cd !=0) with
          |true=>rw[hc,Bool.true_or] at h1;cases h1
          |false=>simpa using hc
         obtain⟨y,m,hy,hD,hm,hl,hid,hop⟩:∃(y:Mg×Ls) (m:Mg),dy (inn.take k)=.ok y∧D=m.row∧m.pl=y.1∧LsL w2.heap.size w3 m y.2∧id=y.1.id∧op=y.1.op:=by
          rcases HQ.out.2.2.2.2 with q|q
          ·exact absurd hcd q.1
          ·exact q.2
         have hbb:(!fC.contains y.1.op||(!gq y.1.op&&(y.1.id==0||Cs.has ⟨inn.drop k,ms,cur,out,false⟩ y.1.id)))=false:=by
          have h1:=HBD.out;rw[hcd,show((0:Int) !=0)=false from rfl,Bool.false_or] at h1;rw[←hid,←hop,HBB.out,h1]
         have hl7:LsP (fun g=>(P' g∨(w2.heap.size≤g∧g<w3.heap.size))∧¬X' g) wc m y.2:=hl.lsp.kept fun g hg hgl=>
          ⟨(hb7.block g (by have:=HO.out;have q:=(gl E5.out);omega)).trans (HO.out g (by have:=HCL.out;omega) hgl),.inr ⟨hg,hgl⟩,fun q=>by have:=HXL.out g q;omega⟩
         have kc:=CK _ X' C ⟨inn.drop k,ms,cur,out,false⟩ m y wc h7.at hm hl7 (fun h2 h16=>by
          have hs:gq y.1.op=false:=by unfold gq;rw[aE h2,aE h16];rfl
          rw[hs] at hbb;cases hc:Cs.ids ⟨inn.drop k,ms,cur,out,false⟩|>.contains y.1.id with
          |false=>rfl
          |true=>
           have:Cs.has ⟨inn.drop k,ms,cur,out,false⟩ y.1.id=true:=by unfold Cs.has;rw[hc];rfl
           rw[this] at hbb
           simp at hbb) (by have:=HMS.out;show ms.length≤1000;omega)
         rw[←hD] at kc;have hc:Cs.cut n (Cs.comes ⟨inn.drop k,ms,cur,out,false⟩ y)=ANS:=by
          rw[←HCUT.out,if_neg (by rintro(q|q);exact absurd q (by decide);exact HK.out q.2),if_neg (by decide),hy];have hb':Cs.badB ⟨inn,ms,cur,out,false⟩ y=false:=hbb;simp only[hb',aW,if_false]
         obtain⟨HC,HN7⟩:=Cg hc n7;clear h7 n7 q7 hy hD hm hl hl7 hbb hc HCUT hid hop
         go_wp2_with (refine bg rfl 33 (.tmp 4) rfl w3.heap.size 33 D (0,0) (by rfl) e7 _ Tryz.underlying33 rfl (by rw[HD2.out];rfl) ?_)
         refine ag kc ?_;rintro e w8 ⟨rfl,hT⟩;obtain⟨P8,X8,h8,n8⟩:=hT;have hle:=C3 ⟨inn.drop k,ms,cur,out,false⟩ y;have hin2:(Cs.comes ⟨inn.drop k,ms,cur,out,false⟩ y).inn.length+k≤inn.length:=by have:=hle.1;simp only[List.length_drop] at this;omega
         have REL:wa P X C w ANS 1000000000 w8:=⟨P8,X8,_,n,h8,HN7.out.trans n8,by have:=HN.out;omega,by have:=HIN.out;omega,by
          have h1:=hle.2.1;have h2:=HNM.out;have h3:=of_decide_eq_true hlt;simp only at h1
          omega,by rw[hle.2.2];exact hou,HC.out⟩
         have MEA:pm C w8<pm C wr:=by rw[vS h8,HI.out];omega
         obtain⟨HREL2,HMEA⟩:=Cg REL MEA;clear REL MEA hin2 hle h8 n8 kc HC HN7
         go_wp2_with fail
         go_roundw
         case rel=>exact HREL2.out
         case measure=>exact HMEA.out
    ·have ec0:(c==0)=false:=aE hc0
     have en0:(c !=0)=true:=by rw[bne,ec0];rfl
     have kg:=mC w0 P' X' C ⟨inn,ms,cur,out,false⟩ w2 H2.out.at Q2.out hou;clear hc20 hc0 H2
     go_wp2_with fail
     refine ag kg ?_;rintro e w3 ⟨rfl,hT⟩;have FIN:PR w3:=by
      rw[←HPR.out,←HCUT.out,if_neg (by rintro(q|q);exact absurd q (by simpa using e20);exact absurd q.1 (by simpa using ec0)),if_pos (by simpa using ec0)];exact hT.trans N2.out
     have HF:=Lib.hid FIN;clear FIN HCUT hT kg
     go_wp2_with fail
     first
      |refine bodyPost_end (results_none rfl _ _ _) rfl ?_
      |refine aH (results_none rfl _ _ _) rfl ?_
     exact⟨rfl,HF.out⟩
abbrev Xc(C:Nat):Nat→Prop:=fun g=>g=C
theorem nM(w:World):Calls Tryz.prog 13 #[] w fun e w'=>e=.returned (.pointer (some ⟨w.heap.size,0,none⟩))∧dc (Xc w.heap.size) (Xc w.heap.size) w.heap.size {} w'∧Below w.heap.size w w':=by
 have b1:=alb w #[Es,Sn,.map none,.pointer none,.pointer none,Sn,Es,I0,Bf] 81;have t1:(w.alloc (.cells #[Es,Sn,.map none,.pointer none,.pointer none,Sn,Es,I0,Bf] 81)).heap[w.heap.size]?=some (.cells (lC [] (Sn) (.map none) (.pointer none) (.pointer none) (Sn) false) 81 (0,0)):=bC _ _ _ rfl;have hat:dc (Xc w.heap.size) (Xc w.heap.size) w.heap.size {} (w.alloc (.cells #[Es,Sn,.map none,.pointer none,.pointer none,Sn,Es,I0,Bf] 81)):=
  ⟨_,_,_,_,_,[],t1,World.ownsRow_nil _ _ _ _,trivial,.inl ⟨rfl,rfl⟩,List.nodup_nil,rfl,.inl rfl,World.ownsRow_nil _ _ _ _,(fun g hg=>by cases hg),(fun g hg=>by cases hg),(fun g hg=>by cases hg),rfl,(fun g hg=>hg),fun g hg=>by rw[hg];simp⟩
 have T1:=hid hat;clear t1 hat
 go_enter Tryz.func13,Tryz.ntmps13
 go_wp2_with fail
 go_ret
 exact⟨rfl,T1.out,b1⟩
def Cs.feed(s:Cs)(b:List UInt8):Cs:=if s.cl then s else Cs.cut (s.inn.length+b.length+1) {s with inn:=s.inn++b}
theorem gF(w0:World)(P X:Nat→Prop)(C:Nat)(s:Cs)(b:List UInt8)(w:World)(h:dc P X C s w)(hH:Hm w0 X w)(hi:s.inn.length+b.length≤1000000000)(hm:s.ms.length≤16)(ho:s.out.length≤1099511627776):
  Calls Tryz.prog 15 #[.pointer (some ⟨C,0,none⟩),.string ⟨b.toArray⟩] w fun e w'=>e=.returned (.tuple #[])∧em P X C w (s.feed b) w':=by
 obtain⟨inn,ms,cur,out,cl⟩:=s;unfold Cs.feed;simp only at hi hm ho⊢;obtain⟨wv,iv,cv,bp,bv,Ms,hr,hb⟩:=h;simp only at hr hb;obtain⟨c0,c1,c2,c3,c8⟩:=dM hr;cases cl with
 |true=>
  have FIN:em P X C w ⟨inn,ms,cur,out,true⟩ w:=⟨P,X,⟨_,_,_,_,_,_,hr,hb⟩,Nx.refl _ _ _⟩;have HF:=hid FIN;rw[if_pos rfl];clear FIN hr hb c1 c2 c3
  go_enter Tryz.func15,Tryz.ntmps15
  go_wp2_with fail
  first
   |refine bodyPost_end (results_none rfl _ _ _) rfl ?_
   |refine aH (results_none rfl _ _ _) rfl ?_
  exact⟨rfl,HF.out⟩
 |false=>
  rw[if_neg (by decide)];have z0:=aj hr 0;have z7:=aj hr 7;have c7:=cval hr 7 I0;have hadd:(⟨inn.toArray⟩:ByteArray)++⟨b.toArray⟩=⟨(inn++b).toArray⟩:=by simp[ByteArray.mk_append_mk]
  have kc:∀W,W.heap[C]?=some (.cells (lC (inn++b) wv iv cv bp bv false) 81 (0,0))→CnB P X C ms (Cs.ids ⟨inn,ms,cur,out,false⟩) cur out wv iv cv bp bv Ms W→Kb X w W→
    Calls Tryz.prog 40 #[.pointer (some ⟨C,0,none⟩)] W fun e w'=>e=.returned (.tuple #[])∧em P X C w (Cs.cut (inn.length+b.length+1) ⟨inn++b,ms,cur,out,false⟩) w':=fun W h1 h2 h3=>by
   have:=wo w0 P X C ⟨inn++b,ms,cur,out,false⟩ W ⟨_,_,_,_,_,_,h1,h2⟩ (hH.to (P:=P) (P':=P) ⟨h3,fun _ _ q=>q,fun _ _ q=>q⟩) (by simpa using hi) hm ho;simp only[bd] at this;exact this.mono fun e w' q=>⟨q.1,em.trans ⟨h3,fun _ _ q=>q,fun _ _ q=>q⟩ q.2⟩
  obtain⟨S',hS'⟩:=nmm (Cs.cut (inn.length+b.length+1) ⟨inn++b,ms,cur,out,false⟩);rw[hS'] at kc⊢;obtain⟨KC,HR,HB⟩:=Ch kc hr hb;clear kc hr hb hS' hH c1 c2 c3
  by_cases hb0:b=[]
  ·subst hb0
   have R1:=cq (i:=0) (u:=.string ⟨(inn++[]).toArray⟩) HR.out;have k1:=KC.out _ R1 (HB.out.put HR.out 0 _) ((Kb.refl X w).set (.inl HB.out.xC) _);rw[List.append_nil] at k1;clear R1
   go_enter Tryz.func15,Tryz.ntmps15
   go_upto_region 4 with fail
   go_wp2_with fail
   refine ag k1 ?_;rintro e w3 ⟨rfl,hT⟩;have HF:=hid hT;clear hT k1 KC HR HB
   go_wp2_with fail
   first
    |refine bodyPost_end (results_none rfl _ _ _) rfl ?_
    |refine aH (results_none rfl _ _ _) rfl ?_
   exact⟨rfl,HF.out⟩
  ·have hbn:(b==[])=false:=aE hb0
   have R1:=cq (i:=0) (u:=.string ⟨(inn++b).toArray⟩) (cq (i:=7) (u:=I0) HR.out);have k1:=KC.out _ R1 ((HB.out.put HR.out 7 _).put (cq (i:=7) (u:=I0) HR.out) 0 _) (((Kb.refl X w).set (.inl HB.out.xC) _).set (.inl HB.out.xC) _);clear R1
   go_enter Tryz.func15,Tryz.ntmps15
   go_upto_region 4 with fail
   go_wp2_with fail
   refine ag k1 ?_;rintro e w3 ⟨rfl,hT⟩;have HF:=hid hT;clear hT k1 KC HR HB
   go_wp2_with fail
   first
    |refine bodyPost_end (results_none rfl _ _ _) rfl ?_
    |refine aH (results_none rfl _ _ _) rfl ?_
   exact⟨rfl,HF.out⟩
def Dc:List UInt8:=[49,46,51,46,54,46,49,46,49,46,56]
def gS(y:Mg):Bool:=y.op==23&&y.oid==Dc
theorem ws(m:Mg)(w:World):Cr 44 #[.agg m.row] w (.bool (gS m)):=by
 have b1:=alb w m.row 33;have t1:=alz w m.row 33;have q1:(w.alloc (.cells m.row 33)).cell? ⟨w.heap.size,1,none⟩=some (.int .i64 m.op):=(aq t1 1).trans rfl;have q21:(w.alloc (.cells m.row 33)).cell? ⟨w.heap.size,21,none⟩=some (.string ⟨m.oid.toArray⟩):=(aq t1 21).trans rfl;obtain⟨D,hD⟩:=nmm m.row;obtain⟨B,hB⟩:=nmm (gS m);rw[hB];have HB:=hid hB;unfold gS at hB;rw[hD] at b1 q1 q21⊢;clear t1 hD hB;obtain⟨eo,heo⟩:=nmm (m.oid==Dc);have he:(m.oid==[49,46,51,46,54,46,49,46,49,46,56])=eo:=heo;have HEO:=hid heo;clear heo
 go_enter Tryz.func44,Tryz.ntmps44
 go_upto_region 1 with fail
 generalize w.alloc (.cells D 33)=w1 at b1 q1 q21⊢
 by_cases h23:m.op=23
 ·have i1:(m.op==23)=true:=by rw[h23];rfl
  obtain rfl:B=eo:=by rw[←HB.out,←HEO.out];unfold gS;rw[i1,Bool.true_and]
  go_wp2_with fail
  go_ret
  exact⟨rfl,b1⟩
 ·have i1:(m.op==23)=false:=aE h23
  obtain rfl:B=false:=by rw[←HB.out];unfold gS;rw[i1,Bool.false_and]
  clear he
  go_wp2_with fail
  go_ret
  exact⟨rfl,b1⟩
def Cs.idle(s:Cs):Prop:=s.cl=true∨s.cur≠none∨s.ms=[]
theorem CL(P X:Nat→Prop)(C:Nat)(s:Cs)(w:World)(h:dc P X C s w)(hidle:s.idle):
  Cr 19 #[.pointer (some ⟨C,0,none⟩)] w (.tuple #[.agg (Mg.row {}),Bf]):=by
 obtain⟨D,hD⟩:=nmm (Zm:Array Value);have hDm:Mg.row {}=D:=hD;have hD1:D.all (·.oneCell')=true:=by rw[←hD];simp[Value.oneCell']
 have hD2:D.size=28:=by rw[←hD];rfl
 rw[hDm];have b1:=alb w Zm 33;have x3:=alz w Zm 33;obtain⟨wv,iv,cv,bp,bv,Ms,hr,hb⟩:=h;obtain⟨inn,ms,cur,out,cl⟩:=s;simp only[Cs.idle] at hidle hr hb;obtain⟨c0,c1,c2,c3,c8⟩:=dM (bk b1 hr);have hcur:=hb.cu;obtain⟨av,cap,rfl⟩:∃a cap,wv=.slice a ms.length cap:=by
  rcases hb.own.2 with⟨hv,h0⟩|⟨g,cap,x,hv,_⟩
  ·exact⟨none,0,by rw[hv,h0]⟩
  ·exact⟨_,cap,hv⟩
 have b3:Below w.heap.size w ((w.alloc (.cells Zm 33)).setRow w.heap.size D):=bm b1 (ah _) D;have e3:=setRow_heap (w.alloc (.cells Zm 33)) w.heap.size _ D _ _ x3;obtain⟨X3,E3,B3,HD,HD1,HD2⟩:=Cy x3 e3 b3 hD hD1 hD2;have HX:Hid (cl=true∨(∃F,cv=.pointer (some ⟨F,0,none⟩))∨(cv=.pointer none∧ms.length=0)):=hid (by
  rcases hidle with q|q|q
  ·exact .inl q
  ·right;left
   cases cur with
   |none=>exact absurd rfl q
   |some c=>obtain⟨F,D,h1,_⟩:=hcur;exact⟨F,h1⟩
  ·cases cur with
   |none=>exact .inr (.inr ⟨hcur,by rw[q];rfl⟩)
   |some c=>obtain⟨F,D,h1,_⟩:=hcur;exact .inr (.inl ⟨F,h1⟩))
 generalize ms.length=nm at c1 HX;clear x3 e3 b3 hD hD1 hD2 hDm b1 hr hb hcur hidle c0 c2
 go_enter Tryz.func19,Tryz.ntmps19
 go_wp2_with fail
 refine wp_loop_rounds 1 ?_;rw[rounds_succ];have FIN:∀w4:World,w4.heap[w.heap.size]?=some (.cells D 33 (0,0))→(Sem.run Tryz.prog (loadVar 33 ⟨w.heap.size,0,none⟩) w4)=.ok (.agg D) w4:=fun w4 e4=>
  aJ (P:=Tryz.prog) w4 w.heap.size 33 33 D (0,0) _ e4 (show Tryz.prog.underlying 33=_ from Tryz.underlying33) (by rfl) (by rw[HD2.out];rfl)
 have HF:=hid FIN;clear FIN;rcases HX.out with rfl|⟨F,rfl⟩|⟨rfl,hn0⟩
 case' inr.inr=>subst hn0;cases cl
 case' inr.inl=>cases cl
 all_goals
  clear HX
  go_wp2_with (refine bh rfl 33 (.tmp 2) (.tmp 44) rfl w.heap.size 33 Zm D (by rfl) (by show Act.eval _ (.tmp 44)=.agg D;rw[←HD.out];rfl) X3.out (by rw[HD2.out];rfl) (by rw[HD2.out];rfl) HD1.out ?_;clear c1 c3 c8;generalize((w.alloc (.cells Zm 33)).setRow w.heap.size D)=w4 at E3 B3⊢;clear X3)
  refine aH (v:=.tuple #[.agg D,Bf]) ?_ rfl ⟨rfl,B3.out⟩
  simp[results,Tryz.f19]
  show((Sem.run Tryz.prog (loadVar 33 ⟨w.heap.size,0,none⟩) w4).andThen fun a w'=>Result.ok (Value.tuple #[a,Bf]) w')=_;rw[HF.out w4 E3.out]
  simp
theorem dc.small{P X:Nat→Prop}{C:Nat}{s:Cs}{w:World}(h:dc P X C s w):dc (fun g=>P g∧g<w.heap.size) X C s w:=by
 obtain⟨wv,iv,cv,bp,bv,Ms,h⟩:=h;exact(h.kept (P':=fun g=>P g∧g<w.heap.size) (X':=X) (fun g hp hl=>⟨rfl,⟨hp,hl⟩,Iff.rfl⟩) (fun g hg=>⟨h.b.xP g hg,h.b.xl g hg⟩) h.b.xl).at
theorem dc.xl{P X:Nat→Prop}{C:Nat}{s:Cs}{w:World}(h:dc P X C s w):∀g,X g→g<w.heap.size:=by
 obtain⟨wv,iv,cv,bp,bv,Ms,h⟩:=h;exact h.b.xl
theorem dc.xC{P X:Nat→Prop}{C:Nat}{s:Cs}{w:World}(h:dc P X C s w):X C:=by
 obtain⟨wv,iv,cv,bp,bv,Ms,h⟩:=h;exact h.b.xC
theorem dc.cells{P X:Nat→Prop}{C:Nat}{s:Cs}{w:World}(h:dc P X C s w):w.cell? ⟨C,8,none⟩=some (.bool s.cl)∧(s.cur=none→w.cell? ⟨C,3,none⟩=some (.pointer none))∧(∃a cap,w.cell? ⟨C,1,none⟩=some (.slice a s.ms.length cap))∧w.frozen? ⟨C,3,none⟩=false:=by
 obtain⟨wv,iv,cv,bp,bv,Ms,h⟩:=h;obtain⟨c0,c1,c2,c3,c8⟩:=dM h.row;refine⟨c8,fun hc=>?_,?_,aj h.row 3⟩
 ·have:=h.b.cu
  rw[hc] at this;rw[c3,show cv=.pointer none from this]
 ·rcases h.b.own.2 with⟨hv,h0⟩|⟨g,cap,x,hv,_⟩
  ·exact⟨none,0,by rw[c1,hv,h0]⟩
  ·exact⟨_,cap,by rw[c1,hv]⟩
theorem dc.setCur{P X:Nat→Prop}{C F:Nat}{s:Cs}{w:World}{D:Array Value}{c:Int×Int}(h:dc P X C s w)(hF:w.heap[F]?=some (.cells D 33 (0,0)))(h0:D[0]?=some (.int .i64 c.1))(h1:D[1]?=some (.int .i64 c.2))(hX:¬X F):
  dc (fun g=>P g∨g=F) X C {s with cur:=some c} (w.setCell ⟨C,3,none⟩ (.pointer (some ⟨F,0,none⟩))):=by
 obtain⟨wv,iv,cv,bp,bv,Ms,h⟩:=h;have k:=(h.more (P':=fun g=>P g∨g=F) fun g=>.inl).b.put h.row 3 (.pointer (some ⟨F,0,none⟩));have hFC:F≠C:=fun e=>hX (e▸h.b.xC)
 exact⟨_,_,_,_,_,_,cq (i:=3) (u:=.pointer (some ⟨F,0,none⟩)) h.row,k.own,k.msg,k.im,k.nd,⟨F,D,rfl,⟨.inr rfl,hX⟩,(heap_setCell_other w ⟨C,3,none⟩ F _ hFC).trans hF,h0,h1⟩,k.bq,k.bw,k.xw,k.xi,k.xb,k.xC,k.xP,k.xl⟩
theorem dc.row{P X:Nat→Prop}{C E:Nat}{s:Cs}{w:World}(h:dc P X C s w)(hE:¬P E)(D:Array Value):dc P X C s (w.setRow E D):=by
 obtain⟨wv,iv,cv,bp,bv,Ms,h⟩:=h;exact(h.kept (P':=P) (X':=X) (fun g hp _=>⟨setRow_other w E g D (fun e=>hE (e▸hp)),hp,Iff.rfl⟩) h.b.xP (fun g hg=>by simpa[World.setRow] using h.b.xl g hg)).at
def Cs.took(s:Cs)(y:Mg×Ls)(r:List (Mg×Ls)):Cs:=Cs.cut (s.inn.length+1) {s with ms:=r,cur:=some (y.1.id,y.1.op)}
def Dd(P X:Nat→Prop)(C:Nat)(w:World)(y:Mg×Ls)(s':Cs)(e:Ending)(w':World):Prop:=
 ∃(m:Mg) (P' X':Nat→Prop),e=.returned (.tuple #[.agg m.row,.bool true])∧m.pl=y.1∧dc P' X' C s' w'∧Nx P X w P' X' w'∧LsP (fun g=>(g<w.heap.size→P g)∧g<w'.heap.size∧¬X' g) w' m y.2
theorem ko(w0:World)(P X:Nat→Prop)(C:Nat)(s:Cs)(y:Mg×Ls)(r:List (Mg×Ls))(w:World)(h:dc P X C s w)(hH:Hm w0 X w)(hcl:s.cl=false)(hcu:s.cur=none)(hms:s.ms=y::r)(hc:gS y.1=false)
  (hi:s.inn.length≤1000000000) (hm:s.ms.length≤16) (ho:s.out.length≤1099511627776):
  Calls Tryz.prog 19 #[.pointer (some ⟨C,0,none⟩)] w (Dd P X C w y (s.took y r)):=by
 have b1:=alb w Zm 33;have x1:=alz w Zm 33;have h1:=h.small.bel b1;have hX:=h.xl;have hxC:=h.xC;obtain⟨c8,c3,⟨av,cap,c1⟩,_⟩:=h1.cells;have c3:=c3 hcu;obtain⟨nm,hnm⟩:∃k,s.ms.length=k+1:=⟨r.length,by rw[hms];rfl⟩;rw[hnm] at c1;rw[hcl] at c8;have hg0:decide (((nm+1:Nat):Int)>0)=true:=aC (by omega);have kd:=sA _ X C s 0 y _ h1 (by rw[hms];rfl) (by omega);rw[show({s with ms:=s.ms.eraseIdx 0}:Cs)={s with ms:=r} by rw[hms];rfl] at kd;obtain⟨HX,HXC,HH,HC,HI,HMS,HO,HCL,HCU⟩:=CE hX hxC hH hc hi (show r.length≤16 by rw[hms] at hm;simp at hm;omega) ho hcl hcu;clear h h1 hX hxC hH hcl hcu hms hc hi hm ho hnm
 go_enter Tryz.func19,Tryz.ntmps19
 go_wp2_with fail
 refine wp_loop_rounds 1 ?_;rw[rounds_succ];generalize w.alloc (.cells Zm 33)=w1 at b1 x1 c1 c3 c8 kd⊢
 go_wp2_with fail
 refine ag kd ?_;rintro e w2 ⟨⟨m,rfl,hpl,hls⟩,h2,k2⟩;have hXE:¬X w.heap.size:=fun q=>by have:=HX.out _ q;omega
 have x2:=k2.at x1 hXE;have b2:Kb X w w2:=(Kb.of b1).trans k2;have hE2:=(gl x2);have hCl:C<w.heap.size:=HX.out C HXC.out;obtain⟨D,hD⟩:=nmm m.row;have hD1:D.all (·.oneCell')=true:=by rw[←hD];exact hls.one
 have hD2:D.size=28:=by rw[←hD];rfl
 have hD0:D[0]?=some (.int .i64 y.1.id):=by rw[←hD,←hpl];rfl
 have hDo:D[1]?=some (.int .i64 y.1.op):=by rw[←hD,←hpl];rfl
 rw[hD];have ki:=fun W=>ws m W
 rw[hD,show gS m=false by rw[←HC.out,←hpl];rfl] at ki;have y3:=alz w2 Zm 33;have g3:Below w2.heap.size w2 ((w2.alloc (.cells Zm 33)).setRow w2.heap.size D):=bm ((aA _ _).alloc (ah _) _) (ah _) D;have e3:=setRow_heap (w2.alloc (.cells Zm 33)) w2.heap.size _ D _ _ y3;have h3:=h2.bel g3;have x3:=bk g3 x2;have k3:Kb X w ((w2.alloc (.cells Zm 33)).setRow w2.heap.size D):=b2.bel g3;obtain⟨Y3,E3,H3,X3,K3,HD,HD0,HDO,HD1,HD2,HPL,HLS,G3,HE2,HCl,B2⟩:=Ds y3 e3 h3 x3 k3 hD hD0 hDo hD1 hD2 hpl hls g3 hE2 hCl b2;clear y3 e3 h3 x3 k3 g3 hD hD0 hDo hD1 hD2 hpl hls h2 k2 kd c1 c3 c8 x1 x2 b1 b2 hg0 hE2 hCl
 go_wp2_with (first
  |(refine bh rfl 33 (.tmp 4) (.tmp 30) rfl w2.heap.size 33 Zm D (by rfl) (by rfl) Y3.out (by rw[HD2.out];rfl) (by rw[HD2.out];rfl) HD1.out ?_;generalize((w2.alloc (.cells Zm 33)).setRow w2.heap.size D)=w3 at E3 H3 X3 K3 G3⊢;clear Y3)
  |(refine bg rfl 33 (.tmp 4) rfl w2.heap.size 33 D (0,0) (by rfl) E3.out _ Tryz.underlying33 rfl (by rw[HD2.out];rfl) ?_))
 refine ag (show Calls _ _ _ _ _ from ki w3) ?_;rintro e w4 ⟨rfl,hb4⟩;have h4:=H3.out.bel hb4;have e4:=bk hb4 E3.out;have x4:=bk hb4 X3.out;have k4:=K3.out.bel hb4;have hFX:¬X w2.heap.size:=fun q=>by have:=HX.out _ q;have:=HE2.out;omega
 obtain⟨d8,d3,_,z3⟩:=h4.cells;have d3:=d3 HCU.out;have h5:=h4.setCur (c:=(y.1.id,y.1.op)) e4 HD0.out HDO.out hFX;have hEC:w.heap.size≠C:=by have:=HCl.out;omega
 have hFC:w2.heap.size≠C:=by have:=HCl.out;have:=HE2.out;omega
 have e5:=(heap_setCell_other w4 ⟨C,3,none⟩ w2.heap.size (.pointer (some ⟨w2.heap.size,0,none⟩)) hFC).trans e4;have x5:=(heap_setCell_other w4 ⟨C,3,none⟩ w.heap.size (.pointer (some ⟨w2.heap.size,0,none⟩)) hEC).trans x4;have k5:Kb X w (w4.setCell ⟨C,3,none⟩ (.pointer (some ⟨w2.heap.size,0,none⟩))):=k4.set (.inl HXC.out) _;obtain⟨H5,E5,X5,K5⟩:=Ci h5 e5 x5 k5;clear h4 h5 e4 e5 x4 x5 k4 k5 hb4 ki d8 H3 E3 X3 K3 G3
 go_wp2_with fail
 generalize w4.setCell ⟨C,3,none⟩ (.pointer (some ⟨w2.heap.size,0,none⟩))=w5 at H5 E5 X5 K5⊢;clear d3 z3;have kc:=wo w0 _ X C _ w5 H5.out (HH.out.to (P:=P) (P':=P) ⟨K5.out,fun _ _ q=>q,fun _ _ q=>q⟩) HI.out (show r.length≤16 from HMS.out) HO.out;refine ag kc ?_;rintro e w6 ⟨rfl,P6,X6,h6,n6⟩;have e6:=n6.kb.at E5.out hFX;have x6:=n6.kb.at X5.out hXE;have hw5:=K5.out.size;have hE5:=(gl X5.out);have hF2:=HE2.out;have hPE:¬P6 w.heap.size:=fun q=>by
  rcases n6.ps _ hE5 q with q|q
  ·exact absurd q.2 (Nat.lt_irrefl _)
  ·omega
 have FIN:Dd P X C w y (s.took y r) (.returned (.tuple #[.agg m.row,.bool true])) (w6.setRow w.heap.size D):=by
  refine⟨m,P6,X6,rfl,HPL.out,h6.row hPE D,⟨(K5.out.step n6.kb fun _ _ q=>q).row (.inr (ah _)) D,fun j hj q=>n6.xs j (by omega) q,fun j hj q=>?_⟩,HLS.out.kept fun g hg hl=>?_⟩
  ·rcases n6.ps j (by omega) q with q|q
   ·exact q.1
   ·omega
  ·have hgl:g<w.heap.size:=hg.1.2
   have hg5:w5.heap[g]?=w2.heap[g]?:=(K5.out.block g hgl hg.2).trans (B2.out.block g hgl hg.2).symm;refine⟨(setRow_other w6 w.heap.size g D (by omega)).trans ((n6.kb.block g (by omega) hg.2).trans hg5),fun _=>hg.1.1,?_,fun q=>hg.2 (n6.xs g (by omega) q)⟩;have q6:=n6.kb.size;have qs:(w6.setRow w.heap.size D).heap.size=w6.heap.size:=by simp[World.setRow]
   omega
 have t7:=setRow_heap w6 w.heap.size _ D _ _ x6;obtain⟨HF,T7,X6',E6⟩:=Ci FIN t7 x6 e6;clear FIN t7 x6 e6 h6 n6 kc H5 E5 X5 K5 hPE hw5 hE5 hF2
 go_wp2_with (first
  |(refine bg rfl 33 (.tmp 4) rfl w2.heap.size 33 D (0,0) (by rfl) E6.out _ Tryz.underlying33 rfl (by rw[HD2.out];rfl) ?_)
  |(refine bh rfl 33 (.tmp 2) (.tmp 43) rfl w.heap.size 33 Zm D (by rfl) (by rfl) X6'.out (by rw[HD2.out];rfl) (by rw[HD2.out];rfl) HD1.out ?_;generalize(w6.setRow w.heap.size D)=w7 at T7 HF⊢))
 refine aH (v:=.tuple #[.agg D,.bool true]) ?_ rfl (by rw[←HD.out];exact HF.out);have hr:=aJ (P:=Tryz.prog) w7 w.heap.size 33 33 D (0,0) _ T7.out (show Tryz.prog.underlying 33=_ from Tryz.underlying33) (by rfl) (by rw[HD2.out];rfl)
 simp[results,Tryz.f19]
 show((Sem.run Tryz.prog (loadVar 33 ⟨w.heap.size,0,none⟩) w7).andThen fun a w'=>Result.ok (Value.tuple #[a,.bool true]) w')=_;rw[hr]
 simp
structure Two (w0:World) (P X:Nat→Prop) (C:Nat) (s:Cs) (P' X':Nat→Prop) (C':Nat) (s':Cs) (w:World):Prop where
 a:dc P X C s w
 b:dc P' X' C' s' w
 m:Hm w0 X w
 m':Hm w0 X' w
 pl:∀g,P g→g<w.heap.size
 pl':∀g,P' g→g<w.heap.size
 d:∀g,P g→¬P' g
theorem dc.xP{P X:Nat→Prop}{C:Nat}{s:Cs}{w:World}(h:dc P X C s w):∀g,X g→P g:=by
 obtain⟨_,_,_,_,_,_,h⟩:=h;exact h.b.xP
theorem Two.swap{w0:World}{P X P' X':Nat→Prop}{C C':Nat}{s s':Cs}{w:World}(h:Two w0 P X C s P' X' C' s' w):Two w0 P' X' C' s' P X C s w:=⟨h.b,h.a,h.m',h.m,h.pl',h.pl,fun g q r=>h.d g r q⟩
theorem Two.bel{w0:World}{P X P' X':Nat→Prop}{C C':Nat}{s s':Cs}{w w':World}(h:Two w0 P X C s P' X' C' s' w)(k:Below w.heap.size w w'):Two w0 P X C s P' X' C' s' w':=
 ⟨h.a.bel k,h.b.bel k,h.m.bels k,h.m'.bels k,fun g q=>Nat.lt_of_lt_of_le (h.pl g q) k.size,fun g q=>Nat.lt_of_lt_of_le (h.pl' g q) k.size,h.d⟩
theorem Two.step{w0:World}{P X P' X' P1 X1:Nat→Prop}{C C':Nat}{s s' t:Cs}{w w1:World}(h:Two w0 P X C s P' X' C' s' w)(hc:dc P1 X1 C t w1)(n:Nx P X w P1 X1 w1):
  Two w0 (fun g=>P1 g∧g<w1.heap.size) X1 C t (fun g=>P' g∧g<w.heap.size) (fun g=>X' g∧g<w.heap.size) C' s' w1:=
 ⟨hc.small,h.b.other n.kb fun g _ hp hx=>h.d g (h.a.xP g hx) hp,h.m.to n,⟨h.m.env,(h.m.to n).bel,fun g q=>h.m'.xs g q.1⟩,fun _ q=>q.2,fun _ q=>Nat.lt_of_lt_of_le q.2 n.kb.size,fun g q r=>h.d g (n.ps g r.2 q.1) r.1⟩
def bF(w0:World)(C:Nat)(s:Cs)(C':Nat)(s':Cs)(w:World):Prop:=∃P X P' X',Two w0 P X C s P' X' C' s' w
theorem bF.bel{w0:World}{C C':Nat}{s s':Cs}{w w':World}(h:bF w0 C s C' s' w)(k:Below w.heap.size w w'):bF w0 C s C' s' w':=by
 obtain⟨P,X,P',X',h⟩:=h;exact⟨P,X,P',X',h.bel k⟩
theorem fl(b r:List UInt8)(h:(bt b).2.2≠20):bt (b++r)=bt b:=by
 match b with
 |[]=>exact absurd rfl h
 |[b0]=>
  by_cases h0:30<b0.toNat% 32
  ·cases r<;>simp[bt,h0]
  ·simp[bt,h0] at h
 |b0::b1::t=>
  unfold bt at h⊢;simp only[List.cons_append] at h⊢
  by_cases h0:30<b0.toNat% 32
  ·simp only[if_pos h0]
  ·simp only[if_neg h0] at h⊢
   by_cases h1:b1.toNat<128
   ·simp only[if_pos h1]
   ·simp only[if_neg h1] at h⊢
    by_cases h2:b1.toNat -128<1∨4<b1.toNat -128
    ·simp only[if_pos h2]
    ·simp only[if_neg h2] at h⊢
     by_cases h3:t.length<b1.toNat -128
     ·simp[h3] at h
     ·have h4:¬(t++r).length<b1.toNat -128:=by simp;omega
      simp only[if_neg h3,if_neg h4,List.take_append_of_le_length (Nat.le_of_not_lt h3)]
theorem es(b r:List UInt8)(h:(eA b).2≠20):eA (b++r)=eA b:=by
 unfold eA at h⊢;rw[fl b r h]
theorem cb(b:List UInt8)(h:(eA b).2=0):2≤(eA b).1:=by have:=mh b h;unfold eA;simp only;omega
theorem am(s:Cs)(y:Mg×Ls):(s.comes y).inn.length≤s.inn.length:=(C3 s y).1
theorem aS:∀(n m:Nat) (s:Cs),s.inn.length<n→s.inn.length<m→Cs.cut n s=Cs.cut m s
 |0,_,s,h,_=>by omega
 |_+1,0,s,_,h=>by omega
 |n+1,m+1,s,hn,hm=>by
  unfold Cs.cut
  split
  ·rfl
  ·split
   ·rfl
   ·split
    ·rfl
    ·rename_i h1 h2 h3
     have hz:(eA s.inn).2=0:=Classical.not_not.1 h3;have hk:=cb _ hz;have hkl:(eA s.inn).1≤s.inn.length:=Nat.le_of_not_lt fun q=>h2 (.inr ⟨hz,q⟩)
     split
     ·rfl
     ·rename_i y hy
      split
      ·rfl
      ·have h4:=am {s with inn:=s.inn.drop (eA s.inn).1} y
       simp only[List.length_drop] at h4;exact aS n m _ (by omega) (by omega)
theorem bZ:∀(n:Nat) (s:Cs),(Cs.cut n s).inn.length≤s.inn.length
 |0,s=>ah _
 |n+1,s=>by
  unfold Cs.cut
  split
  ·exact ah _
  ·split
   ·exact ah _
   ·split
    ·exact Nat.zero_le _
    ·split
     ·exact Nat.zero_le _
     ·rename_i y hy
      split
      ·exact Nat.zero_le _
      ·have h4:=am {s with inn:=s.inn.drop (eA s.inn).1} y
       simp only[List.length_drop] at h4;have:=bZ n (Cs.comes {s with inn:=s.inn.drop (eA s.inn).1} y)
       omega
def Cs.feedF(n:Nat)(s:Cs)(b:List UInt8):Cs:=if s.cl=true then s else Cs.cut n {s with inn:=s.inn++b}
theorem a9(n:Nat)(s:Cs)(h:s.cl=true):Cs.cut n s=s:=by
 cases n with
 |zero=>rfl
 |succ n=>unfold Cs.cut;rw[if_pos (.inl h)]
theorem cr:∀(n N:Nat) (s:Cs) (b:List UInt8),s.cl=false→s.inn.length<n→s.inn.length+b.length<N→Cs.cut N {s with inn:=s.inn++b}=Cs.feedF N (Cs.cut n s) b
 |0,_,s,b,_,h,_=>by omega
 |_,0,s,b,_,_,h=>by omega
 |n+1,N+1,s,b,hc,hn,hN=>by
  have hself:Cs.cut (N+1) {s with inn:=s.inn++b}=Cs.feedF (N+1) s b:=by unfold Cs.feedF;rw[if_neg (by rw[hc];simp)]
  by_cases h1:s.cl=true∨16≤s.ms.length
  ·rw[hself,show Cs.cut (n+1) s=s by conv=>lhs;unfold Cs.cut;rw[if_pos h1]]
  ·by_cases h2:(eA s.inn).2=20∨((eA s.inn).2=0∧s.inn.length<(eA s.inn).1)
   ·rw[hself,show Cs.cut (n+1) s=s by conv=>lhs;unfold Cs.cut;rw[if_neg h1,if_pos h2]]
   ·have h20:(eA s.inn).2≠20:=fun q=>h2 (.inl q)
    have hf:=es s.inn b h20;have h2':¬((eA (s.inn++b)).2=20∨((eA (s.inn++b)).2=0∧(s.inn++b).length<(eA (s.inn++b)).1)):=by
     rw[hf];rintro(q|q)
     ·exact h20 q
     ·exact h2 (.inr ⟨q.1,by have:=q.2;rw[bd] at this;omega⟩)
    by_cases h3:(eA s.inn).2≠0
    ·have e1:Cs.cut (n+1) s=s.gone:=by conv=>lhs;unfold Cs.cut;rw[if_neg h1,if_neg h2,if_pos h3]
     have e2:Cs.cut (N+1) {s with inn:=s.inn++b}=s.gone:=by
      conv=>lhs;unfold Cs.cut
      rw[if_neg h1,if_neg h2',if_pos (by rw[hf];exact h3)]
      rfl
     rw[e1,e2]
     rfl
    ·have hz:(eA s.inn).2=0:=Classical.not_not.1 h3
     have hk:=cb _ hz;have hkl:(eA s.inn).1≤s.inn.length:=Nat.le_of_not_lt fun q=>h2 (.inr ⟨hz,q⟩)
     have ht:(s.inn++b).take (eA s.inn).1=s.inn.take (eA s.inn).1:=List.take_append_of_le_length hkl;have hd:(s.inn++b).drop (eA s.inn).1=s.inn.drop (eA s.inn).1++b:=List.drop_append_of_le_length hkl;cases hr:dy (s.inn.take (eA s.inn).1) with
     |error c=>
      have e1:Cs.cut (n+1) s=s.gone:=by conv=>lhs;unfold Cs.cut;rw[if_neg h1,if_neg h2,if_neg h3,hr]
      have e2:Cs.cut (N+1) {s with inn:=s.inn++b}=s.gone:=by
       conv=>lhs;unfold Cs.cut
       rw[if_neg h1,if_neg h2',if_neg (by rw[hf];exact h3)];simp only[hf,ht,hr]
       rfl
      rw[e1,e2]
      rfl
     |ok y=>
      by_cases hb:s.badB y=true
      ·have e1:Cs.cut (n+1) s=s.gone:=by conv=>lhs;unfold Cs.cut;rw[if_neg h1,if_neg h2,if_neg h3,hr];simp only[hb,if_true]
       have e2:Cs.cut (N+1) {s with inn:=s.inn++b}=s.gone:=by
        conv=>lhs;unfold Cs.cut
        rw[if_neg h1,if_neg h2',if_neg (by rw[hf];exact h3)];simp only[hf,ht,hr];rw[if_pos (show Cs.badB {s with inn:=s.inn++b} y=true from hb)]
        rfl
       rw[e1,e2]
       rfl
      ·have e1:Cs.cut (n+1) s=Cs.cut n ({s with inn:=s.inn.drop (eA s.inn).1}.comes y):=by conv=>lhs;unfold Cs.cut;rw[if_neg h1,if_neg h2,if_neg h3,hr];simp only[if_neg hb]
       have e2:Cs.cut (N+1) {s with inn:=s.inn++b}=Cs.cut N (Cs.comes {s with inn:=s.inn.drop (eA s.inn).1++b} y):=by
        conv=>lhs;unfold Cs.cut
        rw[if_neg h1,if_neg h2',if_neg (by rw[hf];exact h3)];simp only[hf,ht,hr];rw[if_neg (show ¬Cs.badB {s with inn:=s.inn++b} y=true from hb),hd]
       rw[e1,e2];have h4:=am {s with inn:=s.inn.drop (eA s.inn).1} y;simp only[List.length_drop] at h4
       by_cases hs:y.1.op=2
       ·have q:∀t:Cs,t.comes y=t.shut:=fun t=>by unfold Cs.comes;rw[if_pos hs]
        rw[q,q,a9 _ _ rfl,a9 _ _ rfl]
        rfl
       ·have q:Cs.comes {s with inn:=s.inn.drop (eA s.inn).1++b} y={Cs.comes {s with inn:=s.inn.drop (eA s.inn).1} y with inn:=(Cs.comes {s with inn:=s.inn.drop (eA s.inn).1} y).inn++b}:=by
         unfold Cs.comes;rw[if_neg hs,if_neg hs]
         split<;>rfl
        have hcl:(Cs.comes {s with inn:=s.inn.drop (eA s.inn).1} y).cl=false:=by
         unfold Cs.comes;rw[if_neg hs]
         split<;>exact hc
        rw[q,cr n N _ b hcl (by omega) (by omega)];unfold Cs.feedF
        split
        ·rfl
        ·have hle:=bZ n (Cs.comes {s with inn:=s.inn.drop (eA s.inn).1} y)
         exact aS _ _ _ (by simp only[bd];omega) (by simp only[bd];omega)
theorem cc(s:Cs)(a b:List UInt8):(s.feed a).feed b=s.feed (a++b):=by
 unfold Cs.feed
 by_cases hc:s.cl=true
 ·simp[hc]
 ·have hcf:s.cl=false:=by simpa using hc
  rw[if_neg hc,if_neg hc];have h:=cr (s.inn.length+a.length+1) (s.inn.length+(a++b).length+1) {s with inn:=s.inn++a} b hcf (by simp) (by simp;omega);simp only[List.append_assoc] at h;rw[h];unfold Cs.feedF
  split
  ·rfl
  ·have hle:=bZ (s.inn.length+a.length+1) {s with inn:=s.inn++a}
   simp only[bd] at hle;exact aS _ _ _ (by simp only[bd];omega) (by simp only[bd];omega)
theorem hG:Cs.feed {} []={}:=by
 unfold Cs.feed;rw[if_neg (by simp)];show Cs.cut 1 {}=_;unfold Cs.cut;rw[if_neg (by simp),if_pos (.inl (show(eA []).2=20 from rfl))]
theorem iM(P X:Nat→Prop)(C:Nat)(s:Cs)(w:World)(h:dc P X C s w):Cr 16 #[.pointer (some ⟨C,0,none⟩)] w (.bool s.cl):=by
 obtain⟨c8,-⟩:=h.cells;obtain⟨cl,hcl⟩:=nmm s.cl;rw[hcl] at c8⊢;clear h hcl
 go_enter Tryz.func16,Tryz.ntmps16
 go_wp2_with fail
 go_ret
 exact⟨rfl,aA _ _⟩
theorem CM(C:Nat)(w:World):Cr 31 #[.pointer (some ⟨C,0,none⟩)] w (.int .i64 16):=by
 go_enter Tryz.func31,Tryz.ntmps31
 go_wp2_with fail
 go_ret
 exact⟨rfl,aA _ _⟩
theorem xr(P X:Nat→Prop)(C:Nat)(s:Cs)(c:Int×Int)(w:World)(h:dc P X C s w)(hc:s.cur=some c):Cr 30 #[.pointer (some ⟨C,0,none⟩)] w (.int .i64 c.1):=by
 obtain⟨wv,iv,cv,bp,bv,Ms,h⟩:=h;obtain⟨c0,c1,c2,c3,c8⟩:=dM h.row;have hcu:=h.b.cu;rw[hc] at hcu;obtain⟨F,D,rfl,_,hF,h0,_⟩:=hcu;have q0:=(aq hF 0).trans h0;clear h hF c0 c1 c2 c8
 go_enter Tryz.func30,Tryz.ntmps30
 go_wp2_with fail
 go_ret
 exact⟨rfl,aA _ _⟩
theorem Tryz.infoInt:(Tryz.prog.info? 3).map (fun i=>(i.zero,i.size,i.bytes))=some (some (I0),1,8):=by kernel_rfl
def Dz(w:World)(ids:List Int)(v i:Value)(wr:World):Prop:=∃j:Nat,j≤ids.length∧i=.int .i64 (j:Int)∧wr.ownsRow w.heap.size 3 1 v j ((ids.map (Value.int .i64)).take j)∧Below w.heap.size w wr
theorem lY(P X:Nat→Prop)(C:Nat)(s:Cs)(w:World)(h:dc P X C s w)(hlen:s.ms.length≤1000):
  Calls Tryz.prog 20 #[.pointer (some ⟨C,0,none⟩)] w fun e w'=>(∃v,e=.returned v∧w'.ownsRow w.heap.size 3 1 v s.ids.length (s.ids.map (Value.int .i64)))∧Below w.heap.size w w':=by
 obtain⟨i0,hi0,hz0,hz1,hz2⟩:=info_parts Tryz.infoInt;obtain⟨wv,iv,cv,bp,bv,Ms,h⟩:=h;obtain⟨c0,c1,c2,c3,c8⟩:=dM h.row;obtain⟨ids,hI⟩:∃ids,s.ids=ids:=⟨_,rfl⟩;obtain⟨n,hn⟩:=nmm s.ms.length;have hil:ids.length=n:=by rw[←hI,←hn];exact List.length_map _
 have hown:=h.b.own;rw[hn] at hown hlen;obtain⟨av,cap,rfl⟩:∃a cap,wv=.slice a n cap:=by
  rcases hown.2 with⟨hv,h0⟩|⟨g,cap,x,hv,_⟩
  ·exact⟨none,0,by rw[hv,h0]⟩
  ·exact⟨_,cap,hv⟩
 rw[hI];obtain⟨HO,HM,HI,HLN⟩:=Ci hown h.b.msg hI hil;clear h c0 c2 c3 c8 hown hI hn hil
 go_enter Tryz.func20,Tryz.ntmps20
 go_wp2_with fail
 go_loopw [3,13] (fun v i wr=>Dz w ids v i wr) (fun _ i _=>n -(RowKit.intOf i).toNat)
 case atStart=>exact⟨0,Nat.zero_le _,rfl,World.ownsRow_nil _ _ _ _,aA _ _⟩
 case round=>
  obtain⟨j,hj,rfl,hrow,hbe⟩:=hrel;rw[HLN.out] at hj;have hsz:=hbe.size
  by_cases hlt:j<n
  ·have g1:decide ((j:Int)<(n:Int))=true:=aC (by omega)
   obtain⟨g,cap',e0,_⟩:=HO.out.form (by omega)
   injection e0 with ea _ ec
   subst ea;subst ec
   have hjm:j<s.ms.length:=by have h1:=HI.out;have h2:=HLN.out;rw[←h1] at h2;simp only[Cs.ids,List.length_map] at h2;omega
   obtain⟨y,hy⟩:∃y,s.ms[j]?=some y:=⟨_,aM hjm⟩;obtain⟨m,hMi,hpl,hls⟩:=HM.out.get hy;have hkey:ids[j]?=some y.1.id:=by rw[←HI.out];show(s.ms.map (·.1.id))[j]?=_;rw[List.getElem?_map,hy];rfl
   have hown:wr.ownsRow 0 33 28 (.slice (some ⟨g,0,none⟩) n cap) n (cC Ms):=gM HO.out fun b hb=>hbe.block b (HO.out.lt b hb).2
   have hrng:wr.rangeAt g (j*28) m.row.toList:=fun i v hi=>by
    have hil:i<28:=(List.getElem?_eq_some_iff.1 hi).1;have hc:=hown.cells (g:=g) rfl (j*28+i) v (by rw[ie Ms j i m hMi hil];exact hi);rw[show(⟨g,0,none⟩:Addr).add (j*28+i)=⟨g,j*28+i,none⟩ by simp[Addr.add_lit]] at hc;exact hc
   have htk:(ids.map (Value.int .i64)).take (j+1)=(ids.map (Value.int .i64)).take j++[.int .i64 y.1.id]:=by rw[List.take_add_one,List.getElem?_map,hkey];rfl
   obtain⟨D,hD⟩:=nmm m.row;have hD1:D.all (·.oneCell')=true:=by rw[←hD];exact hls.one
   have hD2:D.size=28:=by rw[←hD];rfl
   have hD0:D[0]?=some (.int .i64 y.1.id):=by rw[←hD,←hpl];rfl
   rw[hD] at hrng;have y2:=alz wr Zm 33;have e2:=setRow_heap (wr.alloc (.cells Zm 33)) wr.heap.size _ D _ _ y2;have g2:Below wr.heap.size wr ((wr.alloc (.cells Zm 33)).setRow wr.heap.size D):=bm ((aA _ _).alloc (ah _) _) (ah _) D;have hrow2:=ge hrow g2;have b2:=cM hbe g2;obtain⟨Y2,E2,HR2,B2,HD0,HD1,HD2,HTK,HRN⟩:=CE y2 e2 hrow2 b2 hD0 hD1 hD2 htk hrng;have hk1:((j:Int)<(n:Int)):=by omega
   clear hD hD1 hD2 hD0 hpl hls hMi hy hjm hown htk hkey hrng y2 e2 g2 hrow2 b2 hrow hbe
   go_wp2_with (first
    |(refine wpList_load_mid rfl 33 (.tmp 15) rfl g (j*28) (by rfl) D.toList _ HRN.out Tryz.underlying33 rfl (by rw[Array.length_toList,HD2.out];rfl) ?_;rw[Array.toArray_toList])
    |(refine bh rfl 33 (.tmp 5) (.tmp 16) rfl wr.heap.size 33 Zm D (by rfl) (by rfl) Y2.out (by rw[HD2.out];rfl) (by rw[HD2.out];rfl) HD1.out ?_;generalize((wr.alloc (.cells Zm 33)).setRow wr.heap.size D)=w2 at E2 HR2 B2⊢;clear Y2;have q0:w2.cell? ⟨wr.heap.size,0,none⟩=some (.int .i64 y.1.id):=(aq E2.out 0).trans HD0.out;have hsz2:=B2.out.size;have hr2:=HR2.out)
    |(at_builtin;refine wpList_append_own _ rfl (.tmp 17) (.tmp 20) 47 rfl w.heap.size 3 i0 _ 1 8 Tryz.underlying47 hi0 hz0 hz1 hz2 rfl (by decide) _ _ _ rfl (hr2.alloc _) ⟨w2.heap.size,0,none⟩ 1 1 [.int .i64 y.1.id] rfl rfl (cell_one_new _ _ _) ?d2 ?d3 ?d4 ?d5 ?_))
   case d2=>first|rfl|(intro u hu;simp at hu;subst hu;rfl)
   case d3=>unfold maxLen;omega
   case d4=>omega
   case d5=>first|omega|(simp;omega)
   intro v' w7 ho7 hg7 _;rw[←HTK.out] at ho7;have b7:Below w.heap.size w w7:=(B2.out.alloc hsz2 _).grown hg7 (by simp;omega) (fun k hk=>(hr2.lt k hk).1);have HO7:=hid ho7;clear hg7 ho7 HR2 E2 q0 hr2
   go_wp2_with fail
   go_roundw
   case rel=>exact⟨j+1,by rw[HLN.out];omega,by go_num,HO7.out,b7⟩
   case measure=>simp[RowKit.intOf];omega
  ·obtain rfl:j=n:=by omega
   have g1:decide ((j:Int)<(j:Int))=false:=an (by omega);rw[List.take_of_length_le (by rw[List.length_map,HLN.out];exact ah _)] at hrow;have HR:=hid hrow;clear hrow
   go_wp2_with fail
   go_ret
   exact⟨⟨_,rfl,by rw[HLN.out];exact HR.out⟩,hbe⟩
theorem dc.noCur{P X:Nat→Prop}{C:Nat}{s:Cs}{w:World}(h:dc P X C s w):dc P X C {s with cur:=none} ((w.setCell ⟨C,3,none⟩ (.pointer none)).setCell ⟨C,7,none⟩ (I0)):=by
 obtain⟨wv,iv,cv,bp,bv,Ms,h⟩:=h;have r3:=cq (i:=3) (u:=.pointer none) h.row;have k:=(h.b.put h.row 3 (.pointer none)).put r3 7 (I0);exact⟨_,_,_,_,_,_,cq (i:=7) (u:=I0) r3,k.own,k.msg,k.im,k.nd,rfl,k.bq,k.bw,k.xw,k.xi,k.xb,k.xC,k.xP,k.xl⟩
theorem dc.done{P X:Nat→Prop}{C:Nat}{s:Cs}{w:World}(h:dc P X C s w):em P X C w {s with cur:=none} ((w.setCell ⟨C,3,none⟩ (.pointer none)).setCell ⟨C,7,none⟩ (I0)):=
 ⟨P,X,h.noCur,((Kb.refl X w).set (.inl h.xC) _).set (.inl h.xC) _,fun _ _ q=>q,fun _ _ q=>q⟩
theorem dc.cells2{P X:Nat→Prop}{C:Nat}{s:Cs}{w:World}(h:dc P X C s w){c:Int×Int}(hc:s.cur=some c):(∃F,w.cell? ⟨C,3,none⟩=some (.pointer (some ⟨F,0,none⟩)))∧w.frozen? ⟨C,3,none⟩=false∧w.cell? ⟨C,7,none⟩=some (I0)∧w.frozen? ⟨C,7,none⟩=false:=by
 obtain⟨wv,iv,cv,bp,bv,Ms,h⟩:=h;obtain⟨c0,c1,c2,c3,c8⟩:=dM h.row;have hcu:=h.b.cu;rw[hc] at hcu;obtain⟨F,D,rfl,_,hF,h0,_⟩:=hcu;exact⟨⟨F,c3⟩,aj h.row 3,(aq h.row 7).trans rfl,aj h.row 7⟩
theorem dc.cell3{P X:Nat→Prop}{C:Nat}{s:Cs}{w:World}(h:dc P X C s w)(hc:s.cur=none):w.cell? ⟨C,3,none⟩=some (.pointer none):=by
 obtain⟨_,h3,_⟩:=h.cells;exact h3 hc
theorem f5(P X:Nat→Prop)(C:Nat)(s:Cs)(w:World)(h:dc P X C s w):
  Calls Tryz.prog 21 #[.pointer (some ⟨C,0,none⟩),Sn] w fun e w'=>e=.returned (.tuple #[])∧em P X C w {s with cur:=none} w':=by
 cases hc:s.cur with
 |none=>
  have c3:=h.cell3 hc;have HF:=hid (show em P X C w {s with cur:=none} w from by
   have e:({s with cur:=none}:Cs)=s:=by rw[←hc]
   rw[e];exact⟨P,X,h,Nx.refl _ _ _⟩)
  clear h hc
  go_enter Tryz.func21,Tryz.ntmps21
  go_wp2_with fail
  first
   |refine bodyPost_end (results_none rfl _ _ _) rfl ?_
   |refine aH (results_none rfl _ _ _) rfl ?_
  exact⟨rfl,HF.out⟩
 |some c=>
  obtain⟨⟨F,c3⟩,z3,c7,z7⟩:=h.cells2 hc;have HF:=hid h.done;clear h hc
  go_enter Tryz.func21,Tryz.ntmps21
  go_wp2_with fail
  refine wp_loop_rounds 1 ?_;rw[rounds_succ]
  go_wp2_with fail
  first
   |refine bodyPost_end (results_none rfl _ _ _) rfl ?_
   |refine aH (results_none rfl _ _ _) rfl ?_
  exact⟨rfl,HF.out⟩
theorem ct.drewN{w:World}{v:Value}{l:List (List UInt8)}(h:ct w v l)(n:Nat):ct (w.drewN n) v l:=h
theorem eG.drewN{w:World}{v:Value}{l:List (List UInt8×List (List UInt8))}(h:eG w v l)(n:Nat):eG (w.drewN n) v l:=h
theorem eY.drewN{w:World}{v:Value}{l:List Md}(h:eY w v l)(n:Nat):eY (w.drewN n) v l:=h
theorem ap(v u:Value)(r q:List (List UInt8))(w:World)(h1:ct w v r)(h2:ct w u q)(hl:r.length≤140737488355328)(_hl2:q.length≤140737488355328):
  Calls Tryz.prog 87 #[v,u] w fun e w'=>e=.returned (.bool (decide (r=q)))∧∃m,w'=w.drewN m:=by
 obtain⟨H1,H2⟩:=Cg h1 h2;obtain⟨a1,c1,rfl,hc1,hx1⟩:=h1;obtain⟨a2,c2,rfl,hc2,hx2⟩:=h2;clear hx1 hx2
 by_cases hlen:r.length=q.length
 ·have hq:((r.length:Int)==(q.length:Int))=true:=by rw[hlen];simp
  generalize hA:decide (r=q)=ANS;have HA:=hid hA;clear hA
  go_enter Tryz.func87,Tryz.ntmps87
  go_wp2_with fail
  go_loopw [5] (fun i wr=>∃k m:Nat,i=.int .i64 (k:Int)∧k≤r.length∧wr=w.drewN m∧decide (r.drop k=q.drop k)=ANS) (fun i _=>r.length -(RowKit.intOf i).toNat)
  case atStart=>exact⟨0,0,rfl,by omega,rfl,HA.out⟩
  case round=>
   obtain⟨k,m,rfl,hk,rfl,hans⟩:=hrel;clear HA
   by_cases hkl:k<r.length
   ·have hkl2:k<q.length:=by omega
    obtain⟨x,hx⟩:=nmm (r[k]);obtain⟨y,hy⟩:=nmm (q[k]);have hxk:r[k]?=some x:=by rw[aM hkl,hx]
    have hyk:q[k]?=some y:=by rw[aM hkl2,hy]
    have hr0:r≠[]:=by intro e;rw[e] at hkl;simp at hkl
    have hq0:q≠[]:=by intro e;rw[e] at hkl2;simp at hkl2
    rw[List.drop_eq_getElem_cons hkl,hx,List.drop_eq_getElem_cons hkl2,hy] at hans;obtain⟨a3,cap3,e3,_,hcell⟩:=H1.out;obtain⟨g,o,ha,hcc⟩:=hcell hr0;obtain⟨a4,cap4,e4,_,hcell4⟩:=H2.out;obtain⟨g',o',ha',hcc'⟩:=hcell4 hq0;cases e3;cases e4;subst ha ha';have p1:=hcc k x hxk;have p2:=hcc' k y hyk;clear hcc hcell hcc' hcell4 hxk hyk hx hy;have i1:(k:Int)<(r.length:Int):=by omega
    have i2:(k:Int)<(q.length:Int):=by omega
    have i3:decide ((k:Int)<(r.length:Int))=true:=aC i1
    by_cases hxy:x=y
    ·subst hxy
     have hans2:decide (r.drop (k+1)=q.drop (k+1))=ANS:=by rw[←hans];exact decide_eq_decide.2 (by simp)
     have HS:=hid hans2;clear hans hans2
     go_wp2
     go_quiet (fail)
     go_wp2
     exact⟨⟨k+1,_,by go_num,by omega,rfl,HS.out⟩,by simp[RowKit.intOf];omega⟩
    ·have e:ANS=false:=by rw[←hans];exact an (fun e=>hxy (aN e).1)
     subst e;clear hans;have b1:(x==y)=false:=by simpa using hxy
     clear hxy
     go_wp2
     go_quiet (fail)
     go_wp2
     go_ret
     exact⟨rfl,_,World.drewN_drewN _ _ _⟩
   ·obtain rfl:k=r.length:=by omega
    have e:ANS=true:=by rw[←hans,List.drop_of_length_le (ah _),hlen,List.drop_of_length_le (ah _)];rfl
    subst e
    go_wp2_with fail
    go_ret
    first|exact⟨rfl,_,rfl⟩|exact⟨rfl,_,World.drewN_drewN _ _ _⟩
 ·have hq:((r.length:Int)==(q.length:Int))=false:=by simpa using(fun e=>hlen (by omega))
  have e:decide (r=q)=false:=an (fun e=>hlen (by rw[e]));rw[e]
  go_enter Tryz.func87,Tryz.ntmps87
  go_wp2_with fail
  go_ret
  exact⟨rfl,0,rfl⟩
theorem cy(v u:Value)(r q:List Md)(w:World)(h1:eY w v r)(h2:eY w u q)(hl:r.length≤140737488355328)(_hl2:q.length≤140737488355328)(hr:∀x∈r,x.2.2.length≤140737488355328)(hq:∀x∈q,x.2.2.length≤140737488355328):
  Calls Tryz.prog 88 #[v,u] w fun e w'=>e=.returned (.bool (decide (r=q)))∧∃m,w'=w.drewN m:=by
 obtain⟨H1,H2,H3,H4⟩:=Ci h1 h2 hr hq;clear hr hq;obtain⟨a1,c1,rfl,hc1,hx1⟩:=h1;obtain⟨a2,c2,rfl,hc2,hx2⟩:=h2;clear hx1 hx2
 by_cases hlen:r.length=q.length
 ·have hq:((r.length:Int)==(q.length:Int))=true:=by rw[hlen];simp
  generalize hA:decide (r=q)=ANS;have HA:=hid hA;clear hA
  go_enter Tryz.func88,Tryz.ntmps88
  go_wp2_with fail
  go_loopw [5] (fun i wr=>∃k m:Nat,i=.int .i64 (k:Int)∧k≤r.length∧wr=w.drewN m∧decide (r.drop k=q.drop k)=ANS) (fun i _=>r.length -(RowKit.intOf i).toNat)
  case atStart=>exact⟨0,0,rfl,by omega,rfl,HA.out⟩
  case round=>
   obtain⟨k,m,rfl,hk,rfl,hans⟩:=hrel;clear HA
   by_cases hkl:k<r.length
   ·have hkl2:k<q.length:=by omega
    obtain⟨x,hx⟩:=nmm (r[k]);obtain⟨y,hy⟩:=nmm (q[k]);have hxk:r[k]?=some x:=by rw[aM hkl,hx]
    have hyk:q[k]?=some y:=by rw[aM hkl2,hy]
    have hr0:r≠[]:=by intro e;rw[e] at hkl;simp at hkl
    have hq0:q≠[]:=by intro e;rw[e] at hkl2;simp at hkl2
    have hxl:=H3.out x (List.mem_of_getElem? hxk);have hyl:=H4.out y (List.mem_of_getElem? hyk);rw[List.drop_eq_getElem_cons hkl,hx,List.drop_eq_getElem_cons hkl2,hy] at hans;obtain⟨a3,cap3,e3,_,hcell⟩:=H1.out;obtain⟨g,o,ha,hcc⟩:=hcell hr0;obtain⟨a4,cap4,e4,_,hcell4⟩:=H2.out;obtain⟨g',o',ha',hcc'⟩:=hcell4 hq0;cases e3;cases e4;subst ha ha';obtain⟨p1,p2,z1,p3,hz1⟩:=hcc k x hxk;obtain⟨r1,r2,z2,r3,hz2⟩:=hcc' k y hyk;clear hcc hcell hcc' hcell4 hxk hyk hx hy;have i1:(k:Int)<(r.length:Int):=by omega
    have i2:(k:Int)<(q.length:Int):=by omega
    have i3:decide ((k:Int)<(r.length:Int))=true:=aC i1;have ks:=fun a=>(ap z1 z2 x.2.2 y.2.2 (w.drewN (m+a)) (hz1.drewN _) (hz2.drewN _) hxl hyl).mono (fun e w'' h=>(show e=.returned (.bool (decide (x.2.2=y.2.2)))∧∃n,w''=w.drewN (m+n) from⟨h.1,h.2.elim fun n hn=>⟨a+n,by rw[hn,World.drewN_drewN,Nat.add_assoc]⟩⟩))
    obtain⟨s1,d1,e5,_,_⟩:=hz1;obtain⟨s2,d2,e6,_,_⟩:=hz2;subst e5 e6
    by_cases ho:x.1=y.1
    ·have b1:(x.1==y.1)=true:=by simpa using ho
     have b1n:(x.1 !=y.1)=false:=by simp[ho]
     by_cases ht:x.2.1=y.2.1
     ·have b2:(x.2.1==y.2.1)=true:=by simpa using ht
      have b2n:(x.2.1 !=y.2.1)=false:=by simp[ht]
      by_cases hv:x.2.2=y.2.2
      ·have hxy:x=y:=Prod.ext ho (Prod.ext ht hv)
       rw[aC hv] at ks;have hans2:decide (r.drop (k+1)=q.drop (k+1))=ANS:=by rw[←hans];exact decide_eq_decide.2 (by simp[hxy])
       have HS:=hid hans2;clear hans hans2 ho ht hv hxy
       go_wp2
       go_quiet (exact ks _)
       go_wp2
       exact⟨⟨k+1,_,by go_num,by omega,rfl,HS.out⟩,by simp[RowKit.intOf];omega⟩
      ·have e:ANS=false:=by rw[←hans];exact an (fun e=>hv (by rw[(aN e).1]))
       subst e;rw[an hv] at ks;clear hans ho ht hv
       go_wp2
       go_quiet (exact ks _)
       go_wp2
       go_ret
       first|exact⟨rfl,_,rfl⟩|exact⟨rfl,_,World.drewN_drewN _ _ _⟩
     ·have b2:(x.2.1==y.2.1)=false:=by simpa using ht
      have b2n:(x.2.1 !=y.2.1)=true:=by simp[ht]
      have e:ANS=false:=by rw[←hans];exact an (fun e=>ht (by rw[(aN e).1]))
      subst e;clear hans ho ht ks
      go_wp2
      go_quiet (fail)
      go_wp2
      go_ret
      first|exact⟨rfl,_,rfl⟩|exact⟨rfl,_,World.drewN_drewN _ _ _⟩
    ·have b1:(x.1==y.1)=false:=by simpa using ho
     have b1n:(x.1 !=y.1)=true:=by simp[ho]
     have e:ANS=false:=by rw[←hans];exact an (fun e=>ho (by rw[(aN e).1]))
     subst e;clear hans ho ks
     go_wp2
     go_quiet (fail)
     go_wp2
     go_ret
     exact⟨rfl,_,World.drewN_drewN _ _ _⟩
   ·obtain rfl:k=r.length:=by omega
    have e:ANS=true:=by rw[←hans,List.drop_of_length_le (ah _),hlen,List.drop_of_length_le (ah _)];rfl
    subst e
    go_wp2_with fail
    go_ret
    first|exact⟨rfl,_,rfl⟩|exact⟨rfl,_,World.drewN_drewN _ _ _⟩
 ·have hq:((r.length:Int)==(q.length:Int))=false:=by simpa using(fun e=>hlen (by omega))
  have e:decide (r=q)=false:=an (fun e=>hlen (by rw[e]));rw[e]
  go_enter Tryz.func88,Tryz.ntmps88
  go_wp2_with fail
  go_ret
  exact⟨rfl,0,rfl⟩
theorem co(v u:Value)(r q:List (List UInt8×List (List UInt8)))(w:World)(h1:eG w v r)(h2:eG w u q)(hl:r.length≤140737488355328)(_hl2:q.length≤140737488355328)(hr:∀x∈r,x.2.length≤140737488355328)(hq:∀x∈q,x.2.length≤140737488355328):
  Calls Tryz.prog 89 #[v,u] w fun e w'=>e=.returned (.bool (decide (r=q)))∧∃m,w'=w.drewN m:=by
 obtain⟨H1,H2,H3,H4⟩:=Ci h1 h2 hr hq;clear hr hq;obtain⟨a1,c1,rfl,hc1,hx1⟩:=h1;obtain⟨a2,c2,rfl,hc2,hx2⟩:=h2;clear hx1 hx2
 by_cases hlen:r.length=q.length
 ·have hq:((r.length:Int)==(q.length:Int))=true:=by rw[hlen];simp
  generalize hA:decide (r=q)=ANS;have HA:=hid hA;clear hA
  go_enter Tryz.func89,Tryz.ntmps89
  go_wp2_with fail
  go_loopw [5] (fun i wr=>∃k m:Nat,i=.int .i64 (k:Int)∧k≤r.length∧wr=w.drewN m∧decide (r.drop k=q.drop k)=ANS) (fun i _=>r.length -(RowKit.intOf i).toNat)
  case atStart=>exact⟨0,0,rfl,by omega,rfl,HA.out⟩
  case round=>
   obtain⟨k,m,rfl,hk,rfl,hans⟩:=hrel;clear HA
   by_cases hkl:k<r.length
   ·have hkl2:k<q.length:=by omega
    obtain⟨x,hx⟩:=nmm (r[k]);obtain⟨y,hy⟩:=nmm (q[k]);have hxk:r[k]?=some x:=by rw[aM hkl,hx]
    have hyk:q[k]?=some y:=by rw[aM hkl2,hy]
    have hr0:r≠[]:=by intro e;rw[e] at hkl;simp at hkl
    have hq0:q≠[]:=by intro e;rw[e] at hkl2;simp at hkl2
    have hxl:=H3.out x (List.mem_of_getElem? hxk);have hyl:=H4.out y (List.mem_of_getElem? hyk);rw[List.drop_eq_getElem_cons hkl,hx,List.drop_eq_getElem_cons hkl2,hy] at hans;obtain⟨a3,cap3,e3,_,hcell⟩:=H1.out;obtain⟨g,o,ha,hcc⟩:=hcell hr0;obtain⟨a4,cap4,e4,_,hcell4⟩:=H2.out;obtain⟨g',o',ha',hcc'⟩:=hcell4 hq0;cases e3;cases e4;subst ha ha';obtain⟨p1,z1,p3,hz1⟩:=hcc k x hxk;obtain⟨r1,z2,r3,hz2⟩:=hcc' k y hyk;clear hcc hcell hcc' hcell4 hxk hyk hx hy;have i1:(k:Int)<(r.length:Int):=by omega
    have i2:(k:Int)<(q.length:Int):=by omega
    have i3:decide ((k:Int)<(r.length:Int))=true:=aC i1;obtain⟨HZ1,HZ2⟩:=Cg hz1 hz2;obtain⟨s1,d1,e5,_,_⟩:=hz1;obtain⟨s2,d2,e6,_,_⟩:=hz2;subst e5 e6
    by_cases ht:x.1=y.1
    ·have b1:(x.1==y.1)=true:=by simpa using ht
     have b1n:(x.1 !=y.1)=false:=by simp[ht]
     by_cases hv:x.2.length=y.2.length
     ·have b2:((x.2.length:Int)==(y.2.length:Int))=true:=by rw[hv];simp
      have hans2:decide (x.2.drop 0=y.2.drop 0∧r.drop (k+1)=q.drop (k+1))=ANS:=by
       rw[←hans];refine decide_eq_decide.2 ⟨fun h=>?_,fun h=>?_⟩
       ·have:x=y:=Prod.ext ht (by simpa using h.1)
        rw[this,h.2]
       ·have:=aN h
        exact⟨by rw[this.1],this.2⟩
      have HS:=hid hans2;clear hans hans2 ht
      go_wp2
      go_quiet (fail)
      go_wp2
      go_loopw [6] (fun i wr=>∃j m:Nat,i=.int .i64 (j:Int)∧j≤x.2.length∧wr=w.drewN m∧decide (x.2.drop j=y.2.drop j∧r.drop (k+1)=q.drop (k+1))=ANS) (fun i _=>x.2.length -(RowKit.intOf i).toNat)
      case atStart=>exact⟨0,_,rfl,by omega,World.drewN_drewN _ _ _,HS.out⟩
      case round=>
       obtain⟨j,m2,rfl,hj,rfl,hans⟩:=hrel;clear HS
       by_cases hjl:j<x.2.length
       ·have hjl2:j<y.2.length:=by omega
        obtain⟨xv0,hxv⟩:=nmm (x.2[j]);obtain⟨yv0,hyv⟩:=nmm (y.2[j]);have hxk:x.2[j]?=some xv0:=by rw[aM hjl,hxv]
        have hyk:y.2[j]?=some yv0:=by rw[aM hjl2,hyv]
        have hr0:x.2≠[]:=by intro e;rw[e] at hjl;simp at hjl
        have hq0:y.2≠[]:=by intro e;rw[e] at hjl2;simp at hjl2
        rw[List.drop_eq_getElem_cons hjl,hxv,List.drop_eq_getElem_cons hjl2,hyv] at hans;obtain⟨a5,cap5,e5,_,hcell⟩:=HZ1.out;obtain⟨g5,o5,ha,hcc⟩:=hcell hr0;obtain⟨a6,cap6,e6,_,hcell4⟩:=HZ2.out;obtain⟨g6,o6,ha',hcc'⟩:=hcell4 hq0;cases e5;cases e6;subst ha ha';have t1:=hcc j xv0 hxk;have t2:=hcc' j yv0 hyk;clear hcc hcell hcc' hcell4 hxk hyk hxv hyv;have i4:(j:Int)<(x.2.length:Int):=by omega
        have i5:(j:Int)<(y.2.length:Int):=by omega
        have i6:decide ((j:Int)<(x.2.length:Int))=true:=aC i4
        by_cases hxy:xv0=yv0
        ·subst hxy
         have hans2:decide (x.2.drop (j+1)=y.2.drop (j+1)∧r.drop (k+1)=q.drop (k+1))=ANS:=by rw[←hans];exact decide_eq_decide.2 (by simp)
         have HS:=hid hans2;clear hans hans2
         go_wp2
         go_quiet (fail)
         go_wp2
         exact⟨⟨j+1,_,by go_num,by omega,rfl,HS.out⟩,by simp[RowKit.intOf];omega⟩
        ·have e:ANS=false:=by rw[←hans];exact an (fun e=>hxy (aN e.1).1)
         subst e;clear hans;have b3:(xv0==yv0)=false:=by simpa using hxy
         have b3n:(xv0 !=yv0)=true:=by simp[hxy]
         clear hxy
         go_wp2
         go_quiet (fail)
         go_wp2
         go_ret
         first|exact⟨rfl,_,rfl⟩|exact⟨rfl,_,World.drewN_drewN _ _ _⟩
       ·obtain rfl:j=x.2.length:=by omega
        have hans2:decide (r.drop (k+1)=q.drop (k+1))=ANS:=by
         rw[←hans,List.drop_of_length_le (ah _),hv,List.drop_of_length_le (ah _)]
         simp
        have HS:=hid hans2;clear hans hans2
        go_wp2_with fail
        exact⟨⟨k+1,_,by go_num,by omega,rfl,HS.out⟩,by simp[RowKit.intOf];omega⟩
     ·have b2:((x.2.length:Int)==(y.2.length:Int))=false:=by simpa using(fun e=>hv (by omega))
      have e:ANS=false:=by rw[←hans];exact an (fun e=>hv (by rw[(aN e).1]))
      subst e;clear hans ht hv
      go_wp2
      go_quiet (fail)
      go_wp2
      go_ret
      first|exact⟨rfl,_,rfl⟩|exact⟨rfl,_,World.drewN_drewN _ _ _⟩
    ·have b1:(x.1==y.1)=false:=by simpa using ht
     have b1n:(x.1 !=y.1)=true:=by simp[ht]
     have e:ANS=false:=by rw[←hans];exact an (fun e=>ht (by rw[(aN e).1]))
     subst e;clear hans ht
     go_wp2
     go_quiet (fail)
     go_wp2
     go_ret
     exact⟨rfl,_,World.drewN_drewN _ _ _⟩
   ·obtain rfl:k=r.length:=by omega
    have e:ANS=true:=by rw[←hans,List.drop_of_length_le (ah _),hlen,List.drop_of_length_le (ah _)];rfl
    subst e
    go_wp2_with fail
    go_ret
    first|exact⟨rfl,_,rfl⟩|exact⟨rfl,_,World.drewN_drewN _ _ _⟩
 ·have hq:((r.length:Int)==(q.length:Int))=false:=by simpa using(fun e=>hlen (by omega))
  have e:decide (r=q)=false:=an (fun e=>hlen (by rw[e]));rw[e]
  go_enter Tryz.func89,Tryz.ntmps89
  go_wp2_with fail
  go_ret
  exact⟨rfl,0,rfl⟩
theorem af{P:Program}{md:Region.Mode}{ops:Array Oper}{Q:Exit→Act→World→Prop}{S:World→Prop}(i:Nat)(ty:TypeId)(x:Operand)(b o:Nat)(cs:List Value)(d:TypeDesc){oi:Oper}{fuel:Nat}{listed:Array Bool}{a:Act}{w:World}(hi:ops[i]?=some oi)(ho:oi.op=.load ty x)
  (hs:Region.noSelect ops=true) (hf:Region.free md ops listed i=true) (hr:(Region.ready md ops listed).contains i=true) (hQ:∀c a w,Q (.panic c) (a.put oi.dst (.agg cs.toArray)) w→Q (.panic c) a w)
  (hw:Region.wanted oi (yielded ops a.tmps)=true) (hx:a.eval x=.pointer (some ⟨b,o,none⟩)) (hS:∀w,S w→w.rangeAt b o cs) (hu:P.underlying ty=some d) (hd:d.isRow=true) (hn:(P.info? ty).map (·.size)=some cs.length) (hSw:S w)
  (h:∀K':Act→World→Prop,(∀a w,wpAnyH P md ops Q S fuel (listed.setIfInBounds i true) a w→K' a w)→K' (a.put oi.dst (.agg cs.toArray)) w):wpAnyH P md ops Q S (fuel+1) listed a w:=
 wpAnyH_take hi hs hf hr hQ (yieldsIf_load_mid hw ty x ho b o hx cs d hS hu hd hn) hSw (h _ (fun _ _ k=>k))
theorem js{w:World}{g o:Nat}{a b c d:Value}(h:w.cell? ⟨g,o,none⟩=some a∧w.cell? ⟨g,o+1,none⟩=some b∧w.cell? ⟨g,o+2,none⟩=some c∧w.cell? ⟨g,o+3,none⟩=some d):w.rangeAt g o [a,b,c,d]:=by
 obtain⟨h0,h1,h2,h3⟩:=h;intro j v hv
 match j,hv with
 |0,hv=>simp at hv;subst hv;exact h0
 |1,hv=>simp at hv;subst hv;exact h1
 |2,hv=>simp at hv;subst hv;exact h2
 |3,hv=>simp at hv;subst hv;exact h3
 |_+4,hv=>simp at hv
theorem bc(v u:Value)(r:List Ct)(w:World)(h1:ig w v r)(h2:ig w u r)(hl:r.length≤140737488355328):
  Cr 90 #[v,u] w (.bool true):=by
 obtain⟨H1,H2⟩:=Cg h1 h2;obtain⟨a1,c1,rfl,hc1,hx1⟩:=h1;obtain⟨a2,c2,rfl,hc2,hx2⟩:=h2;clear hx1 hx2;have hq:((r.length:Int)==(r.length:Int))=true:=by simp
 go_enter Tryz.func90,Tryz.ntmps90
 go_wp2_with fail
 go_loopw [5] (fun i wr=>∃k:Nat,i=.int .i64 (k:Int)∧k≤r.length∧Below w.heap.size w wr) (fun i _=>r.length -(RowKit.intOf i).toNat)
 case atStart=>exact⟨0,rfl,by omega,aA _ _⟩
 case round=>
  obtain⟨k,rfl,hk,hb⟩:=hrel
  by_cases hkl:k<r.length
  ·obtain⟨x,hx⟩:∃x,r[k]=x:=⟨_,rfl⟩
   have hxk:r[k]?=some x:=by rw[aM hkl,hx]
   have hr0:r≠[]:=by intro e;rw[e] at hkl;simp at hkl
   obtain⟨a3,cap3,e3,_,hcell⟩:=(H1.out).below hb;obtain⟨g,o,ha,hcc⟩:=hcell hr0;obtain⟨a4,cap4,e4,_,hcell4⟩:=(H2.out).below hb;obtain⟨g',o',ha',hcc'⟩:=hcell4 hr0;cases e3;cases e4;subst ha ha';have i1:(k:Int)<(r.length:Int):=by omega
   have i3:decide ((k:Int)<(r.length:Int))=true:=aC i1;have hbs:=hb.size;have R1:wr.rangeAt g (o+k*4) [.string ⟨x.oid.toArray⟩,.bool x.crit,.bool x.has,.string ⟨x.value.toArray⟩]:=js (hcc k x hxk);have R2:wr.rangeAt g' (o'+k*4) [.string ⟨x.oid.toArray⟩,.bool x.crit,.bool x.has,.string ⟨x.value.toArray⟩]:=js (hcc' k x hxk);clear hcc hcell hcc' hcell4 hxk hx
   go_upto_region 6 with fail
   refine aR (S:=fun w'=>w'.rangeAt g (o+k*4) [.string ⟨x.oid.toArray⟩,.bool x.crit,.bool x.has,.string ⟨x.value.toArray⟩]∧w'.rangeAt g' (o'+k*4) [.string ⟨x.oid.toArray⟩,.bool x.crit,.bool x.has,.string ⟨x.value.toArray⟩]) (by kernel_rfl) ?_;have TT:wr.drew.rangeAt g (o+k*4) [.string ⟨x.oid.toArray⟩,.bool x.crit,.bool x.has,.string ⟨x.value.toArray⟩]∧wr.drew.rangeAt g' (o'+k*4) [.string ⟨x.oid.toArray⟩,.bool x.crit,.bool x.has,.string ⟨x.value.toArray⟩]:=⟨R1,R2⟩;have hb:=hb.drew
   change wpAnyH _ _ _ _ _ _ _ _ wr.drew
   clear R1 R2;generalize wr.drew=w4 at TT hb⊢;refine tn 0 (.slice (some ⟨g,o,none⟩) r.length c1) rfl (fun w' hS=>by go_simp) TT ?_;refine tn 1 (.int .i64 (k:Int)) rfl (fun w' hS=>by go_simp) TT ?_;refine tp 2 ⟨g,o+k*4,none⟩ rfl TT ?_;refine af 3 105 (.tmp 19) g (o+k*4) [.string ⟨x.oid.toArray⟩,.bool x.crit,.bool x.has,.string ⟨x.value.toArray⟩] _ rfl rfl (by kernel_rfl) (by kernel_rfl) (by kernel_rfl) (fun _ _ _ h=>h) (by rfl) (by rfl) (fun w' hS=>hS.1) Tryz.underlying105 rfl (by rfl) TT (kkn ?_);refine tn 4 (.slice (some ⟨g',o',none⟩) r.length c2) rfl (fun w' hS=>by go_simp) TT ?_;refine tn 5 (.int .i64 (k:Int)) rfl (fun w' hS=>by go_simp) TT ?_;refine tp 6 ⟨g',o'+k*4,none⟩ rfl TT ?_;refine af 7 105 (.tmp 23) g' (o'+k*4) [.string ⟨x.oid.toArray⟩,.bool x.crit,.bool x.has,.string ⟨x.value.toArray⟩] _ rfl rfl (by kernel_rfl) (by kernel_rfl) (by kernel_rfl) (fun _ _ _ h=>h) (by rfl) (by rfl) (fun w' hS=>hS.2) Tryz.underlying105 rfl (by rfl) TT (kkn ?_);refine ao 8 rfl (kks TT ?_);refine ba (by kernel_rfl) ?_ _;simp only[Exit.then];refine‹∀(a:Act) (w:World),Code.wp _ _ _ a w→_› _ _ ?_
   go_wp2_with fail
   exact⟨⟨k+1,by go_num,by omega,hb⟩,by simp[RowKit.intOf];omega⟩
  ·obtain rfl:k=r.length:=by omega
   go_wp2_with fail
   go_ret
   exact⟨rfl,hb⟩
theorem jR{w:World}{g o:Nat}{p:Fl}{u:Value}(h0:w.cell? ⟨g,o,none⟩=some (.int .i64 p.op))(h1:w.cell? ⟨g,o+1,none⟩=some (.int .i64 p.n))(h2:w.cell? ⟨g,o+2,none⟩=some (.string ⟨p.typ.toArray⟩))(h3:w.cell? ⟨g,o+3,none⟩=some (.string ⟨p.value.toArray⟩))(h4:w.cell? ⟨g,o+4,none⟩=some (.string ⟨p.init.toArray⟩))(h5:w.cell? ⟨g,o+5,none⟩=some (.string ⟨p.final.toArray⟩))(h6:w.cell? ⟨g,o+6,none⟩=some u):
  w.rangeAt g o [.int .i64 p.op,.int .i64 p.n,.string ⟨p.typ.toArray⟩,.string ⟨p.value.toArray⟩,.string ⟨p.init.toArray⟩,.string ⟨p.final.toArray⟩,u]:=by
 intro j v hv
 match j,hv with
 |0,hv=>simp at hv;subst hv;exact h0
 |1,hv=>simp at hv;subst hv;exact h1
 |2,hv=>simp at hv;subst hv;exact h2
 |3,hv=>simp at hv;subst hv;exact h3
 |4,hv=>simp at hv;subst hv;exact h4
 |5,hv=>simp at hv;subst hv;exact h5
 |6,hv=>simp at hv;subst hv;exact h6
 |_+7,hv=>simp at hv
theorem aa{w w':World}{g o:Nat}{cs:List Value}(h:w.rangeAt g o cs)(hb:Below w.heap.size w w'):w'.rangeAt g o cs:=fun j v hv=>(hb.cell (bj (h j v hv))).trans (h j v hv)
theorem iN{w w':World}{g:Nat}{x:Obj}(h:Below w.heap.size w w')(hx:w.heap[g]?=some x):w'.heap[g]?=some x:=(h.block g (gl hx)).trans hx
theorem al{B:Nat}{a w:World}(h:Below B a w)(n:Nat):Below B a (w.drewN n):=⟨h.os,h.tape,h.output,h.size,h.block⟩
theorem cp(v u:Value)(r:List Fl)(w:World)(h1:de w v r)(h2:de w u r)(hl:r.length≤140737488355328)(hf:∀x∈r,x.any.length≤140737488355328):
  Cr 86 #[v,u] w (.bool true):=by
 obtain⟨H1,H2⟩:=Cg h1 h2;obtain⟨a1,c1,rfl,hc1,hx1⟩:=h1;obtain⟨a2,c2,rfl,hc2,hx2⟩:=h2;clear hx1 hx2;have H3:=hid hf;clear hf;have hq:((r.length:Int)==(r.length:Int))=true:=by simp
 go_enter Tryz.func86,Tryz.ntmps86
 go_wp2_with fail
 go_loopw [5] (fun i wr=>∃k:Nat,i=.int .i64 (k:Int)∧k≤r.length∧Below w.heap.size w wr) (fun i _=>r.length -(RowKit.intOf i).toNat)
 case atStart=>exact⟨0,rfl,by omega,aA _ _⟩
 case round=>
  obtain⟨k,rfl,hk,hb⟩:=hrel
  by_cases hkl:k<r.length
  ·obtain⟨x,hx⟩:∃x,r[k]=x:=⟨_,rfl⟩
   have hxk:r[k]?=some x:=by rw[aM hkl,hx]
   have hr0:r≠[]:=by intro e;rw[e] at hkl;simp at hkl
   obtain⟨a3,cap3,e3,_,hcell⟩:=(H1.out).below hb;obtain⟨g,o,ha,hcc⟩:=hcell hr0;obtain⟨a4,cap4,e4,_,hcell4⟩:=(H2.out).below hb;obtain⟨g',o',ha',hcc'⟩:=hcell4 hr0;cases e3;cases e4;subst ha ha';have i1:(k:Int)<(r.length:Int):=by omega
   have i3:decide ((k:Int)<(r.length:Int))=true:=aC i1;have hbs:=hb.size;obtain⟨p0,p1,p2,p3,p4,p5,z1,p6,hz1⟩:=hcc k x hxk;obtain⟨r0,r1,r2,r3,r4,r5,z2,r6,hz2⟩:=hcc' k x hxk;have hxl:=H3.out x (List.mem_of_getElem? hxk);have R1:=jR p0 p1 p2 p3 p4 p5 p6;have R2:=jR r0 r1 r2 r3 r4 r5 r6;obtain⟨HZ1,HZ2⟩:=Cg hz1 hz2;obtain⟨s1,d1,e5,_,_⟩:=hz1;obtain⟨s2,d2,e6,_,_⟩:=hz2;subst e5 e6;clear hcc hcell hcc' hcell4 hxk hx p0 p1 p2 p3 p4 p5 p6 r0 r1 r2 r3 r4 r5 r6
   go_upto_region 6 with fail
   refine aR (S:=fun w'=>w'.rangeAt g (o+k*7) [.int .i64 x.op,.int .i64 x.n,.string ⟨x.typ.toArray⟩,.string ⟨x.value.toArray⟩,.string ⟨x.init.toArray⟩,.string ⟨x.final.toArray⟩,.slice s1 x.any.length d1]∧w'.rangeAt g' (o'+k*7) [.int .i64 x.op,.int .i64 x.n,.string ⟨x.typ.toArray⟩,.string ⟨x.value.toArray⟩,.string ⟨x.init.toArray⟩,.string ⟨x.final.toArray⟩,.slice s2 x.any.length d2]) (by kernel_rfl) ?_;have TT:wr.drew.rangeAt g (o+k*7) [.int .i64 x.op,.int .i64 x.n,.string ⟨x.typ.toArray⟩,.string ⟨x.value.toArray⟩,.string ⟨x.init.toArray⟩,.string ⟨x.final.toArray⟩,.slice s1 x.any.length d1]∧wr.drew.rangeAt g' (o'+k*7) [.int .i64 x.op,.int .i64 x.n,.string ⟨x.typ.toArray⟩,.string ⟨x.value.toArray⟩,.string ⟨x.init.toArray⟩,.string ⟨x.final.toArray⟩,.slice s2 x.any.length d2]:=⟨R1,R2⟩;obtain⟨Z1,Z2⟩:=Cg (HZ1.out.below (w':=wr.drew) (aA _ _).drew) (HZ2.out.below (w':=wr.drew) (aA _ _).drew);have hb:=hb.drew
   change wpAnyH _ _ _ _ _ _ _ _ wr.drew
   clear R1 R2 HZ1 HZ2;generalize wr.drew=w4 at TT hb Z1 Z2⊢;have bC0:=aA w4.heap.size w4;refine tn 0 (.slice (some ⟨g,o,none⟩) r.length c1) rfl (fun w' hS=>by go_simp) TT ?_;refine tn 1 (.int .i64 (k:Int)) rfl (fun w' hS=>by go_simp) TT ?_;refine tp 2 ⟨g,o+k*7,none⟩ rfl TT ?_;refine af 3 167 (.tmp 21) g (o+k*7) [.int .i64 x.op,.int .i64 x.n,.string ⟨x.typ.toArray⟩,.string ⟨x.value.toArray⟩,.string ⟨x.init.toArray⟩,.string ⟨x.final.toArray⟩,.slice s1 x.any.length d1] _ rfl rfl (by kernel_rfl) (by kernel_rfl) (by kernel_rfl) (fun _ _ _ h=>h) (by rfl) (by rfl) (fun w' hS=>hS.1) Tryz.underlying167 rfl (by rfl) TT (kkn ?_);refine tn 4 (.slice (some ⟨g',o',none⟩) r.length c2) rfl (fun w' hS=>by go_simp) TT ?_;refine tn 5 (.int .i64 (k:Int)) rfl (fun w' hS=>by go_simp) TT ?_;refine tp 6 ⟨g',o'+k*7,none⟩ rfl TT ?_;refine af 7 167 (.tmp 25) g' (o'+k*7) [.int .i64 x.op,.int .i64 x.n,.string ⟨x.typ.toArray⟩,.string ⟨x.value.toArray⟩,.string ⟨x.init.toArray⟩,.string ⟨x.final.toArray⟩,.slice s2 x.any.length d2] _ rfl rfl (by kernel_rfl) (by kernel_rfl) (by kernel_rfl) (fun _ _ _ h=>h) (by rfl) (by rfl) (fun w' hS=>hS.2) Tryz.underlying167 rfl (by rfl) TT (kkn ?_);have T0:=hid TT;refine fq 8 9 (by kernel_rfl) rfl (by rfl) rfl (by rfl) (fun K hK=>?P1) (fun K hK=>?P2)
   case' P1=>
    have fX0:=alz w4 Zf 167;have m:=alb w4 Zf 167;have bC0:=btt bC0 m;have TT:(w4.alloc (.cells Zf 167)).rangeAt g (o+k*7) [.int .i64 x.op,.int .i64 x.n,.string ⟨x.typ.toArray⟩,.string ⟨x.value.toArray⟩,.string ⟨x.init.toArray⟩,.string ⟨x.final.toArray⟩,.slice s1 x.any.length d1]∧(w4.alloc (.cells Zf 167)).rangeAt g' (o'+k*7) [.int .i64 x.op,.int .i64 x.n,.string ⟨x.typ.toArray⟩,.string ⟨x.value.toArray⟩,.string ⟨x.init.toArray⟩,.string ⟨x.final.toArray⟩,.slice s2 x.any.length d2]:=⟨aa TT.1 m,aa TT.2 m⟩;go_simp;refine hK _ _ TT ?_;clear hK K
    clear m;obtain⟨X,hX⟩:=nmm w4.heap.size;generalize(w4.alloc (.cells Zf 167))=w5 at TT bC0 fX0⊢;rw[hX] at fX0⊢;have lX0:w4.heap.size≤X:=Nat.le_of_eq hX;clear hX;refine ao 9 rfl (fun K hK=>?_);have fY0:=alz w5 Zf 167;have m:=alb w5 Zf 167;have lw0:=bC0.size;have bC0:=btt bC0 m;have lY0:w4.heap.size≤w5.heap.size:=lw0;have TT:(w5.alloc (.cells Zf 167)).rangeAt g (o+k*7) [.int .i64 x.op,.int .i64 x.n,.string ⟨x.typ.toArray⟩,.string ⟨x.value.toArray⟩,.string ⟨x.init.toArray⟩,.string ⟨x.final.toArray⟩,.slice s1 x.any.length d1]∧(w5.alloc (.cells Zf 167)).rangeAt g' (o'+k*7) [.int .i64 x.op,.int .i64 x.n,.string ⟨x.typ.toArray⟩,.string ⟨x.value.toArray⟩,.string ⟨x.init.toArray⟩,.string ⟨x.final.toArray⟩,.slice s2 x.any.length d2]:=⟨aa TT.1 m,aa TT.2 m⟩;have dX0:X≠w5.heap.size:=by have:=(gl fX0);omega
    have fX0:=iN m fX0;go_simp;refine hK _ _ TT ?_;clear hK K
    clear m;obtain⟨Y,hY⟩:=nmm w5.heap.size;generalize(w5.alloc (.cells Zf 167))=w6 at TT bC0 fY0 fX0⊢;rw[hY] at fY0 lY0 dX0⊢
    
    clear hY;refine ao 10 rfl (fun K hK=>?_);have bC0:=bm bC0 lX0 (Xr x s1 d1);have gX0:=setRow_heap w6 X _ (Xr x s1 d1) _ _ fX0;have TT:(w6.setRow X (Xr x s1 d1)).rangeAt g (o+k*7) [.int .i64 x.op,.int .i64 x.n,.string ⟨x.typ.toArray⟩,.string ⟨x.value.toArray⟩,.string ⟨x.init.toArray⟩,.string ⟨x.final.toArray⟩,.slice s1 x.any.length d1]∧(w6.setRow X (Xr x s1 d1)).rangeAt g' (o'+k*7) [.int .i64 x.op,.int .i64 x.n,.string ⟨x.typ.toArray⟩,.string ⟨x.value.toArray⟩,.string ⟨x.init.toArray⟩,.string ⟨x.final.toArray⟩,.slice s2 x.any.length d2]:=⟨aa T0.out.1 bC0,aa T0.out.2 bC0⟩;have fY0:=(setRow_other w6 X Y (Xr x s1 d1) (by omega)).trans fY0;refine db 167 (.tmp 6) (.tmp 22) rfl X 167 _ (Xr x s1 d1) (by rfl) (by rfl) fX0 (by rfl) (by rfl) (by simp[Value.oneCell']) ?_;refine hK _ _ TT ?_;clear hK K
    clear fX0;generalize(w6.setRow X (Xr x s1 d1))=w7 at TT bC0 gX0 fY0⊢;have fX0:=gX0;clear gX0;refine ao 11 rfl (fun K hK=>?_);have bC0:=bm bC0 lY0 (Xr x s2 d2);have gY0:=setRow_heap w7 Y _ (Xr x s2 d2) _ _ fY0;have TT:(w7.setRow Y (Xr x s2 d2)).rangeAt g (o+k*7) [.int .i64 x.op,.int .i64 x.n,.string ⟨x.typ.toArray⟩,.string ⟨x.value.toArray⟩,.string ⟨x.init.toArray⟩,.string ⟨x.final.toArray⟩,.slice s1 x.any.length d1]∧(w7.setRow Y (Xr x s2 d2)).rangeAt g' (o'+k*7) [.int .i64 x.op,.int .i64 x.n,.string ⟨x.typ.toArray⟩,.string ⟨x.value.toArray⟩,.string ⟨x.init.toArray⟩,.string ⟨x.final.toArray⟩,.slice s2 x.any.length d2]:=⟨aa T0.out.1 bC0,aa T0.out.2 bC0⟩;have fX0:=(setRow_other w7 Y X (Xr x s2 d2) (by omega)).trans fX0;refine db 167 (.tmp 7) (.tmp 26) rfl Y 167 _ (Xr x s2 d2) (by rfl) (by rfl) fY0 (by rfl) (by rfl) (by simp[Value.oneCell']) ?_;refine hK _ _ TT ?_;clear hK K
    clear fY0;generalize(w7.setRow Y (Xr x s2 d2))=w8 at TT bC0 gY0 fX0⊢;have fY0:=gY0;clear gY0
   case' P2=>
    have fY0:=alz w4 Zf 167;have m:=alb w4 Zf 167;have bC0:=btt bC0 m;have TT:(w4.alloc (.cells Zf 167)).rangeAt g (o+k*7) [.int .i64 x.op,.int .i64 x.n,.string ⟨x.typ.toArray⟩,.string ⟨x.value.toArray⟩,.string ⟨x.init.toArray⟩,.string ⟨x.final.toArray⟩,.slice s1 x.any.length d1]∧(w4.alloc (.cells Zf 167)).rangeAt g' (o'+k*7) [.int .i64 x.op,.int .i64 x.n,.string ⟨x.typ.toArray⟩,.string ⟨x.value.toArray⟩,.string ⟨x.init.toArray⟩,.string ⟨x.final.toArray⟩,.slice s2 x.any.length d2]:=⟨aa TT.1 m,aa TT.2 m⟩;go_simp;refine hK _ _ TT ?_;clear hK K
    clear m;obtain⟨Y,hY⟩:=nmm w4.heap.size;generalize(w4.alloc (.cells Zf 167))=w5 at TT bC0 fY0⊢;rw[hY] at fY0⊢;have lY0:w4.heap.size≤Y:=Nat.le_of_eq hY;clear hY;refine ao 8 rfl (fun K hK=>?_);have fX0:=alz w5 Zf 167;have m:=alb w5 Zf 167;have lw0:=bC0.size;have bC0:=btt bC0 m;have lX0:w4.heap.size≤w5.heap.size:=lw0;have TT:(w5.alloc (.cells Zf 167)).rangeAt g (o+k*7) [.int .i64 x.op,.int .i64 x.n,.string ⟨x.typ.toArray⟩,.string ⟨x.value.toArray⟩,.string ⟨x.init.toArray⟩,.string ⟨x.final.toArray⟩,.slice s1 x.any.length d1]∧(w5.alloc (.cells Zf 167)).rangeAt g' (o'+k*7) [.int .i64 x.op,.int .i64 x.n,.string ⟨x.typ.toArray⟩,.string ⟨x.value.toArray⟩,.string ⟨x.init.toArray⟩,.string ⟨x.final.toArray⟩,.slice s2 x.any.length d2]:=⟨aa TT.1 m,aa TT.2 m⟩;have dY0:Y≠w5.heap.size:=by have:=(gl fY0);omega
    have fY0:=iN m fY0;go_simp;refine hK _ _ TT ?_;clear hK K
    clear m;obtain⟨X,hX⟩:=nmm w5.heap.size;generalize(w5.alloc (.cells Zf 167))=w6 at TT bC0 fX0 fY0⊢;rw[hX] at fX0 lX0 dY0⊢
    
    clear hX;refine ao 10 rfl (fun K hK=>?_);have bC0:=bm bC0 lX0 (Xr x s1 d1);have gX0:=setRow_heap w6 X _ (Xr x s1 d1) _ _ fX0;have TT:(w6.setRow X (Xr x s1 d1)).rangeAt g (o+k*7) [.int .i64 x.op,.int .i64 x.n,.string ⟨x.typ.toArray⟩,.string ⟨x.value.toArray⟩,.string ⟨x.init.toArray⟩,.string ⟨x.final.toArray⟩,.slice s1 x.any.length d1]∧(w6.setRow X (Xr x s1 d1)).rangeAt g' (o'+k*7) [.int .i64 x.op,.int .i64 x.n,.string ⟨x.typ.toArray⟩,.string ⟨x.value.toArray⟩,.string ⟨x.init.toArray⟩,.string ⟨x.final.toArray⟩,.slice s2 x.any.length d2]:=⟨aa T0.out.1 bC0,aa T0.out.2 bC0⟩;have fY0:=(setRow_other w6 X Y (Xr x s1 d1) (by omega)).trans fY0;refine db 167 (.tmp 6) (.tmp 22) rfl X 167 _ (Xr x s1 d1) (by rfl) (by rfl) fX0 (by rfl) (by rfl) (by simp[Value.oneCell']) ?_;refine hK _ _ TT ?_;clear hK K
    clear fX0;generalize(w6.setRow X (Xr x s1 d1))=w7 at TT bC0 gX0 fY0⊢;have fX0:=gX0;clear gX0;refine ao 11 rfl (fun K hK=>?_);have bC0:=bm bC0 lY0 (Xr x s2 d2);have gY0:=setRow_heap w7 Y _ (Xr x s2 d2) _ _ fY0;have TT:(w7.setRow Y (Xr x s2 d2)).rangeAt g (o+k*7) [.int .i64 x.op,.int .i64 x.n,.string ⟨x.typ.toArray⟩,.string ⟨x.value.toArray⟩,.string ⟨x.init.toArray⟩,.string ⟨x.final.toArray⟩,.slice s1 x.any.length d1]∧(w7.setRow Y (Xr x s2 d2)).rangeAt g' (o'+k*7) [.int .i64 x.op,.int .i64 x.n,.string ⟨x.typ.toArray⟩,.string ⟨x.value.toArray⟩,.string ⟨x.init.toArray⟩,.string ⟨x.final.toArray⟩,.slice s2 x.any.length d2]:=⟨aa T0.out.1 bC0,aa T0.out.2 bC0⟩;have fX0:=(setRow_other w7 Y X (Xr x s2 d2) (by omega)).trans fX0;refine db 167 (.tmp 7) (.tmp 26) rfl Y 167 _ (Xr x s2 d2) (by rfl) (by rfl) fY0 (by rfl) (by rfl) (by simp[Value.oneCell']) ?_;refine hK _ _ TT ?_;clear hK K
    clear fY0;generalize(w7.setRow Y (Xr x s2 d2))=w8 at TT bC0 gY0 fX0⊢;have fY0:=gY0;clear gY0
   all_goals
    refine ba (by kernel_rfl) ?_ _
    try simp only[Exit.then]
    refine‹∀(a:Act) (w:World),Code.wp _ _ _ a w→_› _ _ ?_;have hb:=btt hb bC0;have kt:=fun n=>ap (.slice s1 x.any.length d1) (.slice s2 x.any.length d2) x.any x.any (w8.drewN n) ((Z1.out.below bC0).drewN n) ((Z2.out.below bC0).drewN n) hxl hxl
    simp only[decide_true] at kt;clear TT T0 bC0 Z1 Z2;generalize w8=wF at fX0 fY0 hb kt⊢;have kt:=kt 0;have a0:=cval fX0 0 (.int .i64 x.op);have a1:=cval fX0 1 (.int .i64 x.n);have a2:=cval fX0 2 (.string ⟨x.typ.toArray⟩);have a3:=cval fX0 3 (.string ⟨x.value.toArray⟩);have a4:=cval fX0 4 (.string ⟨x.init.toArray⟩);have a5:=cval fX0 5 (.string ⟨x.final.toArray⟩);have a6:=cval fX0 6 (.slice s1 x.any.length d1:Value);have b0:=cval fY0 0 (.int .i64 x.op);have b1:=cval fY0 1 (.int .i64 x.n);have b2:=cval fY0 2 (.string ⟨x.typ.toArray⟩);have b3:=cval fY0 3 (.string ⟨x.value.toArray⟩);have b4:=cval fY0 4 (.string ⟨x.init.toArray⟩);have b5:=cval fY0 5 (.string ⟨x.final.toArray⟩);have b6:=cval fY0 6 (.slice s2 x.any.length d2:Value);clear fX0 fY0
    go_wp2_with fail
    refine ag kt ?_;rintro e w9 ⟨rfl,n,rfl⟩;have hb9:=al hb n;clear kt a0 a1 a2 a3 a4 a5 a6 b0 b1 b2 b3 b4 b5 b6 hb
    go_wp2_with fail
    exact⟨⟨k+1,by go_num,by omega,hb9⟩,by simp[RowKit.intOf];omega⟩
  ·obtain rfl:k=r.length:=by omega
   go_wp2_with fail
   go_ret
   exact⟨rfl,hb⟩
theorem hJ(v u:Value)(r:List (List UInt8))(w:World)(h1:ct w v r)(h2:ct w u r)(hl:r.length≤140737488355328):
  Calls Tryz.prog 87 #[v,u] w fun e w'=>e=.returned (.bool true)∧Below w.heap.size w w':=
 (ap v u r r w h1 h2 hl hl).mono fun e w' ⟨h,n,hn⟩=>⟨by rw[h];simp,by rw[hn];exact al (aA _ _) n⟩
theorem et(v u:Value)(r:List Md)(w:World)(h1:eY w v r)(h2:eY w u r)(hl:r.length≤140737488355328)(hr:∀x∈r,x.2.2.length≤140737488355328):
  Calls Tryz.prog 88 #[v,u] w fun e w'=>e=.returned (.bool true)∧Below w.heap.size w w':=
 (cy v u r r w h1 h2 hl hl hr hr).mono fun e w' ⟨h,n,hn⟩=>⟨by rw[h];simp,by rw[hn];exact al (aA _ _) n⟩
theorem cz(v u:Value)(r:List (List UInt8×List (List UInt8)))(w:World)(h1:eG w v r)(h2:eG w u r)(hl:r.length≤140737488355328)(hr:∀x∈r,x.2.length≤140737488355328):
  Calls Tryz.prog 89 #[v,u] w fun e w'=>e=.returned (.bool true)∧Below w.heap.size w w':=
 (co v u r r w h1 h2 hl hl hr hr).mono fun e w' ⟨h,n,hn⟩=>⟨by rw[h];simp,by rw[hn];exact al (aA _ _) n⟩
theorem i7(m m':Mg)(l:Ls)(w:World)(hm:MgM w m l)(hm':MgM w m' l)(hp:m'.pl=m.pl)(hk:LsOk m l):
  Cr 47 #[.agg m.row,.agg m'.row] w (.bool true):=by
 obtain⟨k1,k2,k3,k4,k5,E0,E1,E2,E3,E4,E5,E6,E7,E8,E9,E10⟩:=Ds (fun W (h:Below w.heap.size w W)=>cp m.filt m'.filt l.filt W (hm.filt.below h) (hm'.filt.below h) (by have:=hk.filt.1;omega) (fun x hx=>by have:=(hk.filt.2 x hx).1.2.2.2.2.1;omega)) (fun W (h:Below w.heap.size w W)=>hJ m.sel m'.sel l.sel W (hm.sel.below h) (hm'.sel.below h) (by have:=hk.sel;omega)) (fun W (h:Below w.heap.size w W)=>et m.mods m'.mods l.mods W (hm.mods.below h) (hm'.mods.below h) (by have:=hk.mods;omega) (fun x hx=>by have:=(hk.modss x hx).2.1;omega)) (fun W (h:Below w.heap.size w W)=>cz m.attrs m'.attrs l.attrs W (hm.attrs.below h) (hm'.attrs.below h) (by have:=hk.attrs.1;omega) (fun x hx=>by have:=(hk.attrs.2 x hx).2.1;omega)) (fun W (h:Below w.heap.size w W)=>bc m.ctl m'.ctl l.ctl W (hm.ctl.below h) (hm'.ctl.below h) (by have:=hk.ctl;omega)) (show m'.id=m.id from(congrArg Mg.id hp:m'.pl.id=m.pl.id)) (show m'.op=m.op from(congrArg Mg.op hp:m'.pl.op=m.pl.op)) (show m'.dn=m.dn from(congrArg Mg.dn hp:m'.pl.dn=m.pl.dn)) (show m'.ver=m.ver from(congrArg Mg.ver hp:m'.pl.ver=m.pl.ver)) (show m'.sasl=m.sasl from(congrArg Mg.sasl hp:m'.pl.sasl=m.pl.sasl)) (show m'.secret=m.secret from(congrArg Mg.secret hp:m'.pl.secret=m.pl.secret)) (show m'.scope=m.scope from(congrArg Mg.scope hp:m'.pl.scope=m.pl.scope)) (show m'.deref=m.deref from(congrArg Mg.deref hp:m'.pl.deref=m.pl.deref)) (show m'.size=m.size from(congrArg Mg.size hp:m'.pl.size=m.pl.size)) (show m'.time=m.time from(congrArg Mg.time hp:m'.pl.time=m.pl.time)) (show m'.types=m.types from(congrArg Mg.types hp:m'.pl.types=m.pl.types));obtain⟨E15,E16,E17,E18,E19,E20,E21,E22,E23,E24,E25,E26⟩:=CC (show m'.newRdn=m.newRdn from(congrArg Mg.newRdn hp:m'.pl.newRdn=m.pl.newRdn)) (show m'.newSup=m.newSup from(congrArg Mg.newSup hp:m'.pl.newSup=m.pl.newSup)) (show m'.delOld=m.delOld from(congrArg Mg.delOld hp:m'.pl.delOld=m.pl.delOld)) (show m'.hasSup=m.hasSup from(congrArg Mg.hasSup hp:m'.pl.hasSup=m.pl.hasSup)) (show m'.typ=m.typ from(congrArg Mg.typ hp:m'.pl.typ=m.pl.typ)) (show m'.value=m.value from(congrArg Mg.value hp:m'.pl.value=m.pl.value)) (show m'.oid=m.oid from(congrArg Mg.oid hp:m'.pl.oid=m.pl.oid)) (show m'.has=m.has from(congrArg Mg.has hp:m'.pl.has=m.pl.has)) (show m'.target=m.target from(congrArg Mg.target hp:m'.pl.target=m.pl.target)) (show m'.code=m.code from(congrArg Mg.code hp:m'.pl.code=m.pl.code)) (show m'.matched=m.matched from(congrArg Mg.matched hp:m'.pl.matched=m.pl.matched)) (show m'.text=m.text from(congrArg Mg.text hp:m'.pl.text=m.pl.text));clear hm hm' hp hk;have b2:Below w.heap.size w ((w.alloc (.cells m.row 33)).alloc (.cells m'.row 33)):=((aA _ _).alloc (ah _) _).alloc (by simp) _;have fA0:((w.alloc (.cells m.row 33)).alloc (.cells m'.row 33)).heap[w.heap.size]?=some (.cells m.row 33 (0,0)):=(alloc_old _ _ _ (by simp)).trans (bC _ _ _ rfl)
 have fB0:((w.alloc (.cells m.row 33)).alloc (.cells m'.row 33)).heap[w.heap.size+1]?=some (.cells m'.row 33 (0,0)):=bC _ _ _ (by simp)
 go_enter Tryz.func47,Tryz.ntmps47
 refine wp_seq ?_;refine aQ ?_
 iterate 2 (refine aB rfl (kkn ?_))
 generalize((w.alloc (.cells m.row 33)).alloc (.cells m'.row 33))=w2 at b2 fA0 fB0⊢;have c0:=cval fA0 0 (.int .i64 m.id);have d0:=(aq fB0 0).trans (show _=some (.int .i64 m.id:Value) from by rw[←E0.out];rfl);have c1:=cval fA0 1 (.int .i64 m.op);have d1:=(aq fB0 1).trans (show _=some (.int .i64 m.op:Value) from by rw[←E1.out];rfl);have c2:=cval fA0 2 (.string ⟨m.dn.toArray⟩);have d2:=(aq fB0 2).trans (show _=some (.string ⟨m.dn.toArray⟩:Value) from by rw[←E2.out];rfl);have c3:=cval fA0 3 (.int .i64 m.ver);have d3:=(aq fB0 3).trans (show _=some (.int .i64 m.ver:Value) from by rw[←E3.out];rfl);have c4:=cval fA0 4 (.bool m.sasl);have d4:=(aq fB0 4).trans (show _=some (.bool m.sasl:Value) from by rw[←E4.out];rfl);have c5:=cval fA0 5 (.string ⟨m.secret.toArray⟩);have d5:=(aq fB0 5).trans (show _=some (.string ⟨m.secret.toArray⟩:Value) from by rw[←E5.out];rfl);have c6:=cval fA0 6 (.int .i64 m.scope);have d6:=(aq fB0 6).trans (show _=some (.int .i64 m.scope:Value) from by rw[←E6.out];rfl);have c7:=cval fA0 7 (.int .i64 m.deref);have d7:=(aq fB0 7).trans (show _=some (.int .i64 m.deref:Value) from by rw[←E7.out];rfl);have c8:=cval fA0 8 (.int .i64 m.size);have d8:=(aq fB0 8).trans (show _=some (.int .i64 m.size:Value) from by rw[←E8.out];rfl);have c9:=cval fA0 9 (.int .i64 m.time);have d9:=(aq fB0 9).trans (show _=some (.int .i64 m.time:Value) from by rw[←E9.out];rfl);have c10:=cval fA0 10 (.bool m.types);have d10:=(aq fB0 10).trans (show _=some (.bool m.types:Value) from by rw[←E10.out];rfl);have c11:=cval fA0 11 m.filt;have d11:=cval fB0 11 m'.filt;obtain⟨FA,FB⟩:=Cg fA0 fB0;have kc:=k1.out w2 b2;clear fA0 fB0 k1
 go_wp2_with fail
 refine ag kc ?_;rintro e w3 ⟨rfl,hb⟩;have b3:=btt b2 hb;have fA0:=(hb.block _ (gl FA.out)).trans FA.out;have fB0:=(hb.block _ (gl FB.out)).trans FB.out;clear kc hb b2 FA FB c0 d0 c1 d1 c2 d2 c3 d3 c4 d4 c5 d5 c6 d6 c7 d7 c8 d8 c9 d9 c10 d10 c11 d11;have c12:=cval fA0 12 m.sel;have d12:=cval fB0 12 m'.sel;obtain⟨FA,FB⟩:=Cg fA0 fB0;have kc:=k2.out w3 b3;clear fA0 fB0 k2
 go_wp2_with fail
 refine ag kc ?_;rintro e w4 ⟨rfl,hb⟩;have b4:=btt b3 hb;have fA0:=(hb.block _ (gl FA.out)).trans FA.out;have fB0:=(hb.block _ (gl FB.out)).trans FB.out;clear kc hb b3 FA FB c12 d12;have c13:=cval fA0 13 m.mods;have d13:=cval fB0 13 m'.mods;obtain⟨FA,FB⟩:=Cg fA0 fB0;have kc:=k3.out w4 b4;clear fA0 fB0 k3
 go_wp2_with fail
 refine ag kc ?_;rintro e w5 ⟨rfl,hb⟩;have b5:=btt b4 hb;have fA0:=(hb.block _ (gl FA.out)).trans FA.out;have fB0:=(hb.block _ (gl FB.out)).trans FB.out;clear kc hb b4 FA FB c13 d13;have c14:=cval fA0 14 m.attrs;have d14:=cval fB0 14 m'.attrs;obtain⟨FA,FB⟩:=Cg fA0 fB0;have kc:=k4.out w5 b5;clear fA0 fB0 k4
 go_wp2_with fail
 refine ag kc ?_;rintro e w6 ⟨rfl,hb⟩;have b6:=btt b5 hb;have fA0:=(hb.block _ (gl FA.out)).trans FA.out;have fB0:=(hb.block _ (gl FB.out)).trans FB.out;clear kc hb b5 FA FB c14 d14;have c15:=cval fA0 15 (.string ⟨m.newRdn.toArray⟩);have d15:=(aq fB0 15).trans (show _=some (.string ⟨m.newRdn.toArray⟩:Value) from by rw[←E15.out];rfl);have c16:=cval fA0 16 (.string ⟨m.newSup.toArray⟩);have d16:=(aq fB0 16).trans (show _=some (.string ⟨m.newSup.toArray⟩:Value) from by rw[←E16.out];rfl);have c17:=cval fA0 17 (.bool m.delOld);have d17:=(aq fB0 17).trans (show _=some (.bool m.delOld:Value) from by rw[←E17.out];rfl);have c18:=cval fA0 18 (.bool m.hasSup);have d18:=(aq fB0 18).trans (show _=some (.bool m.hasSup:Value) from by rw[←E18.out];rfl);have c19:=cval fA0 19 (.string ⟨m.typ.toArray⟩);have d19:=(aq fB0 19).trans (show _=some (.string ⟨m.typ.toArray⟩:Value) from by rw[←E19.out];rfl);have c20:=cval fA0 20 (.string ⟨m.value.toArray⟩);have d20:=(aq fB0 20).trans (show _=some (.string ⟨m.value.toArray⟩:Value) from by rw[←E20.out];rfl);have c21:=cval fA0 21 (.string ⟨m.oid.toArray⟩);have d21:=(aq fB0 21).trans (show _=some (.string ⟨m.oid.toArray⟩:Value) from by rw[←E21.out];rfl);have c22:=cval fA0 22 (.bool m.has);have d22:=(aq fB0 22).trans (show _=some (.bool m.has:Value) from by rw[←E22.out];rfl);have c23:=cval fA0 23 (.int .i64 m.target);have d23:=(aq fB0 23).trans (show _=some (.int .i64 m.target:Value) from by rw[←E23.out];rfl);have c24:=cval fA0 24 (.int .i64 m.code);have d24:=(aq fB0 24).trans (show _=some (.int .i64 m.code:Value) from by rw[←E24.out];rfl);have c25:=cval fA0 25 (.string ⟨m.matched.toArray⟩);have d25:=(aq fB0 25).trans (show _=some (.string ⟨m.matched.toArray⟩:Value) from by rw[←E25.out];rfl);have c26:=cval fA0 26 (.string ⟨m.text.toArray⟩);have d26:=(aq fB0 26).trans (show _=some (.string ⟨m.text.toArray⟩:Value) from by rw[←E26.out];rfl);have c27:=cval fA0 27 m.ctl;have d27:=cval fB0 27 m'.ctl;obtain⟨FA,FB⟩:=Cg fA0 fB0;have kc:=k5.out w6 b6;clear fA0 fB0 k5
 go_wp2_with fail
 refine ag kc ?_;rintro e w7 ⟨rfl,hb⟩;have b7:=btt b6 hb;have fA0:=(hb.block _ (gl FA.out)).trans FA.out;have fB0:=(hb.block _ (gl FB.out)).trans FB.out;clear kc hb b6 FA FB c15 d15 c16 d16 c17 d17 c18 d18 c19 d19 c20 d20 c21 d21 c22 d22 c23 d23 c24 d24 c25 d25 c26 d26 c27 d27;clear fA0 fB0
 go_wp2_with fail
 first|exact⟨rfl,b7⟩|(go_ret;exact⟨rfl,b7⟩)
def ak(W:World)(v:Value)(ys:List (Mg×Ls)):Prop:=
 ∃a c,v=.slice a ys.length c∧ys.length≤c∧(ys≠[]→∃g o,a=some ⟨g,o,none⟩∧∀j y,ys[j]?=some y→W.rangeAt g (o+j*28) y.1.row.toList∧MgM W y.1 y.2)
theorem ak.below{w w':World}{v:Value}{ys:List (Mg×Ls)}(h:ak w v ys)(hb:Below w.heap.size w w'):ak w' v ys:=by
 obtain⟨a,c,h1,h2,h3⟩:=h;refine⟨a,c,h1,h2,fun hne=>?_⟩;obtain⟨g,o,e,h4⟩:=h3 hne;refine⟨g,o,e,fun j y hj=>?_⟩;obtain⟨q1,q2⟩:=h4 j y hj;exact⟨fun k x hk=>(hb.cell (bj (q1 k x hk))).trans (q1 k x hk),q2.below hb⟩
section
variable {md:Region.Mode} {ops:Array Oper} {Q:Exit→Act→World→Prop} {S:World→Prop} {fuel:Nat} {listed:Array Bool} {a a':Act} {w:World} {v:Value} {o:Oper}
theorem hc(i:Nat){f:FuncId}{args:Array Value}(kc:Calls Tryz.prog f args w fun e w'=>e=.returned v∧Below w.heap.size w w')(ho:ops[i]?=some o)(hT:∀w',Below w.heap.size w w'→S w')
  (h:∀w',Below w.heap.size w w'→wpAnyH Tryz.prog md ops Q S fuel (listed.setIfInBounds i true) a' w')
  (hrun:(execOp a.eval o).run Tryz.prog w=.ok (.enter f args) w:=by first|rfl|go_simp) (ha:a.put o.dst v=a':=by first|(go_simp;rfl)|rfl) (hr:Region.ready md ops listed=[i]:=by kernel_rfl) (hw:Region.wanted o (yielded ops a.tmps)=true:=by rfl):wpAnyH Tryz.prog md ops Q S (fuel+1) listed a w:=
 rn i hr ho hw fun K hK=>by
  unfold Oper.wp;rw[hrun,Oper.upon_enter];refine kc.mono fun e w' hh=>?_
  obtain⟨rfl,hb⟩:=hh;show K _ _;rw[ha];exact hK _ _ (hT w' hb) (h w' hb)
end
theorem cF(v u:Value)(ys zs:List (Mg×Ls))(w:World)(h1:ak w v ys)(h2:ak w u zs)(hl:zs.length≤100000)(hk:∀y∈zs,LsOk y.1 y.2)(hs:ys.map (fun y=>(y.1.pl,y.2))=zs.map fun y=>(y.1.pl,y.2)):
  Cr 25 #[v,u] w (.bool true):=by
 obtain⟨n,hn⟩:=nmm zs.length;have hny:ys.length=n:=by have:=congrArg List.length hs;simpa[hn] using this
 obtain⟨av,c1,rfl⟩:∃a c,v=.slice a n c:=by obtain⟨a,c,q,_⟩:=h1;exact⟨a,c,by rw[q,hny]⟩
 obtain⟨au,c2,rfl⟩:∃a c,u=.slice a n c:=by obtain⟨a,c,q,_⟩:=h2;exact⟨a,c,by rw[q,hn]⟩
 rw[hn] at hl;obtain⟨H1,H2,HK,HS,HN⟩:=Cj h1 h2 hk hs (show _∧_ from⟨hn,hny⟩);clear h1 h2 hk hs hn hny;have hq:((n:Int)==(n:Int))=true:=by simp
 go_enter Tryz.func25,Tryz.ntmps25
 go_wp2_with fail
 go_loopw [5] (fun i wr=>∃k:Nat,i=.int .i64 (k:Int)∧k≤n∧Below w.heap.size w wr) (fun i _=>n -(RowKit.intOf i).toNat)
 case atStart=>exact⟨0,rfl,by omega,aA _ _⟩
 case round=>
  obtain⟨k,rfl,hk,hb⟩:=hrel
  by_cases hkl:k<n
  ·obtain⟨z,hz⟩:∃z,zs[k]?=some z:=⟨_,aM (by rw[HN.out.1];exact hkl)⟩
   obtain⟨y,hy⟩:∃y,ys[k]?=some y:=⟨_,aM (by rw[HN.out.2];exact hkl)⟩;have hyz:(y.1.pl,y.2)=(z.1.pl,z.2):=by
    have:=congrArg (fun l=>l[k]?) HS.out;simp only[List.getElem?_map,hy,hz,aw] at this;exact aD this
   obtain⟨a3,c3,e3,_,hq3⟩:=H1.out;obtain⟨g,o,ha3,hc3⟩:=hq3 (by intro e;rw[e] at hy;cases hy);obtain⟨a4,c4,e4,_,hq4⟩:=H2.out;obtain⟨g',o',ha4,hc4⟩:=hq4 (by intro e;rw[e] at hz;cases hz)
   injection e3 with e5 q1 q2
   injection e4 with e6 q3 q4
   clear q1 q2 q3 q4;rw[ha3] at e5;rw[ha4] at e6;subst e5 e6;obtain⟨r1,m1⟩:=hc3 k y hy;obtain⟨r2,m2⟩:=hc4 k z hz;have R1:wr.rangeAt g (o+k*28) y.1.row.toList:=fun i x hi=>(hb.cell (bj (r1 i x hi))).trans (r1 i x hi)
   have R2:wr.rangeAt g' (o'+k*28) z.1.row.toList:=fun i x hi=>(hb.cell (bj (r2 i x hi))).trans (r2 i x hi)
   have ks:∀W,Below wr.heap.size wr W→Calls Tryz.prog 47 #[.agg y.1.row,.agg z.1.row] W fun e w'=>e=.returned (.bool true)∧Below W.heap.size W w':=fun W hW=>by
    have hp:y.1.pl=z.1.pl:=(aP hyz).1;have hl2:y.2=z.2:=(aP hyz).2;exact i7 y.1 z.1 z.2 W (hl2▸(m1.below hb).below hW) ((m2.below hb).below hW) hp.symm ((HK.out z (List.mem_of_getElem? hz)).to hp)
   obtain⟨L1,hL1⟩:=nmm y.1.row.toList;obtain⟨L2,hL2⟩:=nmm z.1.row.toList;have z1:L1.length=28:=by rw[←hL1];rfl
   have z2:L2.length=28:=by rw[←hL2];rfl
   have x1:y.1.row=L1.toArray:=by rw[←hL1]
   have x2:z.1.row=L2.toArray:=by rw[←hL2]
   rw[hL1] at R1;rw[hL2] at R2;rw[x1,x2] at ks;obtain⟨Z1,Z2,KS⟩:=Ch z1 z2 ks;have i1:(k:Int)<(n:Int):=by omega
   have i3:decide ((k:Int)<(n:Int))=true:=aC i1;have hbs:=hb.size;clear hyz hq3 hq4 hc3 hc4 r1 m1 r2 m2 ks hL1 hL2 x1 x2 z1 z2 hy hz
   go_upto_region 6 with fail
   refine hg (fun w'=>w'.rangeAt g (o+k*28) L1∧w'.rangeAt g' (o'+k*28) L2) ?_;intro w4 hb4 _ _;have TT:w4.rangeAt g (o+k*28) L1∧w4.rangeAt g' (o'+k*28) L2:=⟨aa R1 hb4,aa R2 hb4⟩;refine hu 0 (.slice (some ⟨g,o,none⟩) n c1) rfl TT ?_;refine hu 1 (.int .i64 (k:Int)) rfl TT ?_;refine hu 2 (.pointer (some ⟨g,o+k*28,none⟩)) rfl TT ?_;refine af 3 33 (.tmp 19) g (o+k*28) L1 _ rfl rfl (by kernel_rfl) (by kernel_rfl) (by kernel_rfl) (fun _ _ _ h=>h) (by rfl) (by rfl) (fun w' hS=>hS.1) Tryz.underlying33 rfl (by rw[Z1.out];rfl) TT (kkn ?_);refine hu 4 (.slice (some ⟨g',o',none⟩) n c2) rfl TT ?_;refine hu 5 (.int .i64 (k:Int)) rfl TT ?_;refine hu 6 (.pointer (some ⟨g',o'+k*28,none⟩)) rfl TT ?_;refine af 7 33 (.tmp 23) g' (o'+k*28) L2 _ rfl rfl (by kernel_rfl) (by kernel_rfl) (by kernel_rfl) (fun _ _ _ h=>h) (by rfl) (by rfl) (fun w' hS=>hS.2) Tryz.underlying33 rfl (by rw[Z2.out];rfl) TT (kkn ?_);refine hc 8 (KS.out w4 hb4) rfl (fun w' hb'=>⟨aa TT.1 hb',aa TT.2 hb'⟩) ?_;intro w5 hb5;have T5:w5.rangeAt g (o+k*28) L1∧w5.rangeAt g' (o'+k*28) L2:=⟨aa TT.1 hb5,aa TT.2 hb5⟩;have B5:=cM hb (cM hb4 hb5);refine oS 9 w5 rfl T5 ?_;simp only[Exit.then];refine‹∀(a:Act) (w:World),Code.wp _ _ _ a w→_› _ _ ?_
   go_wp2_with fail
   go_roundw
   case rel=>exact⟨k+1,by go_num,by omega,B5⟩
   case measure=>simp[RowKit.intOf];omega
  ·obtain rfl:k=n:=by omega
   go_wp2_with fail
   go_ret
   exact⟨rfl,hb⟩
def hU(P X:Nat→Prop)(C:Nat)(w:World)(r:Option (Mg×Ls)×Cs)(e:Ending)(w':World):Prop:=
 match r.1 with
 |some y=>Dd P X C w y r.2 e w'
 |none=>e=.returned (.tuple #[.agg (Mg.row {}),Bf])∧em P X C w r.2 w'
def ab(NX:Cs→Option (Mg×Ls)×Cs):Nat→Cs→List (Mg×Ls)×Cs
 |0,s=>([],s)
 |n+1,s=>match NX s with
  |(none,s')=>([],s')
  |(some y,s')=>(y::(ab NX n {s' with cur:=none}).1,(ab NX n {s' with cur:=none}).2)
theorem aL{NX:Cs→Option (Mg×Ls)×Cs}{s s':Cs}(n:Nat)(h:NX s=(none,s')):ab NX (n+1) s=([],s'):=by
 unfold ab;rw[h]
theorem aO{NX:Cs→Option (Mg×Ls)×Cs}{s s':Cs}{y:Mg×Ls}(n:Nat)(h:NX s=(some y,s')):ab NX (n+1) s=(y::(ab NX n {s' with cur:=none}).1,(ab NX n {s' with cur:=none}).2):=by
 conv=>lhs;unfold ab
 rw[h]
theorem Kb.own{X:Nat→Prop}{w w':World}{B:Nat}{e:TypeId}{k n:Nat}{v:Value}{xs:List Value}(h:w.ownsRow B e k v n xs)(kb:Kb X w w')(hv:∀g,v.ownBlock=some g→¬X g):w'.ownsRow B e k v n xs:=
 gM h fun g hg=>kb.block g (h.lt g hg).2 (hv g hg)
structure Rw2 (X Z:Nat→Prop) (B:Nat) (v:Value) (Ms:List Mg) (ys:List (Mg×Ls)) (w:World):Prop where
 own:w.ownsRow B 33 28 v ys.length (cC Ms)
 msg:eq (fun g=>g<w.heap.size∧¬X g∧v.ownBlock≠some g∧Z g) w Ms ys
def fr(I:Cs→Prop)(NX:Cs→Option (Mg×Ls)×Cs)(P X:Nat→Prop)(C:Nat)(w:World)(ANS:List (Mg×Ls)×Cs)(v i:Value)(wr:World):Prop:=
 ∃(j:Nat) (s:Cs) (ys:List (Mg×Ls)) (Ms:List Mg) (P' X':Nat→Prop),j≤400∧i=.int .i64 (j:Int)∧ys.length=j∧dc P' X' C s wr∧Nx P X w P' X' wr∧I s∧
  Rw2 X' (fun g=>g<w.heap.size→P g) w.heap.size v Ms ys wr∧(∀g,v.ownBlock=some g→¬P' g)∧(ys++(ab NX (400 -j) s).1,(ab NX (400 -j) s).2)=ANS
theorem ce(I:Cs→Prop)(NX:Cs→Option (Mg×Ls)×Cs)(w0:World)(P X:Nat→Prop)(C:Nat)(s:Cs)(w:World)(h:dc P X C s w)(hH:Hm w0 X w)(hI:I s)
  (hnx:∀(P X:Nat→Prop) (s:Cs) (w:World),dc P X C s w→Hm w0 X w→I s→Calls Tryz.prog 19 #[.pointer (some ⟨C,0,none⟩)] w (hU P X C w (NX s)))
  (hId:∀s y,I s→(NX s).1=some y→I {(NX s).2 with cur:=none}):
  Calls Tryz.prog 24 #[.pointer (some ⟨C,0,none⟩)] w fun e w'=>∃(v:Value) (Ms:List Mg) (P' X':Nat→Prop),e=.returned v∧dc P' X' C (ab NX 400 s).2 w'∧Nx P X w P' X' w'∧Rw2 X' (fun g=>g<w.heap.size→P g) w.heap.size v Ms (ab NX 400 s).1 w'∧(∀g,v.ownBlock=some g→¬P' g):=by
 obtain⟨i0,hi0,hz0,hz1,hz2⟩:=info_parts Tryz.infoMessage;generalize hPR:((fun e w'=>∃(v:Value) (Ms:List Mg) (P' X':Nat→Prop),e=.returned v∧dc P' X' C (ab NX 400 s).2 w'∧Nx P X w P' X' w'∧Rw2 X' (fun g=>g<w.heap.size→P g) w.heap.size v Ms (ab NX 400 s).1 w'∧(∀g,v.ownBlock=some g→¬P' g)):Ending→World→Prop)=PR;have HPR:=hid hPR;obtain⟨ANS,hA⟩:=nmm (ab NX 400 s);obtain⟨HREL,HA,HH⟩:=Ch (show fr I NX P X C w ANS (Sn) (I0) w from⟨0,s,[],[],P,X,by omega,rfl,rfl,h,Nx.refl _ _ _,hI,⟨World.ownsRow_nil _ _ _ _,trivial⟩,(fun g hg=>by cases hg),by simpa using hA⟩) hA hH;clear hPR hA hH h hI
 go_enter Tryz.func24,Tryz.ntmps24
 go_wp2_with fail
 go_loopw [3,4] (fun v i wr=>fr I NX P X C w ANS v i wr) (fun _ i _=>400 -(RowKit.intOf i).toNat)
 case atStart=>exact HREL.out
 case round=>
  obtain⟨j,s1,ys,Ms,P1,X1,hj,rfl,hjl,hcn,hn1,hI1,hrw,hvP,hans⟩:=hrel;have hvX:∀g,u3.ownBlock=some g→¬X1 g:=fun g hg q=>hvP g hg (by obtain⟨_,_,_,_,_,_,q2⟩:=hcn;exact q2.b.xP g q)
  by_cases hlt:j<400
  ·have g1:decide ((j:Int)<400)=true:=aC (by omega)
   have kn:=hnx P1 X1 s1 wr hcn (HH.out.to hn1) hI1;have hId1:=hId s1;obtain⟨r,hr⟩:=nmm (NX s1);rw[hr] at kn hId1;obtain⟨o,s2⟩:=r
   go_wp2_with fail
   refine ag kn ?_;intro e w2 hT;clear kn;have h40:400 -j=(400 -(j+1))+1:=by omega
   rw[h40] at hans;cases o with
   |none=>
    obtain⟨rfl,P2,X2,hc2,hn2⟩:=hT;obtain⟨Z,hZ⟩:=nmm (Mg.row {});have hZ1:Z.all (·.oneCell')=true:=by rw[←hZ];exact row_one _ ⟨rfl,rfl,rfl,rfl,rfl⟩
    have hZ2:Z.size=28:=by rw[←hZ];rfl
    rw[hZ];have y2:=alz w2 Zm 33;have g2:Below w2.heap.size w2 ((w2.alloc (.cells Zm 33)).setRow w2.heap.size Z):=bm ((aA _ _).alloc (ah _) _) (ah _) Z;have FIN:PR (.returned u3) ((w2.alloc (.cells Zm 33)).setRow w2.heap.size Z):=by
     rw[aL _ hr,List.append_nil] at hans;rw[←HPR.out,HA.out,←hans];have n3:=hn2.bel g2;refine⟨u3,Ms,P2,X2,rfl,hc2.bel g2,hn1.trans n3,⟨n3.kb.own hrw.own hvX,hrw.msg.kept fun g hg hl=>⟨n3.kb.block g hg.1 hg.2.1,Nat.lt_of_lt_of_le hg.1 n3.kb.size,fun q=>hg.2.1 (n3.xs g hg.1 q),hg.2.2⟩⟩,fun g hg q=>hvP g hg (hn2.ps g (hrw.own.lt g hg).2 q)⟩
    obtain⟨HF,HZ1,HZ2,Y2⟩:=Ci FIN hZ1 hZ2 y2;clear FIN hans hrw hcn hn1 hc2 hn2 hZ hZ1 hZ2 y2 g2 hr
    go_wp2_with (refine bh rfl 33 (.tmp 5) (.tmp 14) rfl w2.heap.size 33 Zm Z (by rfl) (by rfl) Y2.out (by rw[HZ2.out];rfl) (by rw[HZ2.out];rfl) HZ1.out ?_;generalize((w2.alloc (.cells Zm 33)).setRow w2.heap.size Z)=w3 at HF⊢;clear Y2)
    exact HF.out
   |some y=>
    obtain⟨m,P2,X2,rfl,hpl,hc2,hn2,hls⟩:=hT;have hId2:=hId1 y hI1 rfl;obtain⟨A,hA⟩:=nmm m.row;have hA1:A.all (·.oneCell')=true:=by rw[←hA];exact hls.one
    have hA2:A.size=28:=by rw[←hA];rfl
    have hbox:=uM m;have hAl:cC (Ms++[m])=cC Ms++A.toList:=by rw[A8,←hA];simp[cC]
    have hA3:A.toList.length=1*28:=by simpa using hA2
    have hA4:∀u∈A.toList,u.oneCell'=true:=fun u hu=>by have:=(Array.all_eq_true_iff_forall_mem.1 hA1) u (by simpa using hu);exact this
    rw[hA] at hbox⊢;have y2:=alz w2 Zm 33;have g2:Below w2.heap.size w2 ((w2.alloc (.cells Zm 33)).setRow w2.heap.size A):=bm ((aA _ _).alloc (ah _) _) (ah _) A;have e2:=setRow_heap (w2.alloc (.cells Zm 33)) w2.heap.size _ A _ _ y2;have n3:=hn2.bel g2;have hc3:=(hc2.small).bel g2;have own3:=n3.kb.own hrw.own hvX;have msg3:eq (fun g=>g<w2.heap.size∧¬X2 g∧u3.ownBlock≠some g∧(g<w.heap.size→P g)) _ (Ms++[m]) (ys++[y]):=(hrw.msg.kept (w':=(w2.alloc (.cells Zm 33)).setRow w2.heap.size A) fun g hg hl=>⟨n3.kb.block g hg.1 hg.2.1,Nat.lt_of_lt_of_le hg.1 hn2.kb.size,fun q=>hg.2.1 (n3.xs g hg.1 q),hg.2.2⟩).app ⟨⟨hpl,hls.kept fun g hg hl=>⟨g2.block g hg.2.1,hg.2.1,hg.2.2,fun q=>hvP g q (hg.1 (hrw.own.lt g q).2),fun hgw=>hn1.ps g hgw (hg.1 (Nat.lt_of_lt_of_le hgw hn1.kb.size))⟩⟩,trivial⟩;obtain⟨HB,E2,Y2,HA1,HA2,HA3,HA4,HAL,HID,HVP,HVX,HRL,HN2⟩:=CD (show _∧_∧_∧_∧_ from⟨hc3,own3,msg3,hn1.trans n3,(fun g hg q=>hvP g hg (hn2.ps g (hrw.own.lt g hg).2 q.1):∀g,u3.ownBlock=some g→¬(P2 g∧g<w2.heap.size))⟩) e2 y2 hA1 hA2 hA3 hA4 hAl hId2 hvP hvX hrw.own hn2;rw[aO _ hr] at hans;obtain⟨HANS,HSZ⟩:=Cg hans (Nat.le_trans hn1.kb.size hn2.kb.size);clear hA hA1 hA2 hA3 hA4 hAl hId2 hvP hvX hrw hn1 hn2 hc2 hcn hls hpl y2 e2 g2 n3 hc3 own3 msg3 hr hans hId1
    go_upto_region 7 with(refine bh rfl 33 (.tmp 5) (.tmp 14) rfl w2.heap.size 33 Zm A (by rfl) (by rfl) Y2.out (by rw[HA2.out];rfl) (by rw[HA2.out];rfl) HA1.out ?_;generalize((w2.alloc (.cells Zm 33)).setRow w2.heap.size A)=w3 at HB E2⊢;clear Y2)
    obtain⟨h3,own3,msg3,n3,nP3⟩:=HB.out;have b4:=alb w3 A 33;obtain⟨X4,OWN4,HS3,HS23,B4⟩:=Cj (show(w3.alloc (.cells A 33)).heap[w3.heap.size]?=some (.cells A 33 (0,0)) from bC _ _ _ rfl) (ge own3 b4) n3.kb.size (show w2.heap.size≤w3.heap.size from Nat.le_of_lt (gl E2.out)) b4;clear h3 own3 msg3 n3 nP3 b4
    go_wp2_with (first
     |(refine bg rfl 33 (.tmp 5) rfl w2.heap.size 33 A (0,0) (by rfl) E2.out _ Tryz.underlying33 rfl (by rw[HA2.out];rfl) ?_)
     |(refine aB rfl fun K hK=>jS (v:=.slice (some ⟨w3.heap.size,0,none⟩) 1 1) (w':=w3.alloc (.cells A 33)) (uS hbox rfl rfl _) (hK _ _ ?_);clear hK K;generalize w3.alloc (.cells A 33)=w4 at X4 OWN4 B4⊢)
     |(at_builtin;refine aB rfl fun K hK=>?_;refine wp_append_lies w4 (.tmp 18) (.tmp 20) 22 rfl w.heap.size 33 i0 _ 28 368 Tryz.underlying22 hi0 hz0 hz1 hz2 rfl (by decide) u3 ys.length (cC Ms) rfl OWN4.out ⟨w3.heap.size,0,none⟩ 1 1 A.toList rfl HA3.out (World.news_of_block X4.out) HA4.out (by omega) (by unfold maxLen;omega) (by omega) (by have h1:=B4.out.size;have h2:=HS3.out;omega) _ rfl ?_;intro g cap w5 hown hgrow hat hlt5;refine hK _ _ ?_;clear hK K))
    obtain⟨h3,own3,msg3,n3,nP3⟩:=HB.out;have h34:=B4.out.size;have kb5:Kb (fun k=>u3.ownBlock=some k) w3 w5:=(Kb.of B4.out).grown hgrow fun k hk=>.inl hk
    have h5:=h3.other kb5 fun k _ hp e=>nP3 k e hp
    have n5:Nx P X w (fun k=>(P2 k∧k<w2.heap.size)∧k<w3.heap.size) (fun k=>X2 k∧k<w3.heap.size) w5:=⟨n3.kb.step kb5 fun k hk e=>absurd (own3.lt k e).1 (by omega),fun k hk q=>n3.xs k hk q.1,fun k hk q=>n3.ps k hk q.1.1⟩;have hgP:¬((P2 g∧g<w2.heap.size)∧g<w3.heap.size):=fun q=>by
     rcases hat with e|e
     ·exact nP3 g e q.1
     ·have:=q.2;omega
    have hgX:¬(X2 g∧g<w3.heap.size):=fun q=>hgP (by obtain⟨_,_,_,_,_,_,q2⟩:=h5;exact q2.b.xP g q)
    have msg5:eq (fun k=>k<w5.heap.size∧¬(X2 k∧k<w3.heap.size)∧k≠g∧(k<w.heap.size→P k)) w5 (Ms++[m]) (ys++[y]):=msg3.kept fun k hk hl=>⟨kb5.block k hl fun e=>hk.2.2.1 e,Nat.lt_of_lt_of_le hl kb5.size,fun q=>hk.2.1 q.1,fun e=>by
     rcases hat with e2|e2
     ·exact hk.2.2.1 (e▸e2)
     ·omega,hk.2.2.2⟩
    have kd:=f5 _ _ C s2 w5 h5;obtain⟨OWN5,MSG5,N5,HG⟩:=Ci hown msg5 n5 (show _∧_ from⟨hgP,hgX⟩);clear h3 own3 msg3 n3 nP3 h34 kb5 h5 n5 hgP hgX msg5 hown hgrow hat HB E2 X4 OWN4 B4;refine ag kd ?_;rintro e w6 ⟨rfl,P6,X6,h6,n6⟩;have hgl:=(OWN5.out.lt g rfl).2;have own6:w6.ownsRow w.heap.size 33 28 (.slice (some ⟨g,0,none⟩) (ys.length+1) cap) (ys++[y]).length (cC (Ms++[m])):=by
     rw[HAL.out,bd];exact n6.kb.own OWN5.out fun k hk=>by cases hk;exact HG.out.2
    have REL:fr I NX P X C w ANS (.slice (some ⟨g,0,none⟩) (ys.length+1) cap) (.int .i64 ((j+1:Nat):Int)) w6:=
     ⟨j+1,{s2 with cur:=none},ys++[y],Ms++[m],P6,X6,by omega,rfl,by rw[bd,hjl];rfl,h6,N5.out.trans n6,HID.out,⟨own6,MSG5.out.kept fun k hk hl=>⟨n6.kb.block k hk.1 hk.2.1,Nat.lt_of_lt_of_le hk.1 n6.kb.size,fun q=>hk.2.1 (n6.xs k hk.1 q),fun e=>hk.2.2.1 (by cases e;rfl),hk.2.2.2⟩⟩,fun k hk=>by cases hk;exact fun q=>HG.out.1 (n6.ps g hgl q),by rw[←HANS.out];simp⟩
    have HR:=hid REL;clear REL own6 kd h6 n6 hgl OWN5 MSG5 N5 HG
    go_wp2_with fail
    go_roundw
    case rel=>have q:=HR.out;rw[hjl] at q;exact q
    case measure=>simp[RowKit.intOf];omega
  ·obtain rfl:j=400:=by omega
   have g1:decide (((400:Nat):Int)<400)=false:=an (by omega);have FIN:PR (.returned u3) wr:=by
    rw[←HPR.out,HA.out,←hans];refine⟨u3,Ms,P1,X1,rfl,hcn,hn1,?_,hvP⟩;rw[show(ab NX (400 -400) s1).1=[] from rfl,List.append_nil];exact hrw
   have HF:=hid FIN;clear FIN hans hrw hcn hn1
   go_wp2_with fail
   exact HF.out
theorem ld(n:Nat)(s:Cs)(h:s.inn=[]):Cs.cut n s=s:=by
 cases n with
 |zero=>rfl
 |succ n=>
  unfold Cs.cut
  split
  ·rfl
  ·rw[h,show eA []=(0,20) from rfl,if_pos (.inl rfl)]
theorem xv{s:Cs}{m:Mg}{l:Ls}(hw:(cR m l).2=0)(hcl:s.cl=false)(hin:s.inn=[])(hms:s.ms.length<16):
  s.feed (cR m l).1=if s.badB (m.pl,l) then Cs.gone {s with inn:=(cR m l).1} else Cs.comes {s with inn:=[]} (m.pl,l):=by
 obtain⟨hv,_,hf,_⟩:=iC hw;have hr:=fo hw;generalize(cR m l).1=b at hf hr;obtain⟨inn,ms,cur,out,cl⟩:=s;simp only at hcl hin hms;subst hcl hin;unfold Cs.feed;rw[if_neg (by simp)];simp only[List.nil_append,aU];have hl:2≤b.length:=by
  have:=mh b (by have:=congrArg Prod.snd hf;exact this);have h1:=congrArg Prod.fst hf;unfold eA at h1;simp only at h1
  omega
 rw[show 0+b.length+1=b.length+1 by omega]
 conv=>lhs;unfold Cs.cut
 rw[if_neg (by rintro(q|q);cases q;exact absurd q (by simp only;omega))];simp only[hf];rw[if_neg (by rintro(q|q);cases q;exact absurd q.2 (Nat.lt_irrefl _)),if_neg (by decide),List.take_length,hr,List.drop_length];simp only;rw[show Cs.badB ⟨b,ms,cur,out,false⟩ (m.pl,l)=Cs.badB ⟨[],ms,cur,out,false⟩ (m.pl,l) from rfl];cases Cs.badB ⟨[],ms,cur,out,false⟩ (m.pl,l) with
 |true=>rfl
 |false=>
  simp only[aW,if_false];refine ld _ _ ?_;unfold Cs.comes
  split
  ·rfl
  ·split
   ·rfl
   ·rfl
theorem sC{s:Cs}{m:Mg}{l:Ls}(hw:(cR m l).2=0)(hcl:s.cl=false)(hin:s.inn=[])(hms:s.ms.length<16)(hb:s.badB (m.pl,l)=false)(h2:m.op≠2)(h16:m.op≠16):
  s.feed (cR m l).1={s with ms:=s.ms++[(m.pl,l)]}:=by
 rw[xv hw hcl hin hms,hb];simp only[aW,if_false];unfold Cs.comes;rw[if_neg (show ¬m.pl.op=2 from h2),if_neg (show ¬m.pl.op=16 from h16)];obtain⟨inn,ms,cur,out,cl⟩:=s;simp only at hin;subst hin
 rfl
def lw:Mg:={id:=1,op:=10,dn:=[100,99,61,122]}
theorem CN:cR lw {}=([48,9,2,1,1,74,4,100,99,61,122],0):=by decide
theorem C4:Cs.feed {} [48,9,2]={inn:=[48,9,2]}:=by
 unfold Cs.feed;rw[if_neg (by decide)];show Cs.cut 4 {inn:=[48,9,2]}=_;unfold Cs.cut;rw[if_neg (by decide),show eA [48,9,2]=(11,0) from by decide,if_pos (.inr ⟨rfl,by decide⟩)]
theorem Dn:Cs.feed {inn:=[48,9,2]} [1,1,74,4,100,99,61,122]={ms:=[(lw,{})]}:=by
 have h:=sC (s:={}) (m:=lw) (l:={}) (by rw[CN]) rfl rfl (by decide) (by decide) (by decide) (by decide);rw[CN] at h;exact h
theorem Dv:LsOk lw {}:=by
 constructor<;>first|exact eC|exact dx|(simp;done)|(simp[lw];done)
theorem C7:Cs.took {ms:=[(lw,{})]} (lw,{}) []={cur:=some (1,10)}:=ld _ _ rfl
theorem lA(w:World)(hE:Env w):Cr 8 #[] w (.bool true):=by
 have kn:=nM w
 go_enter Tryz.func8,Tryz.ntmps8
 go_wp2_with fail
 refine ag kn ?_;rintro e w1 ⟨rfl,h1,b1⟩;have hm1:Hm w (Xc w.heap.size) w1:=⟨hE,b1,fun g hg=>by rw[show g=_ from hg];exact ah _⟩;have kw:=fa lw {} w1 (uA _ _ rfl) Dv hm1.now;rw[CN] at kw;simp only at kw;obtain⟨H1,HM1⟩:=Cg h1 hm1;clear kn h1 hm1 hE;have hx:(⟨#[48,9,2,1,1,74,4,100,99,61,122]⟩:ByteArray).extract 0 3=⟨#[48,9,2]⟩:=by rfl
 have hy:(⟨#[48,9,2,1,1,74,4,100,99,61,122]⟩:ByteArray).extract 3 11=⟨#[1,1,74,4,100,99,61,122]⟩:=by rfl
 go_wp2_with fail
 refine ag kw ?_;rintro e w2 ⟨rfl,hb2⟩;have h2:=H1.out.bel hb2;have m2:=HM1.out.bels hb2;have kf:=gF w _ _ _ {} [48,9,2] w2 h2 m2 (by decide) (by decide) (by decide);rw[C4] at kf;have HM2:=hid m2;clear kw hb2 h2 m2 H1 HM1
 go_wp2_with fail
 refine ag kf ?_;rintro e w3 ⟨rfl,P3,X3,h3,n3⟩;have m3:=HM2.out.to n3;have ki:=CL P3 X3 _ _ w3 h3 (.inr (.inr rfl));obtain⟨Z,hZ⟩:=nmm (Mg.row {});have hZ1:Z.all (·.oneCell')=true:=by rw[←hZ];exact row_one _ ⟨rfl,rfl,rfl,rfl,rfl⟩
 have hZ2:Z.size=28:=by rw[←hZ];rfl
 rw[hZ] at ki;obtain⟨HZ1,HZ2,H3,M3⟩:=Ci hZ1 hZ2 h3 m3;clear kf HM2 h3 n3 m3 hZ hZ1 hZ2 hx
 go_wp2_with fail
 refine ag ki ?_;rintro e w4 ⟨rfl,hb4⟩;have y4:=alz w4 Zm 33;have g4:Below w4.heap.size w4 ((w4.alloc (.cells Zm 33)).setRow w4.heap.size Z):=bm ((aA _ _).alloc (ah _) _) (ah _) Z;have h5:=H3.out.bel (cM hb4 g4);have m5:=M3.out.bels (cM hb4 g4);have kf:=gF w _ _ _ {inn:=[48,9,2]} [1,1,74,4,100,99,61,122] _ h5 m5 (by decide) (by decide) (by decide);rw[Dn] at kf;obtain⟨Y4,H5,M5,KF⟩:=Ci y4 h5 m5 kf;clear ki y4 g4 h5 m5 kf H3 M3 hb4
 go_wp2_with (refine bh rfl 33 (.tmp 4) (.tmp 25) rfl w4.heap.size 33 Zm Z (by rfl) (by rfl) Y4.out (by rw[HZ2.out];rfl) (by rw[HZ2.out];rfl) HZ1.out ?_;generalize((w4.alloc (.cells Zm 33)).setRow w4.heap.size Z)=w5 at H5 M5 KF⊢;clear Y4)
 refine ag (show Calls _ _ _ _ _ from KF.out) ?_;rintro e w6 ⟨rfl,P6,X6,h6,n6⟩;have m6:=M5.out.to n6;have kw:=lY _ _ _ _ w6 h6 (by decide);obtain⟨H6,M6⟩:=Cg h6 m6;clear KF h6 n6 m6 H5 M5 hy
 go_wp2_with fail
 refine ag kw ?_;rintro e w7 ⟨⟨v,rfl,hv⟩,hb7⟩;have h7:=H6.out.bel hb7;have m7:=M6.out.bels hb7;have hv:w7.ownsRow w6.heap.size 3 1 v 1 [.int .i64 1]:=hv;obtain⟨gv,cv,rfl,hgv,hgl⟩:=hv.form (by omega);have q7:w7.cell? ⟨gv,0,none⟩=some (.int .i64 1):=by have:=hv.cells (g:=gv) rfl 0 (.int .i64 1) rfl;simpa[Addr.add] using this
 have kx:=ko w _ _ _ _ (lw,{}) [] w7 h7 m7 rfl rfl rfl (by decide) (by decide) (by decide) (by decide);rw[C7] at kx;have HG:Hid (¬X6 gv∧gv<w7.heap.size):=hid ⟨fun q=>by have:=H6.out.xl gv q;omega,hgl⟩;have M7:=hid m7;clear kw hb7 h7 m7 hv H6 M6 hgv hgl
 go_wp2_with fail
 refine ag kx ?_;rintro e w8 ⟨m,P8,X8,rfl,hpl,h8,n8,hl8⟩;have q8:w8.cell? ⟨gv,0,none⟩=some (.int .i64 1):=(World.cell?_of_block (n8.kb.block gv HG.out.2 HG.out.1)).trans q7;have m8:=M7.out.to n8;obtain⟨D,hD⟩:=nmm m.row;have hD1:D.all (·.oneCell')=true:=by rw[←hD];exact hl8.one
 have hD2:D.size=28:=by rw[←hD];rfl
 have hD3:D[2]?=some (.string ⟨#[100,99,61,122]⟩):=by rw[←hD,show m.row[2]?=some (.string ⟨m.pl.dn.toArray⟩) from rfl,hpl];rfl
 rw[hD];have y8:=alz w8 Zm 33;have e9:=setRow_heap (w8.alloc (.cells Zm 33)) w8.heap.size _ D _ _ y8;have g9:Below w8.heap.size w8 ((w8.alloc (.cells Zm 33)).setRow w8.heap.size D):=bm ((aA _ _).alloc (ah _) _) (ah _) D;obtain⟨Y8,E9,G9,H8,M8,HD1,HD2,HD3⟩:=Cx y8 e9 g9 h8 m8 hD1 hD2 hD3;clear kx y8 e9 g9 h8 n8 m8 hl8 hpl hD hD1 hD2 hD3 M7 q7 HG
 go_wp2_with (refine bh rfl 33 (.tmp 7) (.tmp 36) rfl w8.heap.size 33 Zm D (by rfl) (by rfl) Y8.out (by rw[HD2.out];rfl) (by rw[HD2.out];rfl) HD1.out ?_;have q9:((w8.alloc (.cells Zm 33)).setRow w8.heap.size D).cell? ⟨gv,0,none⟩=some (.int .i64 1):=(G9.out.cell (bj q8)).trans q8;have d9:((w8.alloc (.cells Zm 33)).setRow w8.heap.size D).cell? ⟨w8.heap.size,2,none⟩=some (.string ⟨#[100,99,61,122]⟩):=(aq E9.out 2).trans HD3.out;clear q8;generalize((w8.alloc (.cells Zm 33)).setRow w8.heap.size D)=w9 at E9 G9 q9 d9⊢;clear Y8)
 have h9:=H8.out.bel G9.out;have m9:=M8.out.bels G9.out;have kc:=xr _ _ _ _ (1,10) w9 h9 rfl;refine ag kc ?_;rintro e w10 ⟨rfl,hb10⟩;have kl:=iM _ _ _ _ w10 (h9.bel hb10);have m10:=m9.bels hb10;clear kc h9 m9 H8 M8 E9 G9 q9 d9 hb10
 go_wp2_with fail
 refine ag kl ?_;rintro e w11 ⟨rfl,hb11⟩;have km:=CM w.heap.size w11;have m11:=m10.bels hb11;clear kl m10 hb11
 go_wp2_with fail
 refine ag km ?_;rintro e w12 ⟨rfl,hb12⟩;have m12:=m11.bels hb12;clear km m11 hb12
 go_wp2_with fail
 go_ret
 exact⟨rfl,m12.bel⟩
theorem cK(w:World)(g n j:Nat)(h:j≠g):(w.freeze ⟨g,0,none⟩ n).heap[j]?=w.heap[j]?:=by
 unfold World.freeze
 split
 ·rfl
 ·show(w.heap.modify g _)[j]?=_
  rw[Array.getElem?_modify,if_neg (Ne.symm h)]
theorem e8(w:World)(g n:Nat):(w.freeze ⟨g,0,none⟩ n).os=w.os∧(w.freeze ⟨g,0,none⟩ n).tape=w.tape∧(w.freeze ⟨g,0,none⟩ n).output=w.output∧(w.freeze ⟨g,0,none⟩ n).heap.size=w.heap.size:=by
 unfold World.freeze
 split
 ·exact⟨rfl,rfl,rfl,rfl⟩
 ·exact⟨rfl,rfl,rfl,by simp⟩
def iO(w:World)(v:Value)(w':World):Prop:=w'.os=w.os∧w'.tape=w.tape∧w'.output=w.output∧w.heap.size≤w'.heap.size∧∀j,j<w.heap.size→v.ownBlock≠some j→w'.heap[j]?=w.heap[j]?
theorem f6(C:Nat)(v:Value)(l:List UInt8)(w:World)(c5:w.cell? ⟨C,5,none⟩=some v)(hown:w.ownsRow 0 5 1 v l.length (bV l)):
  Calls Tryz.prog 41 #[.pointer (some ⟨C,4,none⟩)] w fun e w'=>e=.returned (.string ⟨l.toArray⟩)∧iO w v w':=by
 by_cases h0:l=[]
 ·subst h0
  have c5':w.drew.cell? ⟨C,5,none⟩=some v:=c5;have hUS:∀(p:Option Addr) (W:World),(Builtin.unsafeString_ #[117,3] 9 #[.pointer p,I0]).run Tryz.prog W=.ok (.string .empty) W:=fun p W=>Lib.run_unsafeString_none W _ _ _ p
  rcases hown.2 with⟨rfl,_⟩|⟨g,cap,cur,rfl,hbg,hg,hnc,hcm,hcs,htake⟩
  ·have hSD:(Builtin.unsafeSliceData_ #[77] 117 #[Sn]).run Tryz.prog w.drew=.ok (.pointer none) w.drew:=Lib.run_unsafeSliceData_nil _ _ _ _ _
   clear hown c5
   go_enter Tryz.func41,Tryz.ntmps41
   go_wp2
   go_region
   all_goals (go_wp2;go_ret;exact⟨rfl,rfl,rfl,rfl,ah _,fun _ _ _=>rfl⟩)
  ·by_cases hc:cap=0
   ·subst hc
    have hSD:(Builtin.unsafeSliceData_ #[77] 117 #[.slice (some ⟨g,0,none⟩) 0 0]).run Tryz.prog w.drew=.ok (.pointer (some ⟨w.drew.heap.size,0,none⟩)) (w.drew.alloc (.view ⟨g,0,none⟩ 5)):=
     Lib.run_unsafeSliceData_zero w.drew _ _ _ Tryz.underlying117 ⟨g,0,none⟩ 0 (5,cur.size) (by have hg':w.drew.heap[g]?=some (.cells cur 5 (0,0)):=hg;simp[World.shape?,hg'])
    have b1:Below w.heap.size w (w.drew.alloc (.view ⟨g,0,none⟩ 5)):=((aA w.heap.size w).drew).alloc (ah _) _;have c5a:=(b1.cell (bj c5)).trans c5;have c5b:(w.alloc (.view ⟨g,0,none⟩ 5)).cell? ⟨C,5,none⟩=some (.slice (some ⟨g,0,none⟩) 0 0):=c5a;have c5d:(w.alloc (.view ⟨g,0,none⟩ 5)).drew.cell? ⟨C,5,none⟩=some (.slice (some ⟨g,0,none⟩) 0 0):=c5a;have HB:=hid b1;clear hown c5 htake hcs hg b1
    go_enter Tryz.func41,Tryz.ntmps41
    go_wp2
    go_region
    all_goals (go_wp2;go_ret;exact⟨rfl,HB.out.os,HB.out.tape,HB.out.output,HB.out.size,fun j hj _=>HB.out.block j hj⟩)
   ·have hSD:(Builtin.unsafeSliceData_ #[77] 117 #[.slice (some ⟨g,0,none⟩) 0 cap]).run Tryz.prog w.drew=.ok (.pointer (some ⟨g,0,none⟩)) w.drew:=Lib.run_unsafeSliceData_row _ _ _ _ _ _ hc
    clear hown c5 htake hcs hg
    go_enter Tryz.func41,Tryz.ntmps41
    go_wp2
    go_region
    all_goals (go_wp2;go_ret;exact⟨rfl,rfl,rfl,rfl,ah _,fun _ _ _=>rfl⟩)
 ·have hl0:l.length≠0:=by simpa using h0
  obtain⟨g,cap,cur,rfl,hbg,hg,hnc,hcm,hcs,htake⟩:∃g cap cur,v=.slice (some ⟨g,0,none⟩) l.length cap∧0≤g∧w.heap[g]?=some (.cells cur 5 (0,0))∧l.length≤cap∧cap≤maxLen∧cur.size=cap*1∧cur.toList.take (l.length*1)=bV l:=by
   rcases hown.2 with⟨_,hz⟩|⟨g,cap,cur,hv,r⟩
   ·exact absurd hz hl0
   ·exact⟨g,cap,cur,hv,r⟩
  have c5':w.drew.cell? ⟨C,5,none⟩=some (.slice (some ⟨g,0,none⟩) l.length cap):=c5;have hSD:(Builtin.unsafeSliceData_ #[77] 117 #[.slice (some ⟨g,0,none⟩) l.length cap]).run Tryz.prog w.drew=.ok (.pointer (some ⟨g,0,none⟩)) w.drew:=
   Lib.run_unsafeSliceData_row _ _ _ _ _ _ (by omega)
  have hUS:(Builtin.unsafeString_ #[117,3] 9 #[.pointer (some ⟨g,0,none⟩),.int .i64 l.length]).run Tryz.prog w.drew=.ok (.string ⟨l.toArray⟩) (w.drew.freeze ⟨g,0,none⟩ l.length):=by
   refine Lib.run_unsafeString_row w.drew 117 3 9 5 Tryz.underlying117 Tryz.cCells g cur.size (by have hg':w.drew.heap[g]?=some (.cells cur 5 (0,0)):=hg;simp[World.shape?,hg']) l h0 (by omega) (by unfold maxLen at hcm;omega) ?_;intro j x hx;exact hown.cells (g:=g) rfl j (.int .u8 x.toNat) (by simp[bV,hx])
  obtain⟨f1,f2,f3,f4⟩:=e8 w.drew g l.length;have HF:=hid (show iO w (.slice (some ⟨g,0,none⟩) l.length cap) (w.drew.freeze ⟨g,0,none⟩ l.length) from⟨f1,f2,f3,Nat.le_of_eq f4.symm,fun j _ hn=>cK w.drew g l.length j (fun e=>hn (by rw[e];rfl))⟩);clear htake hcs hg f1 f2 f3 f4 c5
  go_enter Tryz.func41,Tryz.ntmps41
  go_wp2
  go_region
  all_goals (go_wp2;go_ret;exact⟨rfl,HF.out⟩)
theorem hV(C:Nat)(w:World)(v p:Value)(c4:w.cell? ⟨C,4,none⟩=some p)(c5:w.cell? ⟨C,5,none⟩=some v)(z4:w.frozen? ⟨C,4,none⟩=false)(z5:w.frozen? ⟨C,5,none⟩=false):
  Calls Tryz.prog 42 #[.pointer (some ⟨C,4,none⟩)] w fun e w'=>e=.returned (.tuple #[])∧w'=(w.setCell ⟨C,4,none⟩ (.pointer none)).setCell ⟨C,5,none⟩ (Sn):=by
 go_enter Tryz.func42,Tryz.ntmps42
 go_wp2_with fail
 first
  |refine bodyPost_end (results_none rfl _ _ _) rfl ?_
  |refine aH (results_none rfl _ _ _) rfl ?_
 exact⟨rfl,rfl⟩
theorem cf(P X:Nat→Prop)(C:Nat)(s:Cs)(w:World)(h:dc P X C s w):
  Calls Tryz.prog 17 #[.pointer (some ⟨C,0,none⟩)] w fun e w'=>e=.returned (.string ⟨s.out.toArray⟩)∧em P X C w {s with out:=[]} w':=by
 obtain⟨wv,iv,cv,bp,bv,Ms,h⟩:=h;have ks:=f6 C bv s.out w ((aq h.row 5).trans rfl) h.b.bw;have H:=hid h;clear h
 go_enter Tryz.func17,Tryz.ntmps17
 go_wp2_with fail
 refine ag ks ?_;rintro e w1 ⟨rfl,s1,s2,s3,s4,s50⟩;have h:=H.out;have hCl:=(gl h.row);have r1:=(s50 C hCl (fun q=>h.b.neC h.row (.inr (.inl q)) rfl)).trans h.row;have kr:=hV C w1 bv bp ((aq r1 4).trans rfl) ((aq r1 5).trans rfl) (aj r1 4) (aj r1 5);have FIN:em P X C w {s with out:=[]} ((w1.setCell ⟨C,4,none⟩ (.pointer none)).setCell ⟨C,5,none⟩ (Sn)):=by
  have r2:=cq (i:=4) (u:=.pointer none) r1;have r3:=cq (i:=5) (u:=Sn) r2;have hoth:∀j,j≠C→((w1.setCell ⟨C,4,none⟩ (.pointer none)).setCell ⟨C,5,none⟩ (Sn)).heap[j]?=w1.heap[j]?:=fun j hj=>(heap_setCell_other _ ⟨C,5,none⟩ j _ hj).trans (heap_setCell_other _ ⟨C,4,none⟩ j _ hj)
  have K:=h.b.parts (P':=P) (X':=X) (Y:=fun j=>bv.ownBlock=some j) (w':=(w1.setCell ⟨C,4,none⟩ (.pointer none)).setCell ⟨C,5,none⟩ (Sn)) h.row (fun j hj hn hp hl=>⟨(hoth j hj).trans (s50 j hl hn),hp,Iff.rfl⟩) h.b.xb;have k1:=K.own fun g hg q=>h.b.wb hg q
  have k2:=K.im fun g hg q=>h.b.bi q hg
  have hsz:((w1.setCell ⟨C,4,none⟩ (.pointer none)).setCell ⟨C,5,none⟩ (Sn)).heap.size=w1.heap.size:=by simp[World.setCell]
  refine⟨P,X,⟨wv,iv,cv,.pointer none,Sn,Ms,r3,k1.1,K.msg,k2.1,h.b.nd,K.cu,.inl rfl,World.ownsRow_nil _ _ _ _,h.b.xw,h.b.xi,(fun g hg=>by cases hg),h.b.xC,h.b.xP,fun g hg=>by rw[hsz];exact Nat.lt_of_lt_of_le (h.b.xl g hg) s4⟩,⟨s1,s2,s3,by rw[hsz];exact s4,fun j hj hn=>?_⟩,fun _ _ q=>q,fun _ _ q=>q⟩;exact(hoth j (fun e=>hn (e▸h.b.xC))).trans (s50 j hj fun q=>hn (h.b.xb j q))
 have HF:=hid FIN;clear FIN h r1 s1 s2 s3 s4 s50 ks H hCl
 go_wp2_with fail
 refine ag kr ?_;rintro e w2 ⟨rfl,hw2⟩;have HF2:Hid (em P X C w {s with out:=[]} w2):=by rw[hw2];exact HF
 clear kr hw2 HF
 go_wp2_with fail
 go_ret
 exact⟨rfl,HF2.out⟩
def pl2(z:Mg×Ls):Mg×Ls:=(z.1.pl,z.2)
theorem i8{w:World}{B:Nat}{v:Value}{Zs:List (Mg×Ls)}(h:w.ownsRow B 33 28 v Zs.length (cC (Zs.map (·.1))))(hm:∀z∈Zs,MgM w z.1 z.2):ak w v Zs:=by
 rcases h.2 with⟨hv,h0⟩|⟨g,cap,cur,hv,_,_,hc,_⟩
 ·have:Zs=[]:=List.eq_nil_of_length_eq_zero h0
  subst this;exact⟨none,0,hv,ah _,fun q=>absurd rfl q⟩
 ·refine⟨some ⟨g,0,none⟩,cap,hv,hc,fun _=>⟨g,0,rfl,fun j z hz=>⟨fun i x hi=>?_,hm z (List.mem_of_getElem? hz)⟩⟩⟩
  have hil:i<28:=(List.getElem?_eq_some_iff.1 hi).1;have hj:(Zs.map (·.1))[j]?=some z.1:=by rw[List.getElem?_map,hz];rfl
  have hc:=h.cells (g:=g) (by rw[hv];rfl) (j*28+i) x (by rw[ie _ j i z.1 hj hil];exact hi);rw[show(⟨g,0,none⟩:Addr).add (j*28+i)=⟨g,0+j*28+i,none⟩ by simp[Addr.add_lit]] at hc;exact hc
theorem eq.zip{P:Nat→Prop}{w:World}:∀{ms:List Mg} {ys:List (Mg×Ls)},eq P w ms ys→∃Zs:List (Mg×Ls),Zs.length=ys.length∧Zs.map (·.1)=ms∧Zs.map pl2=ys∧∀z∈Zs,MgM w z.1 z.2
 |[],[],_=>⟨[],rfl,rfl,rfl,fun z hz=>by cases hz⟩
 |m::ms,y::ys,h=>by
  obtain⟨Zs,h1,h2,h3,h4⟩:=eq.zip h.2;refine⟨(m,y.2)::Zs,by simp[h1],by simp[h2],?_,fun z hz=>?_⟩
  ·rw[List.map_cons,h3]
   show(m.pl,y.2)::ys=y::ys;rw[h.1.1]
  ·rcases aY.1 hz with rfl|q
   ·exact h.1.2.mgm
   ·exact h4 z q
 |[],_::_,h=>h.elim
 |_::_,[],h=>h.elim
theorem Rw2.at{X Z:Nat→Prop}{B:Nat}{v:Value}{Ms:List Mg}{ys:List (Mg×Ls)}{w:World}(h:Rw2 X Z B v Ms ys w):∃Zs,ak w v Zs∧Zs.map pl2=ys:=by
 obtain⟨Zs,h1,h2,h3,h4⟩:=h.msg.zip;exact⟨Zs,i8 (by rw[h1,h2];exact h.own) h4,h3⟩
def ae(el:El):Option Int:=(ci el 0 16).bind fun ks=>(eR 2 ks).bind fun x=>bN x.1 x.2
def ac(b:List UInt8):Option Int:=match fO b with
 | .error _=>none
 | .ok el=>ae el
def RiP(O:Option Int)(N:Nat)(w:World)(w':World):Prop:=(∃k:Int,w'.heap[N]?=some (.cells #[.int .i64 k] 3 (0,0))∧∀v,O=some v→k=v)∧Lft [N] w.heap.size w w'
theorem f7(el:El)(u:Value)(A N:Nat)(w:World)(hA:w.heap[A]?=some (.cells (elA el u) 61 (0,0)))(hN:w.heap[N]?=some (.cells #[I0] 3 (0,0)))(h:bf (fun _=>True) w u el.kids)(hs:SmE el):
  Calls Tryz.prog 139 #[.pointer (some ⟨A,0,none⟩),.pointer (some ⟨N,0,none⟩)] w fun e w'=>Out (ae el) (fun _ v _=>v=.tuple #[]) e w'∧RiP (ae el) N w w':=by
 have kk:=dk el u 0 16 w h hs;have hNl:=(gl hN);generalize hR:ae el=R;unfold ae at hR;obtain⟨O,hO⟩:=nmm (ci el 0 16);rw[hO] at kk hR;have HR:=hid hR;clear hO h hs hR
 go_enter Tryz.func139,Tryz.ntmps139
 go_wp2_with (refine bg rfl 61 (.tmp 0) rfl A 61 _ (0,0) (by rfl) hA _ Tryz.underlying61 rfl (by rfl) ?_)
 refine ag kk ?_;rintro e w1 ⟨ho,hb1⟩;have n1:=bk hb1 hN;clear kk hA hN;cases O with
 |none=>
  have he:e=Pn:=ho;subst he;obtain rfl:none=R:=HR.out;exact⟨rfl,rfl,⟨0,n1,fun v q=>by cases q⟩,.of hb1⟩
 |some ks=>
  obtain⟨v,rfl,b,rfl,hbl,hrow⟩:=ho;have kn:=fd _ b ks 2 w1 hrow;have hR:=HR.out;simp only[ai] at hR;obtain⟨O,hO⟩:=nmm (eR 2 ks);rw[hO] at kn hR;replace HR:=hid hR;clear hO hrow hR
  go_wp2_with fail
  refine ag kn ?_;rintro e w2 ⟨ho,hL⟩;have hs1:=hb1.size;have hs2:=hL.size;have n2:=hL.at n1 (by simp;omega);have b2:Below w.heap.size w w2:=hb1.trans (hL.below1 (by omega) hb1.size);clear kn hb1 hL n1;cases O with
  |none=>
   have he:e=Pn:=ho;subst he;obtain rfl:none=R:=HR.out;exact⟨rfl,rfl,⟨0,n2,fun v q=>by cases q⟩,.of b2⟩
  |some x=>
   obtain⟨v,rfl,rfl,hrow⟩:=ho;have q2:=aq n2 0;have z2:=aj n2 0;have n3:=cq (i:=0) (u:=.int .i64 x.1) n2;have l3:Lft [N] w2.heap.size w2 (w2.setCell ⟨N,0,none⟩ (.int .i64 x.1)):=(Lft.refl w2).set _ _ _ (by simp);have row3:=hrow.keep l3 (by simp;omega) (by intro g hg _;simp;omega);have ke:=cX _ b x.2 _ row3;obtain⟨L3,N3⟩:=Cg (show Lft [N] w.heap.size w (w2.setCell ⟨N,0,none⟩ (.int .i64 x.1)) from(Lft.of b2).trans (l3.mono (ah _) fun _ _ h=>h) (ah _)) n3;clear n2 l3 row3 hrow n3 b2;have hR:=HR.out;simp only[ai] at hR;have hOE:bN x.1 x.2=(bN () x.2).map fun _=>x.1:=by unfold bN;by_cases hx:x.2=[]<;>simp[hx]
   rw[hOE] at hR;obtain⟨O,hO⟩:=nmm (bN () x.2);rw[hO] at ke hR;replace HR:=hid hR;clear hO hOE hR;have KE:=hid ke;clear ke
   go_wp2_with fail
   generalize w2.setCell ⟨N,0,none⟩ (.int .i64 x.1)=w3 at KE L3 N3⊢;refine ag (show Calls _ _ _ _ _ from KE.out) ?_;rintro e w4 ⟨ho,hb4⟩;have l4:Lft [N] w.heap.size w w4:=L3.out.trans (Lft.of hb4) (ah _);have n4:=bk hb4 N3.out;cases O with
   |none=>
    have he:e=Pn:=ho;subst he;obtain rfl:none=R:=HR.out;exact⟨rfl,rfl,⟨x.1,n4,fun v q=>by cases q⟩,l4⟩
   |some o=>
    obtain⟨v,rfl,rfl⟩:=ho;obtain rfl:some x.1=R:=HR.out;clear KE hb4 L3 N3 q2 z2
    go_wp2_with fail
    go_end0
    exact⟨⟨_,rfl,rfl⟩,⟨x.1,n4,fun v q=>by simpa using q⟩,l4⟩
theorem f8(el:El)(u:Value)(A N:Nat)(w:World)(hA:w.heap[A]?=some (.cells (elA el u) 61 (0,0)))(hN:w.heap[N]?=some (.cells #[I0] 3 (0,0)))(h:bf (fun _=>True) w u el.kids)(hs:SmE el):
  Calls Tryz.prog 34 #[.func (.func 139) #[] #[.pointer (some ⟨A,0,none⟩),.pointer (some ⟨N,0,none⟩)]] w fun e w'=>e=.returned (.bool (ae el).isSome)∧RiP (ae el) N w w':=by
 have hmf:∀(fn:Fn) (first cap:Array Value) (w:World),(Instr.makeFunc fn first cap).run Tryz.prog w=.ok (.func fn first cap) w:=fun _ _ _ _=>rfl
 obtain⟨O,hO⟩:=nmm (ae el);obtain⟨PR,hPR⟩:∃PR:Ending→World→Prop,PR=fun e w'=>e=.returned (.bool O.isSome)∧RiP O N w w':=⟨_,rfl⟩
 rw[hO,←hPR];have HP:=hid hPR;clear hPR;have hNl:=(gl hN);have bA:=alb w #[Bf] 4;have oA:=alz w #[Bf] 4;have kr:=f7 el u A N (w.alloc (.cells #[Bf] 4)) (bk bA hA) (bk bA hN) (h.below bA) hs;rw[hO] at kr;clear hA hN h hs hO
 go_enter_defers Tryz.func34,Tryz.ntmps34
 go_wp2_with fail
 generalize w.alloc (.cells #[Bf] 4)=wA at bA oA kr⊢;refine ag kr ?_;rintro e w1 ⟨ho,⟨k,hk,hkv⟩,hb1⟩;have hsA:=bA.size;have hoA:=(gl oA);have o1:=hb1.at oA (by simp;omega);have b1:Lft [N] w.heap.size w w1:=(Lft.of bA).trans (hb1.mono (ah _) fun _ _ h=>h) (ah _);have q1:=cval o1 0 Bf;have z1:=aj o1 0;have key:∀x:Value,Lft [N] w.heap.size w (w1.setCell ⟨w.heap.size,0,none⟩ x)∧(w1.setCell ⟨w.heap.size,0,none⟩ x).heap[N]?=some (.cells #[.int .i64 k] 3 (0,0))∧(w1.setCell ⟨w.heap.size,0,none⟩ x).heap[w.heap.size]?=some (.cells #[x] 4 (0,0)):=fun x=>by
  have t2:Lft [w.heap.size] w1.heap.size w1 (w1.setCell ⟨w.heap.size,0,none⟩ x):=(Lft.refl w1).set _ _ _ (by simp);exact⟨⟨b1.os,b1.tape,b1.output,by simpa using b1.size,fun j hj hne=>(t2.block j (by have:=b1.size;omega) (by simp;omega)).trans (b1.block j hj hne)⟩,t2.at hk (by simp;omega),cq (i:=0) (u:=x) o1⟩
 obtain⟨HK,HV⟩:=Cg key hkv;clear kr oA hb1 b1 o1 key hk hkv;cases O with
 |none=>
  have he:e=Pn:=ho;subst he;clear ho
  go_wp2
  refine leaves_cons (f:=61) (args:=#[.pointer (some ⟨w.heap.size,0,none⟩)]) (by simp) (by simp[go_sem]) ?_;refine(mG w.heap.size (Bf) w1 q1 z1).mono ?_;rintro e u' w2 ⟨rfl,rfl,rfl⟩;obtain⟨b2,n2,o2⟩:=HK.out (Bf);have o2:=cval o2 0 (.bool false);generalize w1.setCell ⟨w.heap.size,0,none⟩ (Bf)=wF at o2 b2 n2⊢
  simp[Leaves,settle,results,Tryz.results34,go_sem,o2]
  rw[HP.out];exact⟨rfl,⟨k,n2,HV.out⟩,b2⟩
 |some y=>
  obtain⟨v,rfl,rfl⟩:=ho
  go_wp2_with fail
  obtain⟨b2,n2,o2⟩:=HK.out (.bool true);have o2:=cval o2 0 (.bool true);clear q1 z1;generalize w1.setCell ⟨w.heap.size,0,none⟩ (.bool true)=wF at o2 b2 n2⊢;refine leaves_cons (f:=61) (args:=#[.pointer (some ⟨w.heap.size,0,none⟩)]) (by simp) (by simp[go_sem]) ?_;refine(pA w.heap.size wF).mono ?_;rintro e u' w3 ⟨rfl,rfl,hw3⟩;rw[hw3]
  simp[Leaves,settle,results,Tryz.results34,go_sem,o2]
  rw[HP.out];exact⟨rfl,⟨k,n2,HV.out⟩,b2⟩
theorem cL(b:List UInt8)(c:Int)(hc:c≠0)(w:World)(kr:Calls Tryz.prog 33 #[.string ⟨b.toArray⟩] w fun e w'=>e=.returned (.tuple #[.agg Ze,.int .i64 c])∧Below w.heap.size w w'):
  Cr 83 #[.string ⟨b.toArray⟩] w (.tuple #[I0,Bf]):=by
 have i0:(c==0)=false:=aE hc
 go_enter Tryz.func83,Tryz.ntmps83
 go_wp2_with fail
 refine ag kr ?_;rintro e w2 ⟨rfl,b2⟩;clear kr;obtain⟨E,hE⟩:=nmm (Ze:Array Value);have hE1:E.all (·.oneCell')=true:=by rw[←hE];simp[Value.oneCell']
 have hE2:E.size=5:=by rw[←hE];rfl
 rw[hE];obtain⟨HE1,HE2⟩:=Cg hE1 hE2;clear hE hE1 hE2;have x3:=alz w2 Ze 61;have g3:Below w2.heap.size w2 ((w2.alloc (.cells Ze 61)).setRow w2.heap.size E):=bm ((aA _ _).alloc (ah _) _) (ah _) E;obtain⟨B3,X3⟩:=Cg (cM b2 g3) x3;clear b2 x3 g3
 go_upto_region 2 with(refine bh rfl 61 (.tmp 4) (.tmp 11) rfl w2.heap.size 61 _ E (by rfl) (by rfl) X3.out (by rw[HE2.out];rfl) (by rw[HE2.out];rfl) HE1.out ?_)
 generalize(w2.alloc (.cells Ze 61)).setRow w2.heap.size E=w3 at B3⊢;clear X3;have n4:=alz w3 #[I0] 3;have q5:(w3.alloc (.cells #[I0] 3)).cell? ⟨w3.heap.size,0,none⟩=some (I0):=(aq n4 0).trans rfl;have B5:=hid (cM B3.out (show Below w3.heap.size w3 (w3.alloc (.cells #[I0] 3)) from(aA _ _).alloc (ah _) _))
 go_upto_region 3 with fail
 generalize w3.alloc (.cells #[I0] 3)=w5 at q5 B5⊢;clear n4
 go_wp2_with fail
 go_ret2
 exact⟨rfl,B5.out⟩
theorem ih(b:List UInt8)(el:El)(hr:bP 20 b=.ok (el,[]))(hl:b.length≤1000000)(w:World):
  Calls Tryz.prog 83 #[.string ⟨b.toArray⟩] w fun e w'=>(∃k:Int,e=.returned (.tuple #[.int .i64 k,.bool (ae el).isSome])∧∀v,ae el=some v→k=v)∧Below w.heap.size w w':=by
 have hmf:∀(fn:Fn) (first cap:Array Value) (w:World),(Instr.makeFunc fn first cap).run Tryz.prog w=.ok (.func fn first cap) w:=fun _ _ _ _=>rfl
 have kr:=kP b el hr hl w;have hsm:=kC el (by have:=(fL 20 b el [] hr).2;omega);obtain⟨PR,hPR⟩:∃PR:Ending→World→Prop,PR=fun e w'=>(∃k:Int,e=.returned (.tuple #[.int .i64 k,.bool (ae el).isSome])∧∀v,ae el=some v→k=v)∧Below w.heap.size w w':=⟨_,rfl⟩
 rw[←hPR];obtain⟨HP,HSM⟩:=Cg hPR hsm;clear hPR hr hl hsm
 go_enter Tryz.func83,Tryz.ntmps83
 go_wp2_with fail
 refine ag kr ?_;rintro e w2 ⟨⟨u,rfl,hu⟩,b2⟩;have hs2:=b2.size;clear kr;obtain⟨a,c,hsl⟩:=hu.shape;subst hsl;obtain⟨E,hE⟩:=nmm (elA el (.slice a el.kids.length c));have hE1:E.all (·.oneCell')=true:=by rw[←hE];simp[elA,Value.oneCell']
 have hE2:E.size=5:=by rw[←hE];rfl
 rw[hE];obtain⟨HE,HE1,HE2⟩:=Ch hE hE1 hE2;clear hE hE1 hE2;have x3:=alz w2 Ze 61;have g3:Below w2.heap.size w2 ((w2.alloc (.cells Ze 61)).setRow w2.heap.size E):=bm ((aA _ _).alloc (ah _) _) (ah _) E;obtain⟨e3,u3,B3,X3⟩:=Ci (setRow_heap (w2.alloc (.cells Ze 61)) w2.heap.size _ E _ _ x3) (hu.below g3) (cM b2 g3) x3;clear b2 x3 g3 hu
 go_upto_region 2 with(refine bh rfl 61 (.tmp 4) (.tmp 11) rfl w2.heap.size 61 _ E (by rfl) (by rfl) X3.out (by rw[HE2.out];rfl) (by rw[HE2.out];rfl) HE1.out ?_)
 generalize(w2.alloc (.cells Ze 61)).setRow w2.heap.size E=w3 at e3 u3 B3⊢;clear X3;have n4:=alz w3 #[I0] 3;have g5:=alb w3 #[I0] 3;have e5:=bk g5 e3.out;have u5:=u3.out.below g5;have b5:=cM B3.out g5;rw[←HE.out] at e5;have kk:=f8 el (.slice a el.kids.length c) w2.heap.size w3.heap.size _ e5 n4 (u5.kept fun g hg hl=>⟨rfl,trivial⟩) HSM.out;obtain⟨KK,B5⟩:=Cg kk b5;clear e5 u5 b5 kk g5 n4
 go_upto_region 3 with fail
 generalize w3.alloc (.cells #[I0] 3)=w5 at KK B5⊢;have hw3:w.heap.size≤w3.heap.size:=B3.out.size;clear e3 u3 B3 HE HE1 HE2;have kk:=KK.out
 go_wp2_with fail
 refine ag kk ?_;rintro e w6 ⟨rfl,⟨k,n6,hkv⟩,hL⟩;have q6:=cval n6 0 (.int .i64 k);have b6:Below w.heap.size w w6:=B5.out.trans (hL.below1 hw3 B5.out.size);have HF:=hid (show PR (.returned (.tuple #[.int .i64 k,.bool (ae el).isSome])) w6 by rw[HP.out];exact⟨⟨k,rfl,hkv⟩,b6⟩);clear kk KK n6 hkv hL b6 B5 hw3
 go_wp2_with fail
 exact HF.out
theorem fb(b:List UInt8)(hl:b.length≤1000000)(w:World):Calls Tryz.prog 83 #[.string ⟨b.toArray⟩] w fun e w'=>(∃k:Int,e=.returned (.tuple #[.int .i64 k,.bool (ac b).isSome])∧∀v,ac b=some v→k=v)∧Below w.heap.size w w':=by
 cases hr:bP 20 b with
 |error c=>
  have h0:ac b=none:=by unfold ac fO;rw[hr]
  refine(cL b c (lE b 20 c hr) w (nB b c hr hl w)).mono fun e w' h=>⟨⟨0,?_,fun v q=>by rw[h0] at q;cases q⟩,h.2⟩
  rw[h0];exact h.1
 |ok p=>
  obtain⟨el,r⟩:=p;cases r with
  |cons x r=>
   have h0:ac b=none:=by unfold ac fO;rw[hr]
   refine(cL b 25 (by decide) w (qM b el x r hr hl w)).mono fun e w' h=>⟨⟨0,?_,fun v q=>by rw[h0] at q;cases q⟩,h.2⟩
   rw[h0];exact h.1
  |nil=>
   have h0:ac b=ae el:=by unfold ac fO;rw[hr]
   rw[h0];exact ih b el hr hl w
def ad(id op code:Int):Mg:={id:=id,op:=op,code:=code}
def Cs.sent(s:Cs)(m:Mg):Cs:=if(cR m {}).2=0 then s.put (cR m {}).1 else s
def Cs.cancels(s:Cs)(y:Mg):Cs:=
 match ac y.value,y.has with
 |some id,true=>match s.ms.find? (fun x=>x.1.id==id) with
  |none=>s.sent (ad y.id 24 119)
  |some x=>if(x.1.op==0||gS x.1)=true then s.sent (ad y.id 24 121) else((s.strike id).sent (ad x.1.id (gk x.1.op) 118)).sent (ad y.id 24 0)
 |_,_=>s.sent (ad y.id 24 2)
theorem cS(w0:World)(P X:Nat→Prop)(C:Nat)(s:Cs)(id op code:Int)(w:World)(h:dc P X C s w)(hH:Hm w0 X w)(hlen:s.out.length≤1099511627776):
  Calls Tryz.prog 46 #[.pointer (some ⟨C,0,none⟩),.agg (ad id op code).row] w fun e w'=>(∃b,e=.returned (.bool b))∧em P X C w (s.sent (ad id op code)) w':=
 (su w0 P X C s (ad id op code) {} w h hH (uA _ _ rfl) (uc id op code [] [] [] (by decide) (by decide) (by decide)) hlen).mono fun e w' q=>⟨⟨_,q.1⟩,q.2⟩
theorem fg{α:Type}(f:α→Int)(k:Int):∀(l:List α) (j:Nat) (x:α),(l.map f).Nodup→l[j]?=some x→f x=k→l.find? (fun y=>f y==k)=some x
 |[],j,_,_,h,_=>by simp at h
 |a::l,0,x,_,h,e=>by
  have q:a=x:=by simpa using h
  subst q;rw[List.find?_cons_of_pos (by simp[e])]
 |a::l,j+1,x,hn,h,e=>by
  have hn':=List.nodup_cons.1 hn;have hx:l[j]?=some x:=by simpa using h
  have hne:f a≠k:=fun q=>hn'.1 (by rw[q,←e];exact List.mem_map_of_mem (List.mem_of_getElem? hx))
  rw[List.find?_cons_of_neg (by simpa using hne)];exact fg f k l j x hn'.2 hx e
theorem jm{α:Type}(f:α→Int)(k:Int)(l:List α)(h:(l.map f).contains k=false):l.find? (fun y=>f y==k)=none:=by
 rw[List.find?_eq_none];intro b hb;have:f b≠k:=fun q=>by
  rw[List.contains_iff_mem.2 (by rw[←q];exact List.mem_map_of_mem hb)] at h;cases h
 simpa using this
theorem dc.nd{P X:Nat→Prop}{C:Nat}{s:Cs}{w:World}(h:dc P X C s w):s.ids.Nodup:=by
 obtain⟨_,_,_,_,_,_,h⟩:=h;exact h.b.nd
theorem Kb.cell{X:Nat→Prop}{w w':World}{g i:Nat}{v:Value}(kb:Kb X w w')(h:w.cell? ⟨g,i,none⟩=some v)(hX:¬X g):w'.cell? ⟨g,i,none⟩=some v:=(World.cell?_of_block (kb.block g (bj h) hX)).trans h
section
variable {md:Region.Mode} {ops:Array Oper} {Q:Exit→Act→World→Prop} {S:World→Prop} {fuel:Nat} {listed:Array Bool} {a:Act} {w:World} {o:Oper}
theorem hcl(i:Nat){f:FuncId}{args:Array Value}{PR:Ending→World→Prop}(kc:Calls Tryz.prog f args w PR)(ho:ops[i]?=some o)(h:∀e w',PR e w'→∃v,e=.returned v∧S w'∧Q .normal (a.put o.dst v) w')
  (hrun:(execOp a.eval o).run Tryz.prog w=.ok (.enter f args) w:=by first|rfl|go_simp) (hr:Region.ready md ops listed=[i]:=by kernel_rfl) (hw:Region.wanted o (yielded ops a.tmps)=true:=by rfl) (hd:Region.ready md ops (listed.setIfInBounds i true)=[]:=by kernel_rfl):wpAnyH Tryz.prog md ops Q S (fuel+1) listed a w:=
 rn i hr ho hw fun K hK=>by
  unfold Oper.wp;rw[hrun,Oper.upon_enter];refine kc.mono fun e w' hh=>?_
  obtain⟨v,rfl,hs,hq⟩:=h e w' hh;show K _ _;exact hK _ _ hs (ba hd hq _)
end
def CaR(P X:Nat→Prop)(C M:Nat)(A:Array Value)(w:World)(ANS:Cs)(id:Int)(v:Value)(wx:World):Prop:=
 ∃(code:Int) (s2:Cs) (P2 X2:Nat→Prop),v=.int .i64 code∧dc P2 X2 C s2 wx∧Nx P X w P2 X2 wx∧s2.sent (ad id 24 code)=ANS∧s2.out.length≤1099511627776∧wx.heap[M]?=some (.cells A 33 (0,0))
theorem dl(w0:World)(P X:Nat→Prop)(C:Nat)(s:Cs)(m:Mg)(w:World)(h:dc P X C s w)(hH:Hm w0 X w)(hmo:m.row.all (·.oneCell')=true)(hv:m.value.length≤1000000)(hlen:s.ms.length≤1000)(ho:s.out.length+70000≤1099511627776):
  Calls Tryz.prog 45 #[.pointer (some ⟨C,0,none⟩),.agg m.row] w fun e w'=>e=.returned (.tuple #[])∧em P X C w (s.cancels m) w':=by
 obtain⟨ANS,hA⟩:=nmm (s.cancels m);rw[hA];have b1:=alb w m.row 33;have m1:=alz w m.row 33;have q20:(w.alloc (.cells m.row 33)).cell? ⟨w.heap.size,20,none⟩=some (.string ⟨m.value.toArray⟩):=(aq m1 20).trans rfl;obtain⟨A,hAr⟩:=nmm m.row;have hA0:A[0]?=some (.int .i64 m.id):=by rw[←hAr];rfl
 have hA22:A[22]?=some (.bool m.has):=by rw[←hAr];rfl
 rw[hAr] at b1 m1 q20 hmo⊢;have h1:=h.bel b1;obtain⟨H1,HB0,HA,HL,HX,HCl⟩:=Cy (show _∧_∧_∧_ from⟨h1,hH.bels b1,m1,b1⟩) hH (show _∧_∧_∧_∧_ from⟨hA,hA0,hA22,hmo,h.nd⟩) (show _∧_ from⟨hlen,ho⟩) h.xl (h.xl C h.xC);have kr:=fb m.value hv (w.alloc (.cells A 33));clear hA hA0 hA22 hmo hlen ho h1 hH h b1 m1 hv hAr
 go_enter Tryz.func45,Tryz.ntmps45
 go_upto_region 2 with fail
 obtain⟨w1,hw1⟩:=nmm (w.alloc (.cells A 33));rw[hw1] at H1 q20 kr
 try rw[hw1]
 clear hw1
 go_wp2_with fail
 refine ag kr ?_;rintro e w2 ⟨⟨k,rfl,hkv⟩,hb2⟩;have h2:=H1.out.1.bel hb2;have m2:=bk hb2 H1.out.2.2.1;have kp:=CJ P X C s k w2 h2 HL.out.1;obtain⟨H2,HK⟩:=Cg (show _∧_∧_∧_ from⟨h2,H1.out.2.1.bels hb2,m2,cM H1.out.2.2.2 hb2⟩) hkv;obtain⟨ok,hok⟩:=nmm ((ac m.value).isSome);rw[hok];have HOK:=hid hok;clear kr q20 hb2 h2 m2 hkv hok H1
 go_wp2_with fail
 refine ag kp ?_;rintro e w3 ⟨⟨r,rfl,hr⟩,hb3⟩;have h3:=H2.out.1.bel hb3;have m3:=bk hb3 H2.out.2.2.1;have q22:w3.cell? ⟨w.heap.size,22,none⟩=some (.bool m.has):=(aq m3 22).trans HA.out.2.2.1;obtain⟨H3,HR⟩:=Cg (show _∧_∧_∧_ from⟨h3,H2.out.2.1.bels hb3,m3,cM H2.out.2.2.2 hb3⟩) hr;clear kp hb3 h3 m3 hr H2
 go_upto_block 0 with fail
 go_cut [4,8] from 18 to 57 (fun v _ wx=>CaR P X C w.heap.size A w ANS m.id v wx)
 case first=>
  have n3:Nx P X w P X w3:=⟨Kb.of H3.out.2.2.2,fun _ _ q=>q,fun _ _ q=>q⟩;have stay:∀code:Int,s.sent (ad m.id 24 code)=ANS→CaR P X C w.heap.size A w ANS m.id (.int .i64 code) w3:=fun code hc=>⟨code,s,P,X,rfl,H3.out.1,n3,hc,by have:=HL.out.2;omega,H3.out.2.2.1⟩
  have ST:=hid stay;clear stay n3
  by_cases hbad:ok=false∨m.has=false
  ·have FIN:=ST.out 2 (by
    rw[←HA.out.1];unfold Cs.cancels;rcases hbad with q|q
    ·have h1:=HOK.out
     rw[q] at h1;cases hr:ac m.value with
     |none=>rfl
     |some x=>rw[hr] at h1;cases h1
    ·rw[q]
     cases ac m.value<;>rfl)
   have HF:=hid FIN;clear FIN;cases ok with
   |false=>
    go_wp2_with fail
    go_meet
    exact HF.out
   |true=>
    have hh:m.has=false:=by rcases hbad with q|q;cases q;exact q
    rw[hh] at q22
    go_wp2_with fail
    go_meet
    exact HF.out
  ·have hokt:ok=true:=by cases ok with|true=>rfl|false=>exact absurd (.inl rfl) hbad
   have hht:m.has=true:=by cases hm:m.has with|true=>rfl|false=>exact absurd (.inr hm) hbad
   subst hokt;rw[hht] at q22;obtain⟨k',hk'⟩:∃v,ac m.value=some v:=by
    have h1:=HOK.out;cases hr:ac m.value with
    |none=>rw[hr] at h1;cases h1
    |some v=>exact⟨v,rfl⟩
   obtain rfl:k=k':=HK.out k' hk';have hans:∀B:Cs,(match s.ms.find? (fun x=>x.1.id==k) with
     |none=>s.sent (ad m.id 24 119)
     |some x=>if(x.1.op==0||gS x.1)=true then s.sent (ad m.id 24 121) else((s.strike k).sent (ad x.1.id (gk x.1.op) 118)).sent (ad m.id 24 0))=B→B=ANS:=fun B hB=>by
    rw[←hB,←HA.out.1];unfold Cs.cancels;rw[hk',hht]
   have HANS:=hid hans;clear hbad hht hk' hans HK HOK;rcases HR.out with⟨rfl,hno⟩|⟨j,rfl,hj⟩
   ·have FIN:=ST.out 119 (HANS.out _ (by rw[jm (fun x:Mg×Ls=>x.1.id) k s.ms hno]))
    have HF:=hid FIN;have i1:decide ((-1:Int)<0)=true:=rfl;clear FIN hno
    go_wp2_with fail
    go_meet
    exact HF.out
   ·have i1:decide ((j:Int)<0)=false:=an (by omega)
    obtain⟨x,hx,hxk⟩:∃x,s.ms[j]?=some x∧x.1.id=k:=by
     unfold Cs.ids at hj;rw[List.getElem?_map] at hj;exact aV.1 hj
    have hjl:j<s.ms.length:=(List.getElem?_eq_some_iff.1 hx).1;have hfind:=fg (fun x:Mg×Ls=>x.1.id) k s.ms j x HA.out.2.2.2.2 hx hxk;have kd:=fun(W:World) (hW:Below w3.heap.size w3 W)=>sA P X C s j x W (H3.out.1.bel hW) hx HL.out.1
    obtain⟨wv,iv,cv,bp,bv,Ms,hrow,hb⟩:=H3.out.1;obtain⟨c0,c1,c2,c3,c8⟩:=dM hrow;obtain⟨g,cap,rfl⟩:∃g cap,wv=.slice (some ⟨g,0,none⟩) s.ms.length cap:=by
     obtain⟨g,cap,e0,_⟩:=hb.own.form (by omega);exact⟨g,cap,e0⟩
    obtain⟨xm,hMi,hpl,hls⟩:=hb.msg.get hx;have hrng:w3.rangeAt g (j*28) xm.row.toList:=fun i v hi=>by
     have hil:i<28:=(List.getElem?_eq_some_iff.1 hi).1;have hc:=hb.own.cells (g:=g) rfl (j*28+i) v (by rw[ie Ms j i xm hMi hil];exact hi);rw[show(⟨g,0,none⟩:Addr).add (j*28+i)=⟨g,j*28+i,none⟩ by simp[Addr.add_lit]] at hc;exact hc
    have qop:w3.cell? ⟨g,j*28+1,none⟩=some (.int .i64 x.1.op):=by
     have:=hrng 1 (.int .i64 x.1.op) (by rw[←hpl];rfl);exact this
    have ki:=ws xm w3;rw[show gS xm=gS x.1 by rw[←hpl];rfl] at ki;obtain⟨D,hD⟩:=nmm xm.row;have hD2:D.size=28:=by rw[←hD];rfl
    rw[hD] at hrng ki;obtain⟨HD2,HRN,HKD⟩:=Ch hD2 hrng kd;obtain⟨n,hn⟩:=nmm s.ms.length;rw[hn] at c1 hjl;have hj1:(j:Int)<(n:Int):=by omega
    have hfd:∀B:Cs,(if(x.1.op==0||gS x.1)=true then s.sent (ad m.id 24 121) else((s.strike k).sent (ad x.1.id (gk x.1.op) 118)).sent (ad m.id 24 0))=B→B=ANS:=fun B hB=>HANS.out B (by rw[hfind];exact hB)
    have HFD:=hid hfd;have hstr:s.strike k={s with ms:=s.ms.eraseIdx j}:=by
     unfold Cs.strike;rw[lX (fun y:Mg×Ls=>y.1.id) k s.ms j HA.out.2.2.2.2 hj]
    have HSTR:=hid (show _∧_ from⟨hstr,hxk⟩);clear hj hx hxk hfind kd hrow hb hMi hpl hls hrng hD hD2 hfd hstr c0 c2 c3 c8 HANS HR
    by_cases h0:x.1.op=0
    ·have e0:(x.1.op==0)=true:=by rw[h0];rfl
     have HF:=hid (ST.out 121 (HFD.out _ (by rw[e0];rfl)));clear ki
     go_wp2_with fail
     go_meet
     exact HF.out
    ·have e0:(x.1.op==0)=false:=aE h0
     obtain⟨ic0,hic⟩:=nmm (gS x.1);rw[hic] at ki;obtain⟨HIC,KI⟩:=Cg hic ki;clear hic ki h0
     go_wp2_with (refine wpList_load_mid rfl 33 (.tmp 55) rfl g (j*28) (by rfl) D.toList _ HRN.out Tryz.underlying33 rfl (by rw[Array.length_toList,HD2.out];rfl) ?_;rw[Array.toArray_toList])
     refine ag (show Calls _ _ _ _ _ from KI.out) ?_;rintro e w4 ⟨rfl,hb4⟩;cases ic0 with
     |true=>
      have HF:=hid (show CaR P X C w.heap.size A w ANS m.id (.int .i64 121) w4 from by
       obtain⟨code,s2,P2,X2,q1,q2,q3,q4,q5,q6⟩:=ST.out 121 (HFD.out _ (by rw[e0,HIC.out];rfl));exact⟨code,s2,P2,X2,q1,q2.bel hb4,q3.bel hb4,q4,q5,bk hb4 q6⟩)
      clear KI hb4
      go_wp2_with fail
      go_meet
      exact HF.out
     |false=>
      have kd:=HKD.out w4 hb4;have hfin:=HFD.out (((s.strike k).sent (ad x.1.id (gk x.1.op) 118)).sent (ad m.id 24 0)) (by rw[e0,HIC.out];rfl);rw[HSTR.out.1] at hfin;obtain⟨B4,M4,HH4,HFIN⟩:=Ci (cM H3.out.2.2.2 hb4) (bk hb4 H3.out.2.2.1) (H3.out.2.1.bels hb4) hfin;clear KI HRN HKD qop c1 hfin hb4 H3 ST
      go_wp2_with fail
      refine ag kd ?_;rintro e w5 ⟨⟨m5,rfl,hpl,hls⟩,h5,k5⟩;have m5':=k5.at M4.out (fun q=>by have:=HX.out _ q;omega);have n5:Nx P X w P X w5:=⟨(Kb.of B4.out).trans k5,fun _ _ q=>q,fun _ _ q=>q⟩;obtain⟨E,hE⟩:=nmm m5.row;have hE1:E.all (·.oneCell')=true:=by rw[←hE];exact hls.one
      have hE2:E.size=28:=by rw[←hE];rfl
      have hE0:E[0]?=some (.int .i64 x.1.id):=by rw[←hE,←hpl];rfl
      have hEo:E[1]?=some (.int .i64 x.1.op):=by rw[←hE,←hpl];rfl
      rw[hE];have y5:=alz w5 Zm 33;have g5:Below w5.heap.size w5 ((w5.alloc (.cells Zm 33)).setRow w5.heap.size E):=bm ((aA _ _).alloc (ah _) _) (ah _) E;have e5:=setRow_heap (w5.alloc (.cells Zm 33)) w5.heap.size _ E _ _ y5;obtain⟨H6,E6,Y5,HE1,HE2,HG⟩:=Cy (show _∧_∧_∧_ from⟨h5.bel g5,n5.bel g5,bk g5 m5',(HH4.out.to (P:=P) (P':=P) (X':=X) ⟨k5,fun _ _ q=>q,fun _ _ q=>q⟩).bels g5⟩) (show _∧_ from⟨(aq e5 0).trans hE0,(aq e5 1).trans hEo⟩) y5 hE1 hE2 n5.kb.size;clear kd h5 k5 m5' n5 hpl hls hE hE1 hE2 hE0 hEo y5 g5 e5 B4 M4 HH4
      go_upto_region 5 with(refine bh rfl 33 (.tmp 8) (.tmp 20) rfl w5.heap.size 33 Zm E (by rfl) (by rfl) Y5.out (by rw[HE2.out];rfl) (by rw[HE2.out];rfl) HE1.out ?_;generalize((w5.alloc (.cells Zm 33)).setRow w5.heap.size E)=w6 at H6 E6⊢;clear Y5)
      generalize w5.heap.size=G at E6 HG⊢;have hGX:¬X G:=fun q=>by have:=HX.out _ q;have:=HG.out;omega
      refine hg (fun w'=>w'.cell? ⟨G,0,none⟩=some (.int .i64 x.1.id)∧w'.cell? ⟨G,1,none⟩=some (.int .i64 x.1.op)) ?_;intro w7 hb7 _ _;have T7:w7.cell? ⟨G,0,none⟩=some (.int .i64 x.1.id)∧w7.cell? ⟨G,1,none⟩=some (.int .i64 x.1.op):=⟨(hb7.cell (bj E6.out.1)).trans E6.out.1,(hb7.cell (bj E6.out.2)).trans E6.out.2⟩;refine hu 0 (.pointer (some ⟨C,0,none⟩)) rfl T7 ?_;refine hu 1 (.pointer (some ⟨G,0,none⟩)) rfl T7 ?_;refine hl 2 ⟨G,0,none⟩ (.int .i64 x.1.id) rfl T7 (fun _ q=>q.1) ?_;refine hu 3 (.pointer (some ⟨G,1,none⟩)) rfl T7 ?_;refine hl 4 ⟨G,1,none⟩ (.int .i64 x.1.op) rfl T7 (fun _ q=>q.2) ?_;refine hc 5 (s8 x.1.op w7) rfl (fun w' hb=>⟨(hb.cell (bj T7.1)).trans T7.1,(hb.cell (bj T7.2)).trans T7.2⟩) ?_;intro w8 hb8;have T8:w8.cell? ⟨G,0,none⟩=some (.int .i64 x.1.id)∧w8.cell? ⟨G,1,none⟩=some (.int .i64 x.1.op):=⟨(hb8.cell (bj T7.1)).trans T7.1,(hb8.cell (bj T7.2)).trans T7.2⟩;have kR0:=oC x.1.id (gk x.1.op) 118 [] [] w8;refine hc 6 kR0 rfl (fun w' hb=>⟨(hb.cell (bj T8.1)).trans T8.1,(hb.cell (bj T8.2)).trans T8.2⟩) ?_;intro w9 hb9;have b9:=cM hb7 (cM hb8 hb9);have T9:w9.cell? ⟨G,0,none⟩=some (.int .i64 x.1.id)∧w9.cell? ⟨G,1,none⟩=some (.int .i64 x.1.op):=⟨(hb9.cell (bj T8.1)).trans T8.1,(hb9.cell (bj T8.2)).trans T8.2⟩;have ks:=cS w0 P X C {s with ms:=s.ms.eraseIdx j} x.1.id (gk x.1.op) 118 w9 (H6.out.1.bel b9) (H6.out.2.2.2.bels b9) (by show s.out.length≤_;have:=HL.out.2;omega);rw[show(ad x.1.id (gk x.1.op) 118).row=Mg.row {id:=x.1.id,op:=gk x.1.op,code:=118,matched:=[],text:=[]} from rfl] at ks;refine hcl 7 ks rfl ?_;rintro e w10 ⟨⟨bb,rfl⟩,P10,X10,h10,n10⟩;have hlo:(Cs.sent {s with ms:=s.ms.eraseIdx j} (ad x.1.id (gk x.1.op) 118)).out.length≤1099511627776:=by
       have h1:=HL.out.2;unfold Cs.sent
       split
       ·rename_i hw
        have h2:=jM hw;show(s.out++_).length≤_;rw[bd]
        omega
       ·show s.out.length≤_
        omega
      have FIN:CaR P X C w.heap.size A w ANS m.id (I0) w10:=⟨0,_,P10,X10,rfl,h10,(H6.out.2.1.bel b9).trans n10,HFIN.out,hlo,n10.kb.at (bk b9 H6.out.2.2.1) (fun q=>by have:=HX.out _ q;omega)⟩;have HF:=hid FIN;refine⟨_,rfl,⟨(n10.kb.cell T9.1 hGX),(n10.kb.cell T9.2 hGX)⟩,?_⟩;clear FIN hlo h10 n10 ks T9 b9 kR0 hb9 T8 hb8 T7 hb7 H6 E6
      go_wp2_with fail
      go_meet
      exact HF.out
 case rest=>
  obtain⟨code,s2,P2,X2,rfl,h2,n2,hans,hlo,hM⟩:=hcut;have q0:wc.cell? ⟨w.heap.size,0,none⟩=some (.int .i64 m.id):=(aq hM 0).trans HA.out.2.1;have kR0:=oC m.id 24 code [] [] wc;obtain⟨HM,HMM⟩:=Cg (show _∧_∧_∧_ from⟨h2,n2,hans,hlo⟩) (Hm.to HB0.out n2);clear h2 n2 hans hlo hM H3 HR HK HOK
  go_wp2_with fail
  refine ag kR0 ?_;rintro e w5 ⟨rfl,hb5⟩;have ks:=cS w0 P2 X2 C s2 m.id 24 code w5 (HM.out.1.bel hb5) (HMM.out.bels hb5) HM.out.2.2.2;rw[HM.out.2.2.1] at ks;have HB5:=hid hb5;clear kR0 hb5 q0
  go_wp2_with fail
  refine ag ks ?_;rintro e w6 ⟨⟨bb,rfl⟩,P6,X6,h6,n6⟩;have HF:=hid (show em P X C w ANS w6 from⟨P6,X6,h6,(HM.out.2.1.bel HB5.out).trans n6⟩);clear ks h6 n6 HM HMM HB5
  go_wp2_with fail
  go_end0
  exact⟨rfl,HF.out⟩
theorem j0{id op:Int}{ks rest:List El}{m:Mg}{l:Ls}(h:oDo id op ks=some ((m,l),rest)):m.value.length≤bD ks:=by
 have key:∀{p:Prop} [Decidable p] {a b:Option ((Mg×Ls)×List El)},(a=some ((m,l),rest)→m.value.length≤bD ks)→(b=some ((m,l),rest)→m.value.length≤bD ks)→((if p then a else b)=some ((m,l),rest)→m.value.length≤bD ks):=fun ha hb h=>by split at h;exact ha h;exact hb h
 have hadd:∀o,fh id o ks=some ((m,l),rest)→m.value.length≤bD ks:=by
  intro o h;simp only[fh,ax,aV] at h;obtain⟨d,h1,x,h2,h⟩:=h;cases h
  simp
 revert h
 unfold oDo;refine key (fun h=>?_) (key (fun h=>?_) (key (fun h=>?_) (key (fun h=>hadd 8 h) (key (fun h=>hadd 4 h) (key (fun h=>?_) (key (fun h=>?_) (key (fun h=>?_) (key (fun h=>?_) (fun h=>?_)))))))))
 ·simp only[gU,ax] at h
  obtain⟨v,h1,d,h2,s,h3,h⟩:=h
  split at h
  ·cases h
   simp
  ·simp only[ax] at h
   obtain⟨k,h4,t,h5,z,h6,h7⟩:=h;cases (bY h7).1
   simp
 ·simp only[fG,ax,aV] at h
  obtain⟨d,h1,s,h2,r,h4,z,h5,t,h6,y,h7,f,h8,k,h9,a,h10,h⟩:=h;cases h
  simp
 ·simp only[fH,ax,aV] at h
  obtain⟨d,h1,x,h2,h⟩:=h;cases h
  simp
 ·simp only[gV,ax,aV] at h
  obtain⟨d,h1,n,h2,y,h5,s,h7,h⟩:=h;cases h
  simp
 ·simp only[eZ,ax] at h
  obtain⟨d,h1,k,h2,t,h5,v,h7,h⟩:=h;cases (bY h).1;have q1:=dF h1;obtain⟨e,g1,g2,g3⟩:=dY h2;have q2:=dB g1;have q3:=dF h5;have q4:=dF h7;simp only
  omega
 ·simp only[fI,ax,aV] at h
  obtain⟨o,h1,v,h7,h⟩:=h;cases h;obtain⟨e,g1,g2,g3⟩:=dY h1;have q3:=gL h7;simp only
  omega
 ·simp only[dI,ax] at h
  obtain⟨c,h1,a,h2,t,h5,h⟩:=h;have q1:=gm h1;have q2:=dF h2;have q3:=dF h5
  split at h
  ·simp only[ax] at h
   obtain⟨o,h7,h⟩:=h;have q4:=gL h7
   split at h
   ·cases h
   ·simp only[aV] at h
    obtain⟨v,h9,h⟩:=h;have q5:=gL h9;cases h;simp only
    omega
  ·cases h
   simp
 ·cases h
theorem j1{id:Int}{e:El}{x:Mg×Ls}(h:oOp id e=some x):x.1.value.length≤cW e:=by
 unfold oOp at h
 split at h
 ·simp only[ax] at h
  obtain⟨s,h1,h⟩:=h
  split at h
  ·cases h;simp
  ·cases h
 ·split at h
  ·simp only[aV] at h
   obtain⟨s,h1,h⟩:=h;cases h
   simp
  ·split at h
   ·simp only[aV] at h
    obtain⟨s,h1,h⟩:=h;cases h
    simp
   ·simp only[ax] at h
    obtain⟨r,h1,y,h3,h4⟩:=h;have q:=dB h1;obtain⟨e1,_⟩:=bY h4;obtain⟨y1,y2⟩:=y;simp only at e1;subst e1;have:=j0 h3
    omega
theorem ir{e:El}{y:Mg×Ls}(h:dU e=some y):y.1.value.length≤cW e:=by
 simp only[dU,ax] at h;obtain⟨r,h1,n,h2,x,h3,h⟩:=h;have q1:=dB h1;have q2:=gm h2;obtain⟨e3,g1,g2,g3⟩:=dY h3;have q3:=j1 g1
 split at h
 ·simp only[ax] at h
  obtain⟨c,h4,h5⟩:=h;cases (bY h5).1;simp only
  omega
 ·obtain⟨e1,_⟩:=bY h
  rw[←e1]
  omega
theorem gp{b:List UInt8}{y:Mg×Ls}(h:dy b=.ok y):y.1.value.length≤65536:=by
 unfold dy fO at h;cases hr:bP 20 b with
 |error c=>rw[hr] at h;cases h
 |ok p=>
  obtain⟨el,r⟩:=p;rw[hr] at h;cases r with
  |cons x r=>cases h
  |nil=>
   simp only at h;cases hT:dU el with
   |none=>rw[hT] at h;cases h
   |some z=>
    rw[hT] at h;simp only at h
    split at h
    ·cases h
     have h1:=(fL 20 b el [] hr).2;have h2:=ir hT
     omega
    ·cases h
def Cs.pot(s:Cs):Nat:=s.ms.length+s.inn.length
structure NxI (s:Cs):Prop where
 ms:s.ms.length≤16
 val:∀y∈s.ms,LsOk y.1 y.2∧y.1.value.length≤1000000
 bd:s.out.length+200000*(s.ms.length+s.inn.length)+(if s.cl=true then 0 else 70000)≤1099511627776
theorem gy:Dx.length≤65536:=jM CT
theorem a7{s:Cs}(h:NxI s)(hc:¬s.cl=true):NxI s.gone∧s.gone.pot≤s.pot:=by
 have h1:=h.bd;have h2:=gy;rw[if_neg hc] at h1;refine⟨⟨by simp[Cs.gone,Cs.shut],(fun y hy=>by simp[Cs.gone,Cs.shut] at hy),?_⟩,by simp[Cs.gone,Cs.shut,Cs.pot]⟩;show(s.out++Dx).length+200000*(0+0)+(if true=true then 0 else 70000)≤_;rw[bd,if_pos rfl]
 omega
theorem g7{s:Cs}{y:Mg×Ls}{k:Nat}(h:NxI s)(hc:¬s.cl=true)(hy:LsOk y.1 y.2∧y.1.value.length≤1000000)(hk:2≤k)(hkl:k≤s.inn.length)(hm:s.ms.length<16):NxI (Cs.comes {s with inn:=s.inn.drop k} y)∧(Cs.comes {s with inn:=s.inn.drop k} y).pot≤s.pot:=by
 have h1:=h.bd;rw[if_neg hc] at h1;have hd:(s.inn.drop k).length=s.inn.length -k:=List.length_drop;unfold Cs.comes
 split
 ·refine⟨⟨by simp[Cs.shut],(fun y hy=>by simp[Cs.shut] at hy),?_⟩,by simp[Cs.shut,Cs.pot]⟩
  show s.out.length+200000*(0+0)+(if true=true then 0 else 70000)≤_;rw[if_pos rfl]
  omega
 ·split
  ·have hf:(s.ms.filter fun z=>z.1.id !=y.1.target).length≤s.ms.length:=List.length_filter_le _ _
   refine⟨⟨by show(s.ms.filter _).length≤16;omega,fun z hz=>h.val z (List.mem_filter.1 hz).1,?_⟩,by show(s.ms.filter _).length+(s.inn.drop k).length≤s.ms.length+s.inn.length;omega⟩;show s.out.length+200000*((s.ms.filter _).length+(s.inn.drop k).length)+(if s.cl=true then 0 else 70000)≤_;rw[if_neg hc]
   omega
  ·refine⟨⟨by show(s.ms++[y]).length≤16;simp;omega,fun z hz=>?_,?_⟩,by show(s.ms++[y]).length+(s.inn.drop k).length≤s.ms.length+s.inn.length;simp;omega⟩
   ·rcases List.mem_append.1 hz with q|q
    ·exact h.val z q
    ·rw[List.mem_singleton] at q;rw[q];exact hy
   ·show s.out.length+200000*((s.ms++[y]).length+(s.inn.drop k).length)+(if s.cl=true then 0 else 70000)≤_
    rw[if_neg hc,bd,List.length_singleton]
    omega
theorem az:∀(n:Nat) (s:Cs),NxI s→NxI (Cs.cut n s)∧(Cs.cut n s).pot≤s.pot
 |0,s,h=>⟨h,ah _⟩
 |n+1,s,h=>by
  unfold Cs.cut
  split
  ·exact⟨h,ah _⟩
  ·rename_i h0
   have hc:¬s.cl=true:=fun q=>h0 (.inl q)
   have hm:s.ms.length<16:=Nat.lt_of_not_le fun q=>h0 (.inr q)
   split
   ·exact⟨h,ah _⟩
   ·rename_i hf
    split
    ·exact a7 h hc
    ·rename_i hz
     have hz:(eA s.inn).2=0:=Classical.not_not.1 hz;have hkl:(eA s.inn).1≤s.inn.length:=Nat.le_of_not_lt fun q=>hf (.inr ⟨hz,q⟩)
     have hk:2≤(eA s.inn).1:=by have:=mh s.inn hz;unfold eA;simp only;omega
     split
     ·exact a7 h hc
     ·rename_i y hy
      split
      ·exact a7 h hc
      ·obtain⟨q1,q2⟩:=g7 h hc (y:=y) ⟨(fi hy).2,by have:=gp hy;omega⟩ hk hkl hm
       obtain⟨q3,q4⟩:=az n _ q1;exact⟨q3,Nat.le_trans q4 q2⟩
theorem dr(s:Cs)(m:Mg):(s.sent m).inn=s.inn∧(s.sent m).ms=s.ms∧(s.sent m).cur=s.cur∧(s.sent m).cl=s.cl∧(s.sent m).out.length≤s.out.length+65536:=by
 unfold Cs.sent
 split
 ·rename_i h
  have:=jM h;refine⟨rfl,rfl,rfl,rfl,?_⟩;show(s.out++(cR m {}).1).length≤_;rw[bd]
  omega
 ·exact⟨rfl,rfl,rfl,rfl,by omega⟩
theorem g8(s:Cs)(y:Mg):(s.cancels y).inn=s.inn∧(∀z∈(s.cancels y).ms,z∈s.ms)∧(s.cancels y).ms.length≤s.ms.length∧(s.cancels y).cur=s.cur∧(s.cancels y).cl=s.cl∧(s.cancels y).out.length≤s.out.length+131072:=by
 have key:∀m,(s.sent m).inn=s.inn∧(∀z∈(s.sent m).ms,z∈s.ms)∧(s.sent m).ms.length≤s.ms.length∧(s.sent m).cur=s.cur∧(s.sent m).cl=s.cl∧(s.sent m).out.length≤s.out.length+131072:=fun m=>by
  obtain⟨h1,h2,h3,h4,h5⟩:=dr s m;exact⟨h1,by rw[h2];exact fun _ q=>q,by rw[h2];exact ah _,h3,h4,by omega⟩
 unfold Cs.cancels
 split
 ·rename_i k _ _
  split
  ·exact key _
  ·split
   ·exact key _
   ·rename_i x _ _
    obtain⟨h1,h2,h3,h4,h5⟩:=dr (s.strike k) (ad x.1.id (gk x.1.op) 118);obtain⟨g1,g2,g3,g4,g5⟩:=dr ((s.strike k).sent (ad x.1.id (gk x.1.op) 118)) (ad y.id 24 0);refine⟨g1.trans h1,by rw[g2,h2];exact fun z q=>(List.mem_filter.1 q).1,by rw[g2,h2];exact List.length_filter_le _ _,g3.trans h3,g4.trans h4,?_⟩;have h5:_≤s.out.length+65536:=h5
    omega
 ·exact key _
def Cs.after(s:Cs)(y:Mg×Ls)(r:List (Mg×Ls)):Cs:=Cs.cut ((Cs.cancels {s with ms:=r} y.1).inn.length+1) (Cs.cancels {s with ms:=r} y.1)
def Cs.next:Nat→Cs→Option (Mg×Ls)×Cs
 |0,s=>(none,s)
 |n+1,s=>if s.cl=true∨s.cur.isSome=true then(none,s) else match s.ms with
  |[]=>(none,s)
  |y::r=>if gS y.1=true then Cs.next n (s.after y r) else(some y,s.took y r)
theorem fy{s:Cs}{y:Mg×Ls}{r:List (Mg×Ls)}(n:Nat)(hcl:s.cl=false)(hcu:s.cur=none)(hms:s.ms=y::r):Cs.next (n+1) s=if gS y.1=true then Cs.next n (s.after y r) else(some y,s.took y r):=by
 conv=>lhs;unfold Cs.next
 rw[if_neg (show ¬(s.cl=true∨s.cur.isSome=true) by rw[hcl,hcu];simp),hms]
theorem eb{s:Cs}{y:Mg×Ls}{r:List (Mg×Ls)}(h:NxI s)(hc:¬s.cl=true)(hms:s.ms=y::r):NxI (Cs.cancels {s with ms:=r} y.1)∧(Cs.cancels {s with ms:=r} y.1).pot<s.pot:=by
 obtain⟨h1,h2,h3,h4,h5,h6⟩:=g8 {s with ms:=r} y.1;have hl:s.ms.length=r.length+1:=by rw[hms];rfl
 have hb:=h.bd;have hm:=h.ms;rw[if_neg hc] at hb;have h3:(Cs.cancels {s with ms:=r} y.1).ms.length≤r.length:=h3;have h1:(Cs.cancels {s with ms:=r} y.1).inn=s.inn:=h1;have h6:(Cs.cancels {s with ms:=r} y.1).out.length≤s.out.length+131072:=h6;have h5:(Cs.cancels {s with ms:=r} y.1).cl=s.cl:=h5;refine⟨⟨by omega,fun z hz=>h.val z (by rw[hms];exact List.mem_cons_of_mem _ (h2 z hz)),?_⟩,?_⟩
 ·rw[h5,if_neg hc,h1]
  omega
 ·unfold Cs.pot
  rw[h1]
  omega
theorem ar{s:Cs}{y:Mg×Ls}{r:List (Mg×Ls)}(h:NxI s)(hc:¬s.cl=true)(hms:s.ms=y::r):NxI (s.after y r)∧(s.after y r).pot<s.pot:=by
 obtain⟨h1,h2⟩:=eb h hc hms;obtain⟨h3,h4⟩:=az ((Cs.cancels {s with ms:=r} y.1).inn.length+1) _ h1;exact⟨h3,Nat.lt_of_le_of_lt h4 h2⟩
theorem NxI.mono{s t:Cs}(h:NxI s)(h1:t.ms.length≤s.ms.length)(h2:∀y∈t.ms,y∈s.ms)(h3:t.inn=s.inn)(h4:t.out=s.out)(h5:t.cl=s.cl):NxI t:=
 ⟨Nat.le_trans h1 h.ms,fun y hy=>h.val y (h2 y hy),by have:=h.bd;rw[h3,h4,h5];omega⟩
theorem it{s:Cs}{y:Mg×Ls}{r:List (Mg×Ls)}(h:NxI s)(hms:s.ms=y::r):NxI (s.took y r):=
 (az _ _ (h.mono (t:={s with ms:=r,cur:=some (y.1.id,y.1.op)}) (by rw[hms];simp) (fun z hz=>by rw[hms];exact List.mem_cons_of_mem _ hz) rfl rfl rfl)).1
theorem ay:∀(n:Nat) (s:Cs),NxI s→NxI (Cs.next n s).2
 |0,s,h=>h
 |n+1,s,h=>by
  unfold Cs.next
  split
  ·exact h
  ·rename_i h0
   split
   ·exact h
   ·rename_i y r hms
    split
    ·exact ay n _ (ar h (fun q=>h0 (.inl q)) hms).1
    ·exact it h hms
theorem ej:∀(n:Nat) (s:Cs) (y:Mg×Ls),NxI s→(Cs.next n s).1=some y→LsOk y.1 y.2
 |0,s,y,_,hy=>by cases hy
 |n+1,s,y,h,hy=>by
  unfold Cs.next at hy
  split at hy
  ·cases hy
  ·rename_i h0
   split at hy
   ·cases hy
   ·rename_i z r hms
    split at hy
    ·exact ej n _ y (ar h (fun q=>h0 (.inl q)) hms).1 hy
    ·cases hy
     exact(h.val y (by rw[hms];exact List.mem_cons_self ..)).1
def nxC(s:Cs):Option (Mg×Ls)×Cs:=Cs.next (s.pot+1) s
theorem b8{s:Cs}(h:NxI s):NxI {(nxC s).2 with cur:=none}:=(ay (s.pot+1) s h).mono (ah _) (fun _ q=>q) rfl rfl rfl
theorem ck:∀(n:Nat) (s:Cs),NxI s→NxI (ab nxC n s).2∧∀y∈(ab nxC n s).1,LsOk y.1 y.2
 |0,s,h=>⟨h,fun y hy=>by cases hy⟩
 |n+1,s,h=>by
  have h1:=ej (s.pot+1) s;have h2:=ay (s.pot+1) s h;have h3:=b8 h;obtain⟨r,hr⟩:=nmm (nxC s);rw[show Cs.next (s.pot+1) s=nxC s from rfl,hr] at h1 h2;rw[hr] at h3;obtain⟨o,s'⟩:=r;cases o with
  |none=>rw[aL n hr];exact⟨h2,fun y hy=>by cases hy⟩
  |some y=>
   rw[aO n hr];obtain⟨q1,q2⟩:=ck n _ h3;refine⟨q1,fun z hz=>?_⟩;rcases aY.1 hz with rfl|q
   ·exact h1 _ h rfl
   ·exact q2 z q
def aF(C:Nat)(w:World):Nat:=match w.cell? ⟨C,1,none⟩ with|some (.slice _ n _)=>n|_=>0
theorem ek{P X:Nat→Prop}{C:Nat}{s:Cs}{w:World}(h:dc P X C s w):aF C w=s.ms.length:=by
 obtain⟨_,_,⟨a,cap,h1⟩,_⟩:=h.cells;unfold aF;rw[h1]
def fz(P X:Nat→Prop)(C E:Nat)(w:World)(ANS:Option (Mg×Ls)×Cs)(wr:World):Prop:=
 ∃(P1 X1:Nat→Prop) (s:Cs) (n:Nat),dc P1 X1 C s wr∧Nx P X w P1 X1 wr∧¬P1 E∧(∀g,P1 g→g<wr.heap.size)∧wr.heap[E]?=some (.cells Zm 33 (0,0))∧s.pot<n∧NxI s∧Cs.next n s=ANS
theorem cm(w0:World)(P X:Nat→Prop)(C:Nat)(s:Cs)(w:World)(h:dc P X C s w)(hH:Hm w0 X w)(hI:NxI s):
  Calls Tryz.prog 19 #[.pointer (some ⟨C,0,none⟩)] w (hU P X C w (Cs.next (s.pot+1) s)):=by
 obtain⟨ANS,hA⟩:=nmm (Cs.next (s.pot+1) s);rw[hA];generalize hPR:(hU P X C w ANS:Ending→World→Prop)=PR;have b1:=alb w Zm 33;have x1:=alz w Zm 33;have h1:=h.small.bel b1;obtain⟨HREL,HPR,HH⟩:=Ch (show fz P X C w.heap.size w ANS (w.alloc (.cells Zm 33)) from⟨_,X,s,s.pot+1,h1,⟨Kb.of b1,fun _ _ q=>q,fun _ _ q=>q.1⟩,(fun q=>Nat.lt_irrefl _ q.2),(fun g hg=>Nat.lt_of_lt_of_le hg.2 b1.size),x1,Nat.lt_succ_self _,hI,hA⟩) hPR hH;clear hPR b1 x1 h1 hA h hH hI
 go_enter Tryz.func19,Tryz.ntmps19
 go_wp2_with fail
 go_loopw [] (fun wr=>fz P X C w.heap.size w ANS wr) (fun wr=>aF C wr+pm C wr)
 case atStart=>exact HREL.out
 case round=>
  obtain⟨P1,X1,s1,n,hat,hnx,hPE,hPl,xr0,hn,hI,hnext⟩:=hrel;have hM0:aF C wr+pm C wr=s1.pot:=by rw[ek hat,vS hat];rfl
  have HM0:=Lib.hid hM0;have hsz:=hnx.kb.size;have hXE:¬X1 w.heap.size:=fun q=>hPE (by obtain⟨_,_,_,_,_,_,q2⟩:=hat;exact q2.b.xP _ q)
  obtain⟨n,rfl⟩:∃k,n=k+1:=⟨n -1,by omega⟩;obtain⟨c8,c3,⟨av,cap,c1⟩,z3⟩:=hat.cells;clear hM0
  by_cases hid:s1.cl=true∨s1.cur.isSome=true∨s1.ms=[]
  ·have hans:ANS=(none,s1):=by
    rw[←hnext];unfold Cs.next
    by_cases h1:s1.cl=true∨s1.cur.isSome=true
    ·rw[if_pos h1]
    ·rw[if_neg h1]
     have h2:s1.ms=[]:=by
      rcases hid with q|q|q
      ·exact absurd (.inl q) h1
      ·exact absurd (.inr q) h1
      ·exact q
     rw[h2]
   obtain⟨D,hD⟩:=nmm (Zm:Array Value);have hD1:D.all (·.oneCell')=true:=by rw[←hD];simp[Value.oneCell']
   have hD2:D.size=28:=by rw[←hD];rfl
   have e3:=setRow_heap wr w.heap.size _ D _ _ xr0;have FIN:PR (.returned (.tuple #[.agg D,Bf])) (wr.setRow w.heap.size D):=by
    rw[←HPR.out,hans];exact⟨by rw[←hD];rfl,P1,X1,hat.row hPE D,hnx.kb.row (.inr (ah _)) D,hnx.xs,hnx.ps⟩
   have c3':(∃F,wr.cell? ⟨C,3,none⟩=some (.pointer (some ⟨F,0,none⟩)))∨(s1.cur=none∧wr.cell? ⟨C,3,none⟩=some (.pointer none)):=by
    cases hcu:s1.cur with
    |none=>exact .inr ⟨rfl,c3 hcu⟩
    |some c=>exact .inl (hat.cells2 hcu).1
   have HX:Hid (wr.cell? ⟨C,8,none⟩=some (.bool true)∨(wr.cell? ⟨C,8,none⟩=some (Bf)∧∃F,wr.cell? ⟨C,3,none⟩=some (.pointer (some ⟨F,0,none⟩)))∨(wr.cell? ⟨C,8,none⟩=some (Bf)∧wr.cell? ⟨C,3,none⟩=some (.pointer none)∧wr.cell? ⟨C,1,none⟩=some (.slice av 0 cap))):=Lib.hid (by
    cases hcl:s1.cl with
    |true=>rw[hcl] at c8;exact .inl c8
    |false=>
     rw[hcl] at c8;rcases c3' with q|⟨q0,q⟩
     ·exact .inr (.inl ⟨c8,q⟩)
     ·refine .inr (.inr ⟨c8,q,?_⟩)
      rcases hid with r|r|r
      ·rw[hcl] at r;cases r
      ·rw[q0] at r;cases r
      ·rw[r] at c1;exact c1)
   obtain⟨XR,HD,HD1,HD2,HF,E3⟩:=Cy xr0 hD hD1 hD2 FIN e3;clear c8 c3 c1 z3 c3' FIN hans hnext hat hnx hPE hPl xr0 hI hid hD hD1 hD2 e3 hn;rcases HX.out with q8|⟨q8,F,q3⟩|⟨q8,q3,q1⟩
   all_goals
    clear HX
    go_wp2_with (refine bh rfl 33 (.tmp 2) (.tmp 44) rfl w.heap.size 33 Zm D (by rfl) (by show Act.eval _ (.tmp 44)=.agg D;rw[←HD.out];rfl) XR.out (by rw[HD2.out];rfl) (by rw[HD2.out];rfl) HD1.out ?_;generalize wr.setRow w.heap.size D=w4 at E3 HF⊢;clear XR)
    refine aH (v:=.tuple #[.agg D,Bf]) ?_ rfl HF.out
    simp[results,Tryz.f19]
    show((Sem.run Tryz.prog (loadVar 33 ⟨w.heap.size,0,none⟩) w4).andThen fun a w'=>Result.ok (Value.tuple #[a,Bf]) w')=_;rw[aJ (P:=Tryz.prog) w4 w.heap.size 33 33 D (0,0) _ E3.out (show Tryz.prog.underlying 33=_ from Tryz.underlying33) (by rfl) (by rw[HD2.out];rfl)]
    simp
  ·have hcl:s1.cl=false:=by cases hc:s1.cl with|false=>rfl|true=>exact absurd (.inl hc) hid
   have hcu:s1.cur=none:=by cases hc:s1.cur with|none=>rfl|some c=>exact absurd (.inr (.inl (by rw[hc];rfl))) hid
   obtain⟨y,r,hms⟩:∃y r,s1.ms=y::r:=by
    cases hm:s1.ms with
    |nil=>exact absurd (.inr (.inr hm)) hid
    |cons y r=>exact⟨y,r,rfl⟩
   have c3:=c3 hcu;have hml:s1.ms.length=r.length+1:=by rw[hms];rfl
   rw[hml] at c1;rw[hcl] at c8;have hg0:decide (((r.length+1:Nat):Int)>0)=true:=aC (by omega);have kd:=sA P1 X1 C s1 0 y wr hat (by rw[hms];rfl) (by have:=hI.ms;omega);rw[show({s1 with ms:=s1.ms.eraseIdx 0}:Cs)={s1 with ms:=r} by rw[hms];rfl] at kd;have hnext2:(if gS y.1=true then Cs.next n (s1.after y r) else(some y,s1.took y r))=ANS:=by
    rw[←hnext];exact(fy n hcl hcu hms).symm
   have hcn:¬s1.cl=true:=by rw[hcl];simp
   have hci:=eb hI hcn hms;have hai:=ar hI hcn hms;have hCl:C<wr.heap.size:=hPl C (by obtain⟨_,_,_,_,_,_,q2⟩:=hat;exact q2.b.xP _ q2.b.xC);obtain⟨HAI,HI,HNX,HNEXT,HP,HCU,HXC⟩:=Ck (show _∧_ from⟨hci,hai⟩) hI hnx hnext2 (show _∧_∧_∧_∧_∧_∧_∧_∧_ from⟨hPE,hPl,hXE,xr0,hn,hml,hCl,hcl,hms⟩) hcu hat.xC;clear hid hnext hnext2 hci hai hcn hI hnx hPE hPl hXE xr0 hn hml hat hms hcl hcu hCl z3
   go_wp2_with fail
   refine ag kd ?_;rintro e w2 ⟨⟨m,rfl,hpl,hls⟩,h2,k2⟩;have x2:=k2.at HP.out.2.2.2.1 HP.out.2.2.1;obtain⟨D,hD⟩:=nmm m.row;have hD1:D.all (·.oneCell')=true:=by rw[←hD];exact hls.one
   have hD2:D.size=28:=by rw[←hD];rfl
   have hD0:D[0]?=some (.int .i64 y.1.id):=by rw[←hD,←hpl];rfl
   have hDo:D[1]?=some (.int .i64 y.1.op):=by rw[←hD,←hpl];rfl
   have hic:gS m=gS y.1:=by rw[←hpl];rfl
   have hk:=k2.size;have hvl:m.value.length≤1000000:=by
    have:m.value=y.1.value:=by rw[←hpl];rfl
    rw[this];exact(HI.out.val y (by rw[HP.out.2.2.2.2.2.2.2.2];exact List.mem_cons_self ..)).2
   have kcc:=fun(W:World) (P':Nat→Prop) (hW:dc P' X1 C {s1 with ms:=r} W) (hM:Hm w0 X1 W)=>dl w0 P' X1 C {s1 with ms:=r} m W hW hM (by rw[hD];exact hD1) hvl (by show r.length≤1000;have h1:=HI.out.ms;have h2:=HP.out.2.2.2.2.2.1;omega) (by show s1.out.length+70000≤_;have h1:=HI.out.bd;have h2:=HP.out.2.2.2.2.2.1;omega)
   have hcm:Cs.cancels {s1 with ms:=r} m=Cs.cancels {s1 with ms:=r} y.1:=by rw[←hpl];rfl
   rw[hcm,hD] at kcc;rw[hD];have ki:=fun W=>ws m W
   rw[hD,hic] at ki;have y3:=alz w2 Zm 33;have g3:Below w2.heap.size w2 ((w2.alloc (.cells Zm 33)).setRow w2.heap.size D):=bm ((aA _ _).alloc (ah _) _) (ah _) D;have e3:=setRow_heap (w2.alloc (.cells Zm 33)) w2.heap.size _ D _ _ y3;obtain⟨H3,Y3,HK,HD,HD0,HDO,HD1,HD2,KC,KB2,G3⟩:=CA (show _∧_∧_∧_∧_ from⟨h2.bel g3,bk g3 x2,e3,k2.bel g3,g3.size⟩) y3 (show _∧_∧_ from⟨hpl,hls,hk⟩) hD hD0 hDo hD1 hD2 kcc k2 g3;clear kd c1 c3 c8 hg0 hpl hls h2 k2 x2 hD hD0 hDo hD1 hD2 hic hk hvl kcc hcm y3 g3 e3
   go_wp2_with (first
    |(refine bh rfl 33 (.tmp 4) (.tmp 30) rfl w2.heap.size 33 Zm D (by rfl) (by rfl) Y3.out (by rw[HD2.out];rfl) (by rw[HD2.out];rfl) HD1.out ?_;generalize((w2.alloc (.cells Zm 33)).setRow w2.heap.size D)=w3 at H3 G3⊢;clear Y3)
    |(refine bg rfl 33 (.tmp 4) rfl w2.heap.size 33 D (0,0) (by rfl) H3.out.2.2.1 _ Tryz.underlying33 rfl (by rw[HD2.out];rfl) ?_))
   refine ag (show Calls _ _ _ _ _ from ki w3) ?_;rintro e w4 ⟨rfl,hb4⟩;have h4:=H3.out.1.bel hb4;have x4:=bk hb4 H3.out.2.1;have e4:=bk hb4 H3.out.2.2.1;have k4:Kb X1 wr w4:=H3.out.2.2.2.1.bel hb4;have H4:=Lib.hid (show _∧_∧_∧_ from⟨h4,x4,e4,k4⟩);obtain⟨ic0,hic⟩:=nmm (gS y.1);rw[hic];obtain⟨HIC,HB4⟩:=Cg hic hb4;clear ki h4 x4 e4 k4 hic hb4;cases ic0 with
   |true=>
    have hM4:Hm w0 X1 w4:=(HH.out.to HNX.out).to (P:=P1) (P':=P1) ⟨H4.out.2.2.2,fun _ _ q=>q,fun _ _ q=>q⟩;have kc:=KC.out w4 P1 H4.out.1 hM4;have HM4:=Lib.hid hM4;have E4:=H4.out.2.2.1;clear hM4 KC
    go_wp2_with (refine bg rfl 33 (.tmp 4) rfl w2.heap.size 33 D (0,0) (by rfl) E4 _ Tryz.underlying33 rfl (by rw[HD2.out];rfl) ?_)
    refine ag kc ?_;rintro e w5 ⟨rfl,P5,X5,h5,n5⟩;have kcut:=wo w0 P5 X5 C _ w5 h5 (HM4.out.to n5) (by have:=HAI.out.1.1.bd;omega) HAI.out.1.1.ms (by have:=HAI.out.1.1.bd;omega);have N5:=Lib.hid n5;clear kc h5 n5 E4
    go_wp2_with fail
    refine ag kcut ?_;rintro e w6 ⟨rfl,P6,X6,h6,n6⟩;have nw0:Nx P1 X1 wr P6 X6 w6:=(Nx.trans (P1:=P1) (X1:=X1) ⟨H4.out.2.2.2,fun _ _ q=>q,fun _ _ q=>q⟩ N5.out).trans n6;have hE1:=(gl HP.out.2.2.2.1);have x6:=nw0.kb.at HP.out.2.2.2.1 HP.out.2.2.1;have REL:fz P X C w.heap.size w ANS w6:=⟨_,X6,s1.after y r,n,h6.small,HNX.out.trans ⟨nw0.kb,nw0.xs,fun j hj q=>nw0.ps j hj q.1⟩,(fun q=>HP.out.1 (nw0.ps _ hE1 q.1)),(fun g hg=>hg.2),x6,by have h1:=HAI.out.2.2;have h2:=HP.out.2.2.2.2.1;omega,HAI.out.2.1,by have:=HNEXT.out;rw[HIC.out,if_pos rfl] at this;exact this⟩;have MEA:aF C w6+pm C w6<aF C wr+pm C wr:=by rw[HM0.out,ek h6,vS h6];exact HAI.out.2.2
    obtain⟨HR,HMEA⟩:=Cg REL MEA;clear REL MEA kcut h6 n6 nw0 hE1 x6 N5
    go_wp2_with fail
    go_roundw
    case rel=>exact HR.out
    case measure=>exact HMEA.out
   |false=>
    obtain⟨h4,x4,e4,k4⟩:=H4.out;have hFX:¬X1 w2.heap.size:=fun q=>by have h1:=HP.out.2.1 _ (by obtain⟨_,_,_,_,_,_,q2⟩:=h4;exact q2.b.xP _ q);have:=HK.out.2.2;omega
    have hE1:=(gl HP.out.2.2.2.1);obtain⟨d8,d3,_,z3⟩:=h4.cells;have d3:=d3 HCU.out;have h5:=h4.setCur (c:=(y.1.id,y.1.op)) e4 HD0.out HDO.out hFX;have hEC:w.heap.size≠C:=fun e=>HP.out.2.2.1 (by rw[e];exact HXC.out)
    have hFC:w2.heap.size≠C:=fun e=>hFX (by rw[e];exact HXC.out)
    have e5:=(heap_setCell_other w4 ⟨C,3,none⟩ w2.heap.size (.pointer (some ⟨w2.heap.size,0,none⟩)) hFC).trans e4;have x5:=(heap_setCell_other w4 ⟨C,3,none⟩ w.heap.size (.pointer (some ⟨w2.heap.size,0,none⟩)) hEC).trans x4;have k5:Kb X1 wr (w4.setCell ⟨C,3,none⟩ (.pointer (some ⟨w2.heap.size,0,none⟩))):=k4.set (.inl HXC.out) _;obtain⟨HFX,H5,E5,X5,K5⟩:=Cj hFX h5 e5 x5 k5;clear h4 x4 e4 k4 d8 h5 e5 x5 k5 H4 KC hEC hFC hFX
    go_wp2_with fail
    generalize w4.setCell ⟨C,3,none⟩ (.pointer (some ⟨w2.heap.size,0,none⟩))=w5 at H5 E5 X5 K5⊢;clear d3 z3;have hi:s1.inn.length≤1000000000:=by have:=HI.out.bd;omega
    have kc:=wo w0 _ X1 C _ w5 H5.out ((HH.out.to HNX.out).to (P:=P1) (P':=P1) ⟨K5.out,fun _ _ q=>q,fun _ _ q=>q⟩) hi (show r.length≤16 by have h1:=HI.out.ms;have h2:=HP.out.2.2.2.2.2.1;omega) (show s1.out.length≤_ by have:=HI.out.bd;omega);refine ag kc ?_;rintro e w6 ⟨rfl,P6,X6,h6,n6⟩;have e6:=n6.kb.at E5.out HFX.out;have x6:=n6.kb.at X5.out HP.out.2.2.1;have hw5:=K5.out.size;have hE5:=(gl X5.out);have hPE:¬P6 w.heap.size:=fun q=>by
     rcases n6.ps _ hE5 q with q|q
     ·exact HP.out.1 q
     ·have:=HK.out.2.2;omega
    have nw0:Nx P1 X1 wr P6 X6 w6:=⟨K5.out.step n6.kb fun _ _ q=>q,fun j hj q=>n6.xs j (by omega) q,fun j hj q=>by
     rcases n6.ps j (by omega) q with q|q
     ·exact q
     ·have:=HK.out.2.2;omega⟩
    have hwr:w.heap.size≤wr.heap.size:=HNX.out.kb.size;have FIN:PR (.returned (.tuple #[.agg D,.bool true])) (w6.setRow w.heap.size D):=by
     rw[←HPR.out,←HNEXT.out,HIC.out,if_neg (by decide),←HD.out];refine⟨m,P6,X6,rfl,HK.out.1,h6.row hPE _,⟨(HNX.out.trans nw0).kb.row (.inr (ah _)) _,(HNX.out.trans nw0).xs,(HNX.out.trans nw0).ps⟩,HK.out.2.1.kept fun g hg hl=>?_⟩;have hgr:g<wr.heap.size:=HP.out.2.1 g hg.1;have hge:g≠w.heap.size:=fun e=>HP.out.1 (e▸hg.1)
     have hg2:w6.heap[g]?=w2.heap[g]?:=(nw0.kb.block g hgr hg.2).trans (KB2.out.block g hgr hg.2).symm;refine⟨(setRow_other w6 w.heap.size g _ hge).trans hg2,fun hgw=>HNX.out.ps g hgw hg.1,?_,fun q=>hg.2 (nw0.xs g hgr q)⟩;have q6:=nw0.kb.size;have qs:(w6.setRow w.heap.size m.row).heap.size=w6.heap.size:=by simp[World.setRow]
     omega
    have t7:=setRow_heap w6 w.heap.size _ D _ _ x6;obtain⟨HF,T7,X6',E6⟩:=Ci FIN t7 x6 e6;clear FIN t7 x6 e6 h6 n6 kc H5 E5 X5 K5 hPE hw5 hE5 nw0 hwr hE1 hi
    go_wp2_with (first
     |(refine bg rfl 33 (.tmp 4) rfl w2.heap.size 33 D (0,0) (by rfl) E6.out _ Tryz.underlying33 rfl (by rw[HD2.out];rfl) ?_)
     |(refine bh rfl 33 (.tmp 2) (.tmp 43) rfl w.heap.size 33 Zm D (by rfl) (by rfl) X6'.out (by rw[HD2.out];rfl) (by rw[HD2.out];rfl) HD1.out ?_;generalize(w6.setRow w.heap.size D)=w7 at T7 HF⊢))
    refine aH (v:=.tuple #[.agg D,.bool true]) ?_ rfl HF.out;have hr:=aJ (P:=Tryz.prog) w7 w.heap.size 33 33 D (0,0) _ T7.out (show Tryz.prog.underlying 33=_ from Tryz.underlying33) (by rfl) (by rw[HD2.out];rfl)
    simp[results,Tryz.f19]
    show((Sem.run Tryz.prog (loadVar 33 ⟨w.heap.size,0,none⟩) w7).andThen fun a w'=>Result.ok (Value.tuple #[a,.bool true]) w')=_;rw[hr]
    simp
theorem ff(A B:Nat)(v u:Value)(xs:List Int)(w:World)(h1:w.ownsRow A 3 1 v xs.length (xs.map (Value.int .i64)))(h2:w.ownsRow B 3 1 u xs.length (xs.map (Value.int .i64)))(hle:xs.length≤1000):
  Cr 23 #[v,u] w (.bool true):=by
 obtain⟨n,hn⟩:=nmm xs.length;have key:∀(B:Nat) (v:Value),w.ownsRow B 3 1 v xs.length (xs.map (Value.int .i64))→∃a c,v=.slice a n c∧(0<n→∃g,a=some ⟨g,0,none⟩∧∀j x,xs[j]?=some x→w.cell? ⟨g,j,none⟩=some (.int .i64 x)):=fun B v h=>by
  rcases h.2 with⟨hv,h0⟩|⟨g,cap,cur,hv,_⟩
  ·exact⟨none,0,by rw[hv,←hn,h0],fun q=>by omega⟩
  ·refine⟨_,cap,by rw[hv,hn],fun _=>⟨g,rfl,fun j x hx=>?_⟩⟩
   have hc:=h.cells (g:=g) (by rw[hv];rfl) j (.int .i64 x) (by rw[List.getElem?_map,hx];rfl);rw[show(⟨g,0,none⟩:Addr).add j=⟨g,j,none⟩ by simp[Addr.add_lit]] at hc;exact hc
 obtain⟨a1,c1,rfl,k1⟩:=key A v h1;obtain⟨a2,c2,rfl,k2⟩:=key B u h2;rw[hn] at hle;obtain⟨HX,K1,K2⟩:=Ch hn k1 k2;clear h1 h2 key k1 k2 hn;have hq:((n:Int) !=(n:Int))=false:=by simp
 go_enter Tryz.func23,Tryz.ntmps23
 go_wp2_with fail
 go_loopw [5] (fun i wr=>∃k:Nat,i=.int .i64 (k:Int)∧k≤n∧Below w.heap.size w wr) (fun i _=>n -(RowKit.intOf i).toNat)
 case atStart=>exact⟨0,rfl,by omega,aA _ _⟩
 case round=>
  obtain⟨k,rfl,hk,hb⟩:=hrel
  by_cases hkl:k<n
  ·obtain⟨g1,rfl,q1⟩:=K1.out (by omega)
   obtain⟨g2,rfl,q2⟩:=K2.out (by omega);obtain⟨x,hx⟩:∃x,xs[k]?=some x:=⟨_,aM (by rw[HX.out];exact hkl)⟩;have r1:=(hb.cell (bj (q1 k x hx))).trans (q1 k x hx);have r2:=(hb.cell (bj (q2 k x hx))).trans (q2 k x hx);have i1:(k:Int)<(n:Int):=by omega
   have i3:decide ((k:Int)<(n:Int))=true:=aC i1;have ixx:(x==x)=true:=by simp
   clear hx q1 q2
   go_upto_region 6 with fail
   refine hg (fun w'=>w'.cell? ⟨g1,k,none⟩=some (.int .i64 x)∧w'.cell? ⟨g2,k,none⟩=some (.int .i64 x)) ?_;intro w4 hb4 _ _;have TT:w4.cell? ⟨g1,k,none⟩=some (.int .i64 x)∧w4.cell? ⟨g2,k,none⟩=some (.int .i64 x):=⟨(hb4.cell (bj r1)).trans r1,(hb4.cell (bj r2)).trans r2⟩;refine hu 0 (.slice (some ⟨g1,0,none⟩) n c1) rfl TT ?_;refine hu 1 (.int .i64 (k:Int)) rfl TT ?_;refine hu 2 (.pointer (some ⟨g1,k,none⟩)) rfl TT ?_;refine hl 3 ⟨g1,k,none⟩ (.int .i64 x) rfl TT (fun _ q=>q.1) ?_;refine hu 4 (.slice (some ⟨g2,0,none⟩) n c2) rfl TT ?_;refine hu 5 (.int .i64 (k:Int)) rfl TT ?_;refine hu 6 (.pointer (some ⟨g2,k,none⟩)) rfl TT ?_;refine hl 7 ⟨g2,k,none⟩ (.int .i64 x) rfl TT (fun _ q=>q.2) ?_;refine hu 8 (.bool true) rfl TT ?_;have B5:=cM hb hb4;refine oS 9 w4 rfl TT ?_;simp only[Exit.then];refine‹∀(a:Act) (w:World),Code.wp _ _ _ a w→_› _ _ ?_;clear r1 r2 TT
   go_wp2_with fail
   go_roundw
   case rel=>exact⟨k+1,by go_num,by omega,B5⟩
   case measure=>simp[RowKit.intOf];omega
  ·obtain rfl:k=n:=by omega
   have i3:decide ((k:Int)<(k:Int))=false:=an (by omega)
   go_wp2_with fail
   go_ret
   exact⟨rfl,hb⟩
def hC(k:IntKind)(w:World)(v:Value)(xs:List Int):Prop:=
 ∃A c,v=.slice A xs.length c∧xs.length≤c∧(0<xs.length→∃g o,A=some ⟨g,o,none⟩∧∀i x,xs[i]?=some x→w.cell? ⟨g,o+i,none⟩=some (.int k x))
theorem j2(x:Int):∃q:Nat,q≤63∧bits .and .i64 x 63=(q:Int):=by
 refine⟨(BitVec.ofInt 64 x).toNat&&&63,Nat.and_le_right,?_⟩;have hq:(BitVec.ofInt 64 x).toNat&&&63≤63:=Nat.and_le_right;have h2:(BitVec.ofInt 64 (63:Int)).toNat=63:=by decide
 show IntKind.i64.wrap ((BitVec.ofInt 64 x&&&BitVec.ofInt 64 (63:Int)).toNat:Int)=_;rw[BitVec.toNat_and,h2];generalize(BitVec.ofInt 64 x).toNat&&&63=q at hq⊢
 simp[IntKind.wrap,IntKind.signed,IntKind.bits]
 omega
def f0(w:World)(C1 C20:Nat)(S:Cs)(b:List UInt8)(n:Nat)(p i:Value)(wr:World):Prop:=
 ∃a j:Nat,a≤b.length∧j≤n∧p=.int .i64 (a:Int)∧i=.int .i64 (j:Int)∧bF w C1 S C20 (Cs.feed {} (b.take a)) wr
theorem a8{b:List UInt8}(h:b.length≤9000):NxI (Cs.feed {} b):=by
 unfold Cs.feed;rw[if_neg (by simp)];refine(az _ _ ⟨by simp,(fun y hy=>by cases hy),?_⟩).1;show([]:List UInt8).length+200000*(([]:List (Mg×Ls)).length+([]++b).length)+(if false=true then 0 else 70000)≤_;simp only[aU,List.nil_append];rw[if_neg (by decide)]
 omega
theorem bs(NX:Cs→Option (Mg×Ls)×Cs):∀(n:Nat) (s:Cs),(ab NX n s).1.length≤n
 |0,_=>ah _
 |n+1,s=>by
  unfold ab
  split
  ·exact Nat.zero_le _
  ·exact Nat.succ_le_succ (bs NX n _)
theorem ca(b:List UInt8)(xs:List Int)(v:Value)(w:World)(hv:hC .i64 w v xs)(_:xs.length≤9223372036854775807)(hE:Env w):
  Cr 5 #[.string ⟨b.toArray⟩,v] w (.bool true):=by
 obtain⟨n,hn⟩:=nmm xs.length;obtain⟨av,cap,rfl⟩:∃a c,v=.slice a n c:=by obtain⟨a,c,h1,_⟩:=hv;exact⟨a,c,by rw[h1,hn]⟩
 obtain⟨HV,HN⟩:=Cg hv hn;have bw:=aA w.heap.size w;clear hv hn
 go_enter Tryz.func5,Tryz.ntmps5
 by_cases hbig:9000<b.length∨60<n
 ·have ka:=lA w hE
  have dd:(decide ((b.length:Int)>9000))=true∨(decide ((b.length:Int)>9000)=false∧decide ((n:Int)>60)=true):=by
   by_cases h9:9000<b.length
   ·exact .inl (aC (by omega))
   ·exact .inr ⟨an (by omega),aC (by rcases hbig with q|q<;>omega)⟩
  clear hbig;rcases dd with d1|⟨d1,d2⟩
  all_goals
   go_wp2_with fail
   refine ag ka ?_;rintro e wE ⟨rfl,hbE⟩;have bE:=cM bw hbE;clear ka hbE
   go_wp2_with fail
   go_ret
   exact⟨rfl,bE⟩
 ·have d1:decide ((b.length:Int)>9000)=false:=an (by omega)
  have d2:decide ((n:Int)>60)=false:=an (by omega);obtain⟨HL,HEV⟩:=Cg (show b.length≤9000∧n≤60 from⟨by omega,by omega⟩) hE;have kn:=nM w;clear hbig hE bw
  go_wp2_with fail
  refine ag kn ?_;rintro e w1 ⟨rfl,h1,b1⟩;have kn2:=nM w1;have H1:=hid (show _∧_ from⟨h1,b1⟩);clear kn h1 b1 d1 d2
  go_wp2_with fail
  refine ag kn2 ?_;rintro e w2 ⟨rfl,h2,b2⟩;have hlt:w.heap.size<w1.heap.size:=H1.out.1.xl _ rfl;have T2:Two w (Xc w.heap.size) (Xc w.heap.size) w.heap.size {} (Xc w1.heap.size) (Xc w1.heap.size) w1.heap.size {} w2:=
   ⟨H1.out.1.bel b2,h2,⟨HEV.out,cM H1.out.2 b2,fun g hg=>by rw[show g=_ from hg];exact ah _⟩,⟨HEV.out,cM H1.out.2 b2,fun g hg=>by rw[show g=_ from hg];omega⟩,fun g hg=>by rw[show g=_ from hg];have:=b2.size;omega,fun g hg=>h2.xl g hg,fun g q r=>by have e1:g=w.heap.size:=q;have e2:g=w1.heap.size:=r;omega⟩
  have kf:=gF w _ _ w.heap.size {} b w2 T2.a T2.m (by have:=HL.out.1;show 0+b.length≤_;omega) (by simp) (by simp);have HT2:=hid T2;clear kn2 h2 b2 T2 hlt H1;generalize w1.heap.size=C20 at HT2⊢;obtain⟨C1,hC1⟩:=nmm w.heap.size;have HC1:=hid hC1;rw[hC1] at kf HT2
  try rw[hC1]
  clear hC1
  go_wp2_with fail
  refine ag kf ?_;rintro e w3 ⟨rfl,P3,X3,h3,n3⟩;obtain⟨S,hS⟩:=nmm (Cs.feed {} b);rw[hS] at h3;have hNI:NxI S:=by rw[←hS];exact a8 HL.out.1
  obtain⟨HREL,HNI,HS⟩:=Ch (show f0 w C1 C20 S b n (I0) (I0) w3 from⟨0,0,Nat.zero_le _,Nat.zero_le _,rfl,rfl,by rw[List.take_zero,hG];exact⟨_,_,_,_,HT2.out.step h3 n3⟩⟩) hNI hS;clear kf h3 n3 HT2 hS hNI
  go_upto_block 0 with fail
  go_cut [7,8,9] from 26 to 49 (fun p _ _ wx=>∃a:Nat,a≤b.length∧p=.int .i64 (a:Int)∧bF w C1 S C20 (Cs.feed {} (b.take a)) wx)
  case first=>
   go_wp2_with fail
   go_loopw [7,8] (fun p i wr=>f0 w C1 C20 S b n p i wr) (fun _ i _=>n -(RowKit.intOf i).toNat)
   case atStart=>exact HREL.out
   case round=>
    obtain⟨a,j,ha,hj,rfl,rfl,P,X,P',X',T⟩:=hrel
    by_cases hlt:j<n
    ·have g1:decide ((j:Int)<(n:Int))=true:=aC (by omega)
     have hk1:(j:Int)<(n:Int):=by omega
     obtain⟨x,hx⟩:∃x,xs[j]?=some x:=⟨_,aM (by rw[HN.out];exact hlt)⟩;obtain⟨A0,c0,e0,_,hc⟩:=HV.out;obtain⟨g,o,hA,hcell⟩:=hc (by rw[HN.out];omega)
     injection e0 with e1 e2 e3
     rw[hA] at e1;subst e1;have q1:=(T.m.bel.cell (bj (hcell j x hx))).trans (hcell j x hx);obtain⟨q,hq,hqe⟩:=j2 x;have hwr:wrap64 ((a:Int)+(q:Int))=((a+q:Nat):Int):=by have:=HL.out.1;unfold wrap64;omega
     have hwi:wrap64 ((j:Int)+1)=((j+1:Nat):Int):=by have:=HL.out.2;unfold wrap64;omega
     have HT:=hid T;clear hx hcell hc e2 e3 hA T
     by_cases hkl:b.length<a+q
     ·have d1:decide (((a+q:Nat):Int)>(b.length:Int))=true:=aC (by omega)
      go_wp2_with fail
      go_meet
      exact⟨a,ha,rfl,_,_,_,_,HT.out⟩
     ·have d1:decide (((a+q:Nat):Int)>(b.length:Int))=false:=an (by omega)
      have hx1:(⟨b.toArray⟩:ByteArray).extract a (a+q)=⟨((b.drop a).take q).toArray⟩:=by rw[Lib.extract_eq,Nat.add_sub_cancel_left]
      have hN:=a8 (b:=b.take a) (by rw[List.length_take];have:=HL.out.1;omega);have hff:(Cs.feed {} (b.take a)).feed ((b.drop a).take q)=Cs.feed {} (b.take (a+q)):=by rw[cc,List.take_add]
      have kf:=gF w P' X' C20 (Cs.feed {} (b.take a)) ((b.drop a).take q) wr HT.out.b HT.out.m' (by have h1:=hN.bd;have h2:=HL.out.1;simp only[List.length_drop,List.length_take];omega) hN.ms (by have:=hN.bd;omega);rw[hff] at kf;have a1:(a:Int)≤((a+q:Nat):Int):=by omega
      have a2:((a+q:Nat):Int)≤(b.length:Int):=by omega
      clear hN hff
      go_wp2_with fail
      refine ag kf ?_;rintro e w5 ⟨rfl,P5,X5,h5,n5⟩;have HR:=hid (show f0 w C1 C20 S b n (.int .i64 ((a+q:Nat):Int)) (.int .i64 ((j+1:Nat):Int)) w5 from⟨a+q,j+1,by omega,by omega,rfl,rfl,_,_,_,_,(HT.out.swap.step h5 n5).swap⟩);clear kf h5 n5 HT q1
      go_wp2_with fail
      go_roundw
      case rel=>rw[hwi,show((a:Int)+(q:Int))=((a+q:Nat):Int) by omega];exact HR.out
      case measure=>rw[hwi];simp[RowKit.intOf];omega
    ·obtain rfl:j=n:=by omega
     have g1:decide ((j:Int)<(j:Int))=false:=an (by omega);have HT:=hid T;clear T
     go_wp2_with fail
     go_meet
     exact⟨a,ha,rfl,_,_,_,_,HT.out⟩
  case rest=>
   obtain⟨a,ha,rfl,P,X,P',X',T⟩:=hcut;have hx1:(⟨b.toArray⟩:ByteArray).extract a b.length=⟨(b.drop a).toArray⟩:=by rw[Lib.extract_eq];congr 2;exact List.take_of_length_le (by simp)
   have hN:=a8 (b:=b.take a) (by rw[List.length_take];have:=HL.out.1;omega);have hff:(Cs.feed {} (b.take a)).feed (b.drop a)=S:=by rw[cc,List.take_append_drop,HS.out]
   have kf:=gF w P' X' C20 (Cs.feed {} (b.take a)) (b.drop a) wc T.b T.m' (by have h1:=hN.bd;have h2:=HL.out.1;simp only[List.length_drop];omega) hN.ms (by have:=hN.bd;omega);rw[hff] at kf;have a1:(a:Int)≤(b.length:Int):=by omega
   have HT:=hid T;clear hN hff T HREL
   go_wp2_with fail
   refine ag kf ?_;rintro e w5 ⟨rfl,P5,X5,h5,n5⟩;have T5:=(HT.out.swap.step h5 n5).swap;have k1:=lY _ _ C1 S w5 T5.a (by have:=HNI.out.ms;omega);obtain⟨PA,XA,PB,XB,T5⟩:bF w C1 S C20 S w5:=⟨_,_,_,_,T5⟩;have HT5:=hid T5;clear kf h5 n5 T5 HT hx1 a1 ha
   go_wp2_with fail
   refine ag k1 ?_;rintro e w6 ⟨⟨v1,rfl,hv1⟩,hb6⟩;have k2:=lY _ _ C20 S w6 (HT5.out.bel hb6).b (by have:=HNI.out.ms;omega);obtain⟨HT6,HV1⟩:=Cg (HT5.out.bel hb6) hv1;clear k1 hv1 hb6 HT5
   go_wp2_with fail
   refine ag k2 ?_;rintro e w7 ⟨⟨v2,rfl,hv2⟩,hb7⟩;have k3:=ff _ _ v1 v2 S.ids w7 (ge HV1.out hb7) hv2 (by show(S.ms.map _).length≤1000;have:=HNI.out.ms;simp;omega);have HT7:=hid (HT6.out.bel hb7);clear k2 hv2 hb7 HT6 HV1
   go_wp2_with fail
   refine ag k3 ?_;rintro e w8 ⟨rfl,hb8⟩;have T8:=HT7.out.bel hb8;obtain⟨cl,hcl⟩:=nmm S.cl;have k4:=iM _ _ C1 S w8 T8.a;rw[hcl] at k4;obtain⟨HT8,HCL⟩:=Cg T8 hcl;clear k3 hb8 T8 HT7 hcl
   go_wp2_with fail
   refine ag k4 ?_;rintro e w9 ⟨rfl,hb9⟩;have T9:=HT8.out.bel hb9;have k5:=iM _ _ C20 S w9 T9.b;rw[HCL.out] at k5;have HT9:=hid T9;clear k4 hb9 T9 HT8
   go_wp2_with fail
   refine ag k5 ?_;rintro e w10 ⟨rfl,hb10⟩;have T10:=HT9.out.bel hb10;obtain⟨L,hL⟩:=nmm (ab nxC 400 S);have hLo:=ck 400 S HNI.out;have hLl:=bs nxC 400 S;have kd1:=ce NxI nxC w _ _ C1 S w10 T10.a T10.m HNI.out (fun P X s w' h hH hI=>cm w P X C1 s w' h hH hI) (fun s y hI _=>b8 hI);rw[hL] at kd1 hLo hLl;obtain⟨HT10,HLL⟩:=Cg T10 (show _∧_∧_ from⟨hL,hLo,hLl⟩);have hbn:(cl !=cl)=false:=by simp
   clear k5 hb10 T10 HT9 hL hLo hLl
   go_wp2_with fail
   refine ag kd1 ?_;rintro e w11 ⟨l1,Ms1,P1,X1,rfl,h11,n11,hr1,-⟩;have T11:=HT10.out.step h11 n11;have kd2:=ce NxI nxC w _ _ C20 S w11 T11.b T11.m' HNI.out (fun P X s w' h hH hI=>cm w P X C20 s w' h hH hI) (fun s y hI _=>b8 hI);rw[HLL.out.1] at kd2;obtain⟨HT11,HR1⟩:=Cg T11 hr1;clear kd1 h11 n11 hr1 T11
   go_wp2_with fail
   refine ag kd2 ?_;rintro e w12 ⟨l2,Ms2,P2,X2,rfl,h12,n12,hr2,-⟩;have T12:=(HT11.out.swap.step h12 n12).swap;have hxp:=HT10.out.b.xP;have hr1':Rw2 X1 (fun g=>g<w10.heap.size→PA g) w10.heap.size l1 Ms1 L.1 w12:=⟨n12.kb.own HR1.out.own fun g hg q=>by have:=(HR1.out.own.lt g hg).1;have:=q.2;omega,HR1.out.msg.kept fun g hg hl=>⟨n12.kb.block g hl fun q=>HT10.out.d g (hg.2.2.2 q.2) (hxp g q.1),Nat.lt_of_lt_of_le hl n12.kb.size,hg.2.1,hg.2.2⟩⟩;obtain⟨Z1,hz1,hzp1⟩:=hr1'.at;obtain⟨Z2,hz2,hzp2⟩:=hr2.at;have ka:=lA w12 T12.m.now;obtain⟨HZ,HT12⟩:=Cg (show _∧_∧_∧_ from⟨hz1,hzp1,hz2,hzp2⟩) T12;clear kd2 h12 n12 hr2 T12 hxp hr1' hz1 hzp1 hz2 hzp2 HT10 HT11 HR1
   go_wp2_with fail
   refine ag ka ?_;rintro e w13 ⟨rfl,hb13⟩;have ks:=cF l1 l2 Z1 Z2 w13 (HZ.out.1.below hb13) (HZ.out.2.2.1.below hb13) (by have h1:=congrArg List.length HZ.out.2.2.2;rw[List.length_map] at h1;have:=HLL.out.2.2;omega) (fun z hz=>LsOk.pl (HLL.out.2.1.2 (pl2 z) (by rw[←HZ.out.2.2.2];exact List.mem_map_of_mem hz))) (HZ.out.2.1.trans HZ.out.2.2.2.symm);have HT13:=hid (HT12.out.bel hb13);clear ka hb13 HZ HT12
   go_wp2_with fail
   refine ag ks ?_;rintro e w14 ⟨rfl,hb14⟩;have T14:=HT13.out.bel hb14;obtain⟨so0,hso⟩:=nmm L.2.out;obtain⟨c2,hc2⟩:=nmm L.2.cl;have kt:=cf _ _ C1 L.2 w14 T14.a;rw[hso] at kt;obtain⟨HT14,HSO⟩:=Cg T14 (show _∧_ from⟨hso,hc2⟩);clear ks hb14 T14 HT13 hso hc2
   go_wp2_with fail
   refine ag kt ?_;rintro e w15 ⟨rfl,P15,X15,h15,n15⟩;have T15:=HT14.out.step h15 n15;have kt2:=cf _ _ C20 L.2 w15 T15.b;rw[HSO.out.1] at kt2;have HT15:=hid T15;clear kt h15 n15 T15 HT14
   go_wp2_with fail
   refine ag kt2 ?_;rintro e w16 ⟨rfl,P16,X16,h16,n16⟩;have T16:=(HT15.out.swap.step h16 n16).swap;have kc1:=iM _ _ C1 _ w16 T16.a;rw[show({L.2 with out:=[]}:Cs).cl=c2 from HSO.out.2] at kc1;have HT16:=hid T16;have hbe:(c2==c2)=true:=by simp
   clear kt2 h16 n16 T16 HT15
   go_wp2_with fail
   refine ag kc1 ?_;rintro e w17 ⟨rfl,hb17⟩;have T17:=HT16.out.bel hb17;have kc2:=iM _ _ C20 _ w17 T17.b;rw[show({L.2 with out:=[]}:Cs).cl=c2 from HSO.out.2] at kc2;have HT17:=hid T17;clear kc1 hb17 T17 HT16
   go_wp2_with fail
   refine ag kc2 ?_;rintro e w18 ⟨rfl,hb18⟩;have BE:=hid (HT17.out.bel hb18).m.bel;clear kc2 hb18 HT17
   go_wp2_with fail
   go_ret
   exact⟨rfl,BE.out⟩
end Go.Proofs.YthpcpdplcicfoaaGreatDoor
