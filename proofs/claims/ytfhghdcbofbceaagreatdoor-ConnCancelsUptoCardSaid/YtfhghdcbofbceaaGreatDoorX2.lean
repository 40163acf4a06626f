/- BerF, BerG, BerH, BerI, BerJ, MsN, Tab, MsP, MsO. -/
import Derived.OwnWalk
import Derived.Defers
import Derived.Recover
import Derived.Laws.Pointers
import Derived.MapKept
import Derived.Deep.Cut
import Derived.Test.YtfhghdcbofbceaaGreatDoorX1
namespace Go.Proofs.YtfhghdcbofbceaaGreatDoor
open Go.RowKit Go.Lib
set_option maxRecDepth 100000
set_option maxHeartbeats 16000000
theorem Ef:jw 127:=by
 intro n hn w;have g1:decide ((n:Int)<128)=true:=aC (by omega);have hl:cV n=[UInt8.ofNat n]:=by unfold cV;rw[if_pos (by omega)]
 rw[hl];have hw1:IntKind.u8.wrap (n:Int)=(n:Int):=by rw[IntKind.wrap_u8];omega
 have hnb:(UInt8.ofNat n).toNat=n:=by simp[UInt8.toNat_ofNat'];omega
 have hcv:(convert 58 9 (.slice (some ⟨w.heap.size,0,none⟩) 1 1)).run Tryz.prog (w.alloc (.cells #[.int .u8 (n:Int)] 5))=.ok (.string ⟨#[UInt8.ofNat n]⟩) (w.alloc (.cells #[.int .u8 (n:Int)] 5)):=
  eU _ _ _ 5 _ 1 [UInt8.ofNat n] Tryz.underlying58 Tryz.underlying5 Tryz.underlying9 (by rw[show bV [UInt8.ofNat n]=[.int .u8 (n:Int)] by simp[bV,hnb]];exact World.news_of_block (fb _ _ _ rfl))
 have b1:=alb w #[.int .u8 (n:Int)] 5;clear hnb hl
 go_enter Tryz.func53,Tryz.ntmps53
 go_wp2_with fail
 go_ret
 exact⟨rfl,b1⟩
theorem IsW.below{B b:Nat}{l:List UInt8}{w w':World}(h:IsW B b l w)(hb:Bw w w'):IsW B b l w':=by
 have:∀p,WAt B b p l w→WAt B b p l w':=by
  rintro p ⟨hB,v,hbk,hown,hne⟩;exact⟨hB,v,by rw[hb.block b (gl hbk)];exact hbk,ge hown hb,hne⟩
 exact h.elim (fun x=>.inl (this _ x)) (fun x=>.inr (this _ x))
mutual
def jO(p:El→Bool):El→Prop
 | .mk c t k b ks=>p (.mk c t k b ks)=true∧iI p ks
def iI(p:El→Bool):List El→Prop
 |[]=>True
 |e::r=>jO p e∧iI p r
end
mutual
theorem qB(p:El→Bool):∀(d:Nat) (e:El),eT p d e=true→eW d e=false→jO p e
 |d,.mk c t k b ks,h,hd=>by
  simp only[eT,eW] at h hd
  by_cases h20:20≤d
  ·rw[if_pos h20] at hd;cases hd
  ·rw[if_neg h20] at h hd
   simp only[aI] at h;simp only[jO];exact⟨h.1,zM p (d+1) ks h.2 hd⟩
theorem zM(p:El→Bool):∀(d:Nat) (l:List El),dS p d l=true→eX d l=false→iI p l
 |_,[],_,_=>by simp only[iI]
 |d,e::r,h,hd=>by
  simp only[dS,eX,aI,Bool.or_eq_false_iff] at h hd;simp only[iI];exact⟨qB p d e h.1 hd.1,zM p d r h.2 hd.2⟩
end
theorem pd{p:El→Bool}{e:El}(h:jO p e):p e=true∧iI p e.kids:=by
 cases e
 simpa only[jO,El.kids] using h
theorem jP{p:El→Bool}:∀(l:List El) (j:Nat) (e:El),iI p l→l[j]?=some e→jO p e
 |[],_,_,_,h=>by simp at h
 |x::r,0,e,h,hj=>by simp at hj;subst hj;simp only[iI] at h;exact h.1
 |x::r,j+1,e,h,hj=>by simp only[iI] at h;exact jP r j e h.2 (by simpa using hj)
theorem gW:∀(l:List El) (n:Nat),cw n l<65537→cw n l=n+bR l
 |[],n,_=>by simp only[cw,bR];omega
 |e::r,n,h=>by
  simp only[cw,bR] at h⊢;have h1:=jJ r (min (n+bK e) 65537);have h2:min (n+bK e) 65537=n+bK e:=by omega
  rw[h2] at h⊢;rw[gW r _ h]
  omega
theorem jf:∀(l:List El) (k:Nat),bR (l.take k)≤bR l
 |[],_=>by simp[bR]
 |x::r,0=>by simp[bR]
 |x::r,k+1=>by
  have:=jf r k;simp only[List.take_succ_cons,bR]
  omega
theorem jg:∀(l:List El) (e:El),bR (l++[e])=bR l+bK e
 |[],e=>by simp[bR]
 |x::r,e=>by
  have:=jg r e;simp only[List.cons_append,bR,this]
  omega
theorem jh:∀(l:List El) (e:El),dq (l++[e])=dq l++eJ e
 |[],e=>by simp[dq]
 |x::r,e=>by
  have:=jh r e;simp only[List.cons_append,dq,this,List.append_assoc]
theorem ll{α:Type}{l:List α}{k:Nat}{e:α}(h:l[k]?=some e):l.take (k+1)=l.take k++[e]:=by
 rw[List.take_add_one,h];rfl
theorem ou(e:El):eJ e=UInt8.ofNat (e.cls.toNat*64+e.tag.toNat+(if e.cons then 32 else 0))::cV (e.bytes.length+bR e.kids)++e.bytes++dq e.kids:=by
 cases e;simp only[eJ,El.cls,El.tag,El.cons,El.bytes,El.kids];rfl
mutual
theorem rT:∀(e:El),bK e≤65536→(eJ e).length=bK e
 | .mk c t k b ks,h=>by
  simp only[bK] at h;have h1:cw b.length ks<65537:=by omega
  have h2:=gW ks b.length h1;have h3:=iJ ks (fun j e hj=>by have:=gP ks b.length j e hj;omega);simp only[eJ,bK,xn,aG,h3];rw[h2] at h⊢;rw[show min (b.length+bR ks) 65537=b.length+bR ks by omega] at h⊢
  omega
theorem iJ:∀(l:List El),(∀(j:Nat) (e:El),l[j]?=some e→bK e≤65536)→(dq l).length=bR l
 |[],_=>rfl
 |e::r,h=>by
  simp only[dq,bR,xn];rw[rT e (h 0 e rfl),iJ r (fun j x hj=>h (j+1) x (by simpa using hj))]
end
theorem sY(N:Nat)(hN:jw N)(n:Nat):∀(el:El),ex el≤n→SmE el→bK el≤N→bK el≤65536→jO cn el→∀(B b:Nat) (l:List UInt8) (u:Value) (w:World),IsW B b l w→bf (fun g=>g<B) w u el.kids→B≤w.heap.size→l.length+bK el≤1000000000→
  Calls Tryz.prog 30 #[.pointer (some ⟨b,0,none⟩),.agg (elA el u)] w fun e w'=>e=.returned (.tuple #[])∧IsW B b (l++eJ el) w'∧Below B w w':=by
 induction n with
 |zero=>intro el hd;rw[eu] at hd;omega
 |succ n ih=>
 intro el hd hs hz hz6 ht B b l u w hW h hBw hll;obtain⟨a,c,hf⟩:=h.shape;subst hf;obtain⟨sb,sl,sk⟩:=dV hs;obtain⟨tg,tk⟩:=pd ht;have b1:=alb w (Er el a c) 40;have r1:=alz w (Er el a c) 40;obtain⟨ec,et,ek,eb,es⟩:=el;simp only[El.kids,El.bytes] at*;simp only[cn,aI,aT] at tg;obtain⟨⟨⟨t1,t2⟩,t3⟩,t4⟩:=tg;obtain⟨C,rfl⟩:∃C:Nat,ec=(C:Int):=⟨ec.toNat,by omega⟩;obtain⟨Tg,rfl⟩:∃C:Nat,et=(C:Int):=⟨et.toNat,by omega⟩;have hC:C<4:=by omega
 have hTg:Tg<31:=by omega
 have hbits:bits BinOp.or IntKind.i64 ((C:Int)*64) (Tg:Int)=((C*64+Tg:Nat):Int):=by
  have:∀(c:Fin 4) (t:Fin 31),bits BinOp.or IntKind.i64 ((c.val:Int)*64) (t.val:Int)=((c.val*64+t.val:Nat):Int):=by decide+kernel
  exact this ⟨C,hC⟩ ⟨Tg,hTg⟩
 have hbit2:bits BinOp.or IntKind.i64 ((C*64+Tg:Nat):Int) 32=((C*64+Tg+32:Nat):Int):=by
  have:∀(c:Fin 4) (t:Fin 31),bits BinOp.or IntKind.i64 ((c.val*64+t.val:Nat):Int) 32=((c.val*64+t.val+32:Nat):Int):=by decide+kernel
  exact this ⟨C,hC⟩ ⟨Tg,hTg⟩
 obtain⟨Z,hZ⟩:=nmm (bK (.mk (C:Int) (Tg:Int) ek eb es));have hsum:eb.length+bR es≤Z:=by
  have h1:=ix (.mk (C:Int) (Tg:Int) ek eb es);simp only[El.kids,El.bytes] at h1;rw[hZ] at h1 hz6;have h2:=gW es eb.length (by omega)
  omega
 have hZT:1+(cV (eb.length+bR es)).length+(eb.length+bR es)=Z:=by
  have h1:=iw (.mk (C:Int) (Tg:Int) ek eb es);simp only[El.kids,El.bytes] at h1;rw[hZ] at h1 hz6;have h2:=gW es eb.length (by omega);rw[h2] at h1;rw[show min (eb.length+bR es) 65537=eb.length+bR es by omega] at h1
  omega
 rw[hZ] at hz hz6 hll;have HP:=hid (show eJ (.mk (C:Int) (Tg:Int) ek eb es)=UInt8.ofNat (C*64+Tg+(if ek then 32 else 0))::cV (eb.length+bR es)++eb++dq es from by rw[ou];rfl);obtain⟨FB,hFB⟩:=nmm (C*64+Tg+(if ek then 32 else 0));have hFB2:FB<256:=by rw[←hFB];split<;>omega
 have hsz:∀(j:Nat) (e:El),es[j]?=some e→bK e≤Z:=fun j e he=>by
  have h1:=gP es eb.length j e he;have h2:=ix (.mk (C:Int) (Tg:Int) ek eb es);simp only[El.kids,El.bytes] at h2;rw[hZ] at h2
  omega
 obtain⟨HSZ,IH,HS,HT,HDE,H,HW,HN⟩:=Cx hsz ih sk tk (show fT es≤n from by simp only[ex] at hd;omega) h hW hN;have klen:=hN (eb.length+bR es) (by omega);have hL4:=jW (eb.length+bR es);obtain⟨TOT,hTOT⟩:=nmm (eb.length+bR es);rw[hTOT] at klen hL4 hsum HP hZT;obtain⟨L,hL⟩:=nmm (cV TOT);rw[hL] at klen hL4 HP hZT;rw[hFB] at HP;obtain⟨HTOT,klen'⟩:=Cg hTOT klen;clear ih sk tk h hW hN hsz hd hs ht hZ klen hTOT hL t1 t2 t3 t4;unfold elA;simp only[El.bytes,El.cls,El.tag,El.cons];have hfb0:ek=false→C*64+Tg=FB:=fun h=>by rw[h] at hFB;simpa using hFB
 have hfb1:ek=true→C*64+Tg+32=FB:=fun h=>by rw[h] at hFB;simpa using hFB
 have hFm:(FB:Int)% 256=(FB:Int):=by omega
 have hFu:(UInt8.ofNat FB).toNat=FB:=by simp[UInt8.toNat_ofNat'];omega
 clear hFB;obtain⟨M,hM⟩:=nmm (C*64+Tg);rw[hM] at hbits hbit2 hfb0 hfb1;clear hM;cases ek
 ·rw[hfb0 rfl] at hbits
  clear hbit2 hfb0 hfb1;have b1:=alb w #[.int .i64 (C:Int),.int .i64 (Tg:Int),Bf,.string ⟨eb.toArray⟩,.slice a es.length c] 40;have r1:=alz w #[.int .i64 (C:Int),.int .i64 (Tg:Int),Bf,.string ⟨eb.toArray⟩,.slice a es.length c] 40
  go_enter Tryz.func30,Tryz.ntmps30
  refine wp_seq ?_;refine aQ ?_;refine aB rfl (kkn ?_);generalize w.alloc (.cells #[.int .i64 (C:Int),.int .i64 (Tg:Int),Bf,.string ⟨eb.toArray⟩,.slice a es.length c] 40)=w2 at b1 r1⊢;have q0:=cval r1 0 (.int .i64 C);have q1:=cval r1 1 (.int .i64 Tg);have q2:=cval r1 2 Bf;have q3:=cval r1 3 (.string ⟨eb.toArray⟩);have q4:=cval r1 4 (.slice a es.length c);obtain⟨H2,HW2,HR2⟩:=Ch (H.out.below b1) (HW.out.below b1) r1;have hwl:b<w.heap.size:=by
   rcases HW.out with h|h
   ·obtain⟨_,_,h,_⟩:=h;exact(gl h)
   ·obtain⟨_,_,h,_⟩:=h;exact(gl h)
  clear r1 H HW
  go_wp2_with fail
  go_loopw [5,26] (fun v i wr=>∃k m:Nat,i=.int .i64 (k:Int)∧v=.int .i64 (m:Int)∧k≤es.length∧Bw w2 wr∧m+bR (es.drop k)=TOT) (fun _ i _=>es.length -(RowKit.intOf i).toNat)
  case atStart=>exact⟨0,eb.length,rfl,rfl,Nat.zero_le _,aA _ _,HTOT.out⟩
  case round=>
   clear q0 q1 q2 hbits;obtain⟨k,m,rfl,rfl,hk,hbe,hans⟩:=hrel
   by_cases hkl:k<es.length
   ·obtain⟨e,he⟩:∃e,es[k]?=some e:=⟨es[k],aM hkl⟩
    obtain⟨a',cap',e',_,hsrc⟩:=H2.out.below hbe;cases e';obtain⟨g,o,ha,_,hcells⟩:=hsrc (by intro h0;rw[h0] at hkl;simp at hkl);subst ha;obtain⟨p0,p1,p2,p3,u,p4,hu⟩:=(cE.get es g o k e hcells he).cells;obtain⟨au,cu,hfu⟩:=hu.shape;subst hfu;have hdep:ex e≤n:=by have h1:=eK es k e he;have:=HDE.out;omega
    rw[iA he] at hans;simp only[bR] at hans;have i1:(k:Int)<(es.length:Int):=by omega
    have i3:decide ((k:Int)<(es.length:Int))=true:=aC i1;have m1:=alb wr (Er e au cu) 40;have kr:=jK N HN.out n e hdep (eV es k e HS.out he) (by have:=HSZ.out k e he;omega) _ _ ((hu.mono (fun _ _ _=>trivial)).below m1);have hsz:=hbe.size;have hsm:=m1.size;have HB4:=hid ((btt hbe m1));have hse:=fV e;obtain⟨z,hzz⟩:=nmm (bK e);rw[hzz] at kr hans hse;have hm9:m+z≤65536:=by omega
    have HANS:=hid hans;have hw1:IntKind.i64.wrap ((m:Int)+(z:Int))=(m:Int)+(z:Int):=by rw[aK];omega
    clear hsrc hcells he hu m1 hzz hans q3 q4;unfold elA at kr
    go_wp2_with (refine ldE (.tmp 7) (fb _ _ _ rfl) rfl ?_)
    refine ag kr ?_;rintro e5 w5 ⟨rfl,hb5⟩;have HB5:=hid (HB4.out.trans (hb5.mono (by omega)));clear hb5 kr
    go_wp2_with fail
    exact⟨⟨k+1,m+z,by go_num,by go_num,by omega,HB5.out,by have:=HANS.out;omega⟩,by simp[RowKit.intOf];omega⟩
   ·obtain rfl:k=es.length:=by omega
    rw[List.drop_of_length_le (ah _)] at hans;simp only[bR,Nat.add_zero] at hans;subst hans;have i3:decide ((es.length:Int)<(es.length:Int))=false:=an (by omega);have s3:=(hbe.cell (bj q3)).trans q3;have s4:=(hbe.cell (bj q4)).trans q4;have HR3:=hid ((hbe.block _ (gl HR2.out)).trans HR2.out);have hs1:=b1.size;have hs2:=hbe.size;have HW3:=HW2.out.below hbe;have H3:=hid (H2.out.below hbe);have b3:Below B w wr:=(b1.mono hBw).trans (hbe.mono (by omega));have kb:=jE B b l (UInt8.ofNat FB) wr HW3 (by omega) (by omega);rw[hFu] at kb;clear q3 q4 HW3 H2 HW2 HR2
    go_wp2_with fail
    refine ag kb ?_;rintro e6 w6 ⟨rfl,hW6,hb6,hkw6⟩;have HR6:=hkw6.2 _ _ _ _ HR3.out (by omega) (by decide);have kl:=klen'.out w6;have H6:=hid (H3.out.kept fun g hg _=>⟨hb6.block g hg,hg⟩);have b6:=b3.trans hb6;have hs6:=hb6.size;clear kb s3 s4 HR3 H3 b3 hb6 hkw6
    go_wp2_with fail
    refine ag kl ?_;rintro e7 w7 ⟨rfl,hb7⟩;have hW7:=hW6.below hb7;have HR7:=bkk hb7 HR6;have H7:=hid (H6.out.below hb7);have hs7:=hb7.size;have b7:=b6.trans (hb7.mono (by omega));have kw:=fk B b (l++[UInt8.ofNat FB]) L w7 hW7 (by simp;omega) (by omega) (by omega);clear kl hW6 HR6 H6 hb7 b6 hW7
    go_wp2_with fail
    refine ag kw ?_;rintro e8 w8 ⟨rfl,hW8,hb8,hkw8⟩;have HR8:=hkw8.2 _ _ _ _ HR7 (by omega) (by decide);have H8:=hid (H7.out.kept fun g hg _=>⟨hb8.block g hg,hg⟩);have hs8:=hb8.size;have b8:=b7.trans hb8;have s3:=cval HR8 3 (.string ⟨eb.toArray⟩);have kw2:=fk B b (l++[UInt8.ofNat FB]++L) eb w8 hW8 (by simp;omega) (by omega) (by omega);clear kw HR7 H7 hb8 hkw8 b7 hW8
    go_wp2_with fail
    refine ag kw2 ?_;rintro e9 w9 ⟨rfl,hW9,hb9,hkw9⟩;have HR9:=hkw9.2 _ _ _ _ HR8 (by omega) (by decide);have H9:=hid (H8.out.kept fun g hg _=>⟨hb9.block g hg,hg⟩);have hs9:=hb9.size;have b9:=b8.trans hb9;have s4:=cval HR9 4 (.slice a es.length c);have HW9:=hid hW9;clear kw2 s3 HR8 H8 hb9 hkw9 b8 hW9 HR9
    go_wp2_with fail
    go_loopw [50] (fun i wr=>∃k:Nat,i=.int .i64 (k:Int)∧k≤es.length∧IsW B b ((l++[UInt8.ofNat FB]++L++eb)++dq (es.take k)) wr∧Below B w9 wr) (fun i _=>es.length -(RowKit.intOf i).toNat)
    case atStart=>exact⟨0,rfl,Nat.zero_le _,by simpa[dq] using HW9.out,aA _ _⟩
    case round=>
     clear s4;obtain⟨k,rfl,hk2,hWk,hbk⟩:=hrel;have hsk:=hbk.size
     by_cases hkl:k<es.length
     ·obtain⟨e,he⟩:∃e,es[k]?=some e:=⟨es[k],aM hkl⟩
      obtain⟨a',cap',e',_,hsrc⟩:=H9.out.kept (Q:=fun g=>g<B) fun g hg _=>⟨hbk.block g hg,hg⟩
      cases e';obtain⟨g,o,ha,_,hcells⟩:=hsrc (by intro h0;rw[h0] at hkl;simp at hkl);subst ha;obtain⟨p0,p1,p2,p3,u,p4,hu⟩:=(cE.get es g o k e hcells he).cells;obtain⟨au,cu,hfu⟩:=hu.shape;subst hfu;have hdep:ex e≤n:=by have h1:=eK es k e he;have:=HDE.out;omega
      have i1:(k:Int)<(es.length:Int):=by omega
      have i3:decide ((k:Int)<(es.length:Int))=true:=aC i1;have m1:=alb wr (Er e au cu) 40;have hze:=HSZ.out k e he;have hts:=ll he;have hsum2:bR (es.take k)+bK e≤bR es:=by have:=jf es (k+1);rw[hts,jg] at this;exact this
      have hpl:=iJ (es.take k) (fun j x hj=>by
       have h1:es[j]?=some x:=by
        have hjl:=(List.getElem?_eq_some_iff.1 hj).1;rw[List.length_take] at hjl;rw[List.getElem?_take_of_lt (by omega)] at hj;exact hj
       have:=HSZ.out j x h1;omega)
      have hT:=HTOT.out;have kr:=IH.out e hdep (eV es k e HS.out he) (by omega) (by omega) (jP es k e HT.out he) B b ((l++[UInt8.ofNat FB]++L++eb)++dq (es.take k)) _ _ (hWk.below m1) (hu.below m1) (by have:=m1.size;omega) (by simp[hpl];omega);have hsm:=m1.size;obtain⟨HB4,HTS⟩:=Cg (hbk.trans (m1.mono (by omega))) hts;clear hsrc hcells he hu m1 hpl hsum2 hT hts hze hWk;unfold elA at kr
      go_wp2_with (refine ldE (.tmp 9) (fb _ _ _ rfl) rfl ?_)
      refine ag kr ?_;rintro e5 w5 ⟨rfl,hW5,hb5⟩;obtain⟨HB5,HW5⟩:=Cg (HB4.out.trans hb5) hW5;clear hb5 kr hW5
      go_wp2_with fail
      exact⟨⟨k+1,by go_num,by omega,by rw[HTS.out,jh,←List.append_assoc];exact HW5.out,HB5.out⟩,by simp[RowKit.intOf];omega⟩
     ·obtain rfl:k=es.length:=by omega
      rw[List.take_of_length_le (ah _)] at hWk;have i3:decide ((es.length:Int)<(es.length:Int))=false:=an (by omega);have HWk:=hid hWk;clear hWk
      go_wp2_with fail
      go_end0
      exact⟨rfl,by rw[HP.out];simpa[List.append_assoc] using HWk.out,b9.trans hbk⟩
 ·rw[hfb1 rfl] at hbit2
  clear hfb0 hfb1;have b1:=alb w #[.int .i64 (C:Int),.int .i64 (Tg:Int),.bool true,.string ⟨eb.toArray⟩,.slice a es.length c] 40;have r1:=alz w #[.int .i64 (C:Int),.int .i64 (Tg:Int),.bool true,.string ⟨eb.toArray⟩,.slice a es.length c] 40
  go_enter Tryz.func30,Tryz.ntmps30
  refine wp_seq ?_;refine aQ ?_;refine aB rfl (kkn ?_);generalize w.alloc (.cells #[.int .i64 (C:Int),.int .i64 (Tg:Int),.bool true,.string ⟨eb.toArray⟩,.slice a es.length c] 40)=w2 at b1 r1⊢;have q0:=cval r1 0 (.int .i64 C);have q1:=cval r1 1 (.int .i64 Tg);have q2:=cval r1 2 (.bool true);have q3:=cval r1 3 (.string ⟨eb.toArray⟩);have q4:=cval r1 4 (.slice a es.length c);obtain⟨H2,HW2,HR2⟩:=Ch (H.out.below b1) (HW.out.below b1) r1;have hwl:b<w.heap.size:=by
   rcases HW.out with h|h
   ·obtain⟨_,_,h,_⟩:=h;exact(gl h)
   ·obtain⟨_,_,h,_⟩:=h;exact(gl h)
  clear r1 H HW
  go_wp2_with fail
  go_loopw [5,26] (fun v i wr=>∃k m:Nat,i=.int .i64 (k:Int)∧v=.int .i64 (m:Int)∧k≤es.length∧Bw w2 wr∧m+bR (es.drop k)=TOT) (fun _ i _=>es.length -(RowKit.intOf i).toNat)
  case atStart=>exact⟨0,eb.length,rfl,rfl,Nat.zero_le _,aA _ _,HTOT.out⟩
  case round=>
   clear q0 q1 q2 hbits hbit2;obtain⟨k,m,rfl,rfl,hk,hbe,hans⟩:=hrel
   by_cases hkl:k<es.length
   ·obtain⟨e,he⟩:∃e,es[k]?=some e:=⟨es[k],aM hkl⟩
    obtain⟨a',cap',e',_,hsrc⟩:=H2.out.below hbe;cases e';obtain⟨g,o,ha,_,hcells⟩:=hsrc (by intro h0;rw[h0] at hkl;simp at hkl);subst ha;obtain⟨p0,p1,p2,p3,u,p4,hu⟩:=(cE.get es g o k e hcells he).cells;obtain⟨au,cu,hfu⟩:=hu.shape;subst hfu;have hdep:ex e≤n:=by have h1:=eK es k e he;have:=HDE.out;omega
    rw[iA he] at hans;simp only[bR] at hans;have i1:(k:Int)<(es.length:Int):=by omega
    have i3:decide ((k:Int)<(es.length:Int))=true:=aC i1;have m1:=alb wr (Er e au cu) 40;have kr:=jK N HN.out n e hdep (eV es k e HS.out he) (by have:=HSZ.out k e he;omega) _ _ ((hu.mono (fun _ _ _=>trivial)).below m1);have hsz:=hbe.size;have hsm:=m1.size;have HB4:=hid ((btt hbe m1));have hse:=fV e;obtain⟨z,hzz⟩:=nmm (bK e);rw[hzz] at kr hans hse;have hm9:m+z≤65536:=by omega
    have HANS:=hid hans;have hw1:IntKind.i64.wrap ((m:Int)+(z:Int))=(m:Int)+(z:Int):=by rw[aK];omega
    clear hsrc hcells he hu m1 hzz hans q3 q4;unfold elA at kr
    go_wp2_with (refine ldE (.tmp 7) (fb _ _ _ rfl) rfl ?_)
    refine ag kr ?_;rintro e5 w5 ⟨rfl,hb5⟩;have HB5:=hid (HB4.out.trans (hb5.mono (by omega)));clear hb5 kr
    go_wp2_with fail
    exact⟨⟨k+1,m+z,by go_num,by go_num,by omega,HB5.out,by have:=HANS.out;omega⟩,by simp[RowKit.intOf];omega⟩
   ·obtain rfl:k=es.length:=by omega
    rw[List.drop_of_length_le (ah _)] at hans;simp only[bR,Nat.add_zero] at hans;subst hans;have i3:decide ((es.length:Int)<(es.length:Int))=false:=an (by omega);have s3:=(hbe.cell (bj q3)).trans q3;have s4:=(hbe.cell (bj q4)).trans q4;have HR3:=hid ((hbe.block _ (gl HR2.out)).trans HR2.out);have hs1:=b1.size;have hs2:=hbe.size;have HW3:=HW2.out.below hbe;have H3:=hid (H2.out.below hbe);have b3:Below B w wr:=(b1.mono hBw).trans (hbe.mono (by omega));have kb:=jE B b l (UInt8.ofNat FB) wr HW3 (by omega) (by omega);rw[hFu] at kb;clear q3 q4 HW3 H2 HW2 HR2
    go_wp2_with fail
    refine ag kb ?_;rintro e6 w6 ⟨rfl,hW6,hb6,hkw6⟩;have HR6:=hkw6.2 _ _ _ _ HR3.out (by omega) (by decide);have kl:=klen'.out w6;have H6:=hid (H3.out.kept fun g hg _=>⟨hb6.block g hg,hg⟩);have b6:=b3.trans hb6;have hs6:=hb6.size;clear kb s3 s4 HR3 H3 b3 hb6 hkw6
    go_wp2_with fail
    refine ag kl ?_;rintro e7 w7 ⟨rfl,hb7⟩;have hW7:=hW6.below hb7;have HR7:=bkk hb7 HR6;have H7:=hid (H6.out.below hb7);have hs7:=hb7.size;have b7:=b6.trans (hb7.mono (by omega));have kw:=fk B b (l++[UInt8.ofNat FB]) L w7 hW7 (by simp;omega) (by omega) (by omega);clear kl hW6 HR6 H6 hb7 b6 hW7
    go_wp2_with fail
    refine ag kw ?_;rintro e8 w8 ⟨rfl,hW8,hb8,hkw8⟩;have HR8:=hkw8.2 _ _ _ _ HR7 (by omega) (by decide);have H8:=hid (H7.out.kept fun g hg _=>⟨hb8.block g hg,hg⟩);have hs8:=hb8.size;have b8:=b7.trans hb8;have s3:=cval HR8 3 (.string ⟨eb.toArray⟩);have kw2:=fk B b (l++[UInt8.ofNat FB]++L) eb w8 hW8 (by simp;omega) (by omega) (by omega);clear kw HR7 H7 hb8 hkw8 b7 hW8
    go_wp2_with fail
    refine ag kw2 ?_;rintro e9 w9 ⟨rfl,hW9,hb9,hkw9⟩;have HR9:=hkw9.2 _ _ _ _ HR8 (by omega) (by decide);have H9:=hid (H8.out.kept fun g hg _=>⟨hb9.block g hg,hg⟩);have hs9:=hb9.size;have b9:=b8.trans hb9;have s4:=cval HR9 4 (.slice a es.length c);have HW9:=hid hW9;clear kw2 s3 HR8 H8 hb9 hkw9 b8 hW9 HR9
    go_wp2_with fail
    go_loopw [50] (fun i wr=>∃k:Nat,i=.int .i64 (k:Int)∧k≤es.length∧IsW B b ((l++[UInt8.ofNat FB]++L++eb)++dq (es.take k)) wr∧Below B w9 wr) (fun i _=>es.length -(RowKit.intOf i).toNat)
    case atStart=>exact⟨0,rfl,Nat.zero_le _,by simpa[dq] using HW9.out,aA _ _⟩
    case round=>
     clear s4;obtain⟨k,rfl,hk2,hWk,hbk⟩:=hrel;have hsk:=hbk.size
     by_cases hkl:k<es.length
     ·obtain⟨e,he⟩:∃e,es[k]?=some e:=⟨es[k],aM hkl⟩
      obtain⟨a',cap',e',_,hsrc⟩:=H9.out.kept (Q:=fun g=>g<B) fun g hg _=>⟨hbk.block g hg,hg⟩
      cases e';obtain⟨g,o,ha,_,hcells⟩:=hsrc (by intro h0;rw[h0] at hkl;simp at hkl);subst ha;obtain⟨p0,p1,p2,p3,u,p4,hu⟩:=(cE.get es g o k e hcells he).cells;obtain⟨au,cu,hfu⟩:=hu.shape;subst hfu;have hdep:ex e≤n:=by have h1:=eK es k e he;have:=HDE.out;omega
      have i1:(k:Int)<(es.length:Int):=by omega
      have i3:decide ((k:Int)<(es.length:Int))=true:=aC i1;have m1:=alb wr (Er e au cu) 40;have hze:=HSZ.out k e he;have hts:=ll he;have hsum2:bR (es.take k)+bK e≤bR es:=by have:=jf es (k+1);rw[hts,jg] at this;exact this
      have hpl:=iJ (es.take k) (fun j x hj=>by
       have h1:es[j]?=some x:=by
        have hjl:=(List.getElem?_eq_some_iff.1 hj).1;rw[List.length_take] at hjl;rw[List.getElem?_take_of_lt (by omega)] at hj;exact hj
       have:=HSZ.out j x h1;omega)
      have hT:=HTOT.out;have kr:=IH.out e hdep (eV es k e HS.out he) (by omega) (by omega) (jP es k e HT.out he) B b ((l++[UInt8.ofNat FB]++L++eb)++dq (es.take k)) _ _ (hWk.below m1) (hu.below m1) (by have:=m1.size;omega) (by simp[hpl];omega);have hsm:=m1.size;obtain⟨HB4,HTS⟩:=Cg (hbk.trans (m1.mono (by omega))) hts;clear hsrc hcells he hu m1 hpl hsum2 hT hts hze hWk;unfold elA at kr
      go_wp2_with (refine ldE (.tmp 9) (fb _ _ _ rfl) rfl ?_)
      refine ag kr ?_;rintro e5 w5 ⟨rfl,hW5,hb5⟩;obtain⟨HB5,HW5⟩:=Cg (HB4.out.trans hb5) hW5;clear hb5 kr hW5
      go_wp2_with fail
      exact⟨⟨k+1,by go_num,by omega,by rw[HTS.out,jh,←List.append_assoc];exact HW5.out,HB5.out⟩,by simp[RowKit.intOf];omega⟩
     ·obtain rfl:k=es.length:=by omega
      rw[List.take_of_length_le (ah _)] at hWk;have i3:decide ((es.length:Int)<(es.length:Int))=false:=an (by omega);have HWk:=hid hWk;clear hWk
      go_wp2_with fail
      go_end0
      exact⟨rfl,by rw[HP.out];simpa[List.append_assoc] using HWk.out,b9.trans hbk⟩
theorem sZ(e:El):eJ e≠[]:=by
 rw[ou];simp
theorem pf(N:Nat)(hN:jw N)(el:El)(hs:SmE el)(hz:bK el≤N)(u:Value)(w:World)(h:bf (fun _=>True) w u el.kids):
  Cr 8 #[.agg (elA el u)] w (.tuple #[.string ⟨(dD el).1.toArray⟩,.int .i64 (dD el).2]):=by
 obtain⟨s,n,hsn⟩:∃s n,dD el=(s,n):=⟨_,_,rfl⟩;rw[hsn];simp only;obtain⟨HSN,HS⟩:=Cg hsn hs;obtain⟨a,c,hf⟩:=h.shape;subst hf;have b1:=alb w (Er el a c) 40;have r1:=alz w (Er el a c) 40;have H1:=hid (h.below b1);clear h hsn hs;unfold elA
 go_enter Tryz.func8,Tryz.ntmps8
 refine wp_seq ?_;refine aQ ?_;refine aB rfl (kkn ?_);generalize w.alloc (.cells (Er el a c) 40)=w1 at b1 r1 H1⊢;have k1:=zC (ex el) el (ah _) HS.out 0 (by omega) _ w1 H1.out;unfold elA at k1
 go_wp2_with (refine ldE (.tmp 1) r1 rfl ?_)
 refine ag k1 ?_;rintro e2 w2 ⟨rfl,hb2⟩;have r2:=bkk hb2 r1;have b2:=btt b1 hb2;have H2:=hid (H1.out.below hb2);clear k1 b1 r1 H1 hb2;obtain⟨B1,h1⟩:=nmm (eT cn 0 el);rw[h1];cases B1 with
 |false=>
  have hr:=HSN.out;simp only[dD,h1,if_true] at hr;cases hr;clear h1
  go_wp2_with fail
  go_ret2
  exact⟨rfl,b2⟩
 |true=>
  have k2:=me (ex el) el (ah _) HS.out 0 (by omega) _ w2 H2.out;unfold elA at k2;have HH1:=hid h1;clear h1
  go_wp2_with (refine ldE (.tmp 1) r2 rfl ?_)
  refine ag k2 ?_;rintro e3 w3 ⟨rfl,hb3⟩;have r3:=bkk hb3 r2;have b3:=btt b2 hb3;have H3:=hid (H2.out.below hb3);clear k2 b2 r2 H2 hb3;obtain⟨B2,h2⟩:=nmm (eT dw 0 el);rw[h2];cases B2 with
  |false=>
   have hr:=HSN.out;simp only[dD,HH1.out,h2,if_true] at hr;rw[if_neg (by simp)] at hr;cases hr;clear h2
   go_wp2_with fail
   go_ret2
   exact⟨rfl,b3⟩
  |true=>
   have k3:=CX (ex el) el (ah _) HS.out 0 (by omega) _ w3 H3.out;unfold elA at k3;have HH2:=hid h2;clear h2
   go_wp2_with (refine ldE (.tmp 1) r3 rfl ?_)
   refine ag k3 ?_;rintro e4 w4 ⟨rfl,hb4⟩;have r4:=bkk hb4 r3;have b4:=btt b3 hb4;have H4:=hid (H3.out.below hb4);clear k3 b3 r3 H3 hb4;obtain⟨B3,h3⟩:=nmm (eW 0 el);rw[h3];cases B3 with
   |true=>
    have hr:=HSN.out;simp only[dD,HH1.out,HH2.out,h3,if_true] at hr;rw[if_neg (by simp),if_neg (by simp)] at hr;cases hr;clear h3
    go_wp2_with fail
    go_ret2
    exact⟨rfl,b4⟩
   |false=>
    have k4:=jK N hN (ex el) el (ah _) HS.out hz _ w4 H4.out;unfold elA at k4;have HH3:=hid h3;clear h3
    go_wp2_with (refine ldE (.tmp 1) r4 rfl ?_)
    refine ag k4 ?_;rintro e5 w5 ⟨rfl,hb5⟩;have r5:=bkk hb5 r4;have b5:=btt b4 hb5;have H5:=hid (H4.out.below hb5);clear k4 b4 r4 H4 hb5
    by_cases h6:65536<bK el
    ·have hr:=HSN.out
     simp only[dD,HH1.out,HH2.out,HH3.out,h6,if_true] at hr;rw[if_neg (by simp),if_neg (by simp),if_neg (by simp)] at hr;cases hr;have g6:decide ((65536:Int)<(bK el:Int))=true:=aC (by omega)
     go_wp2_with fail
     go_ret2
     exact⟨rfl,b5⟩
    ·have hr:=HSN.out
     simp only[dD,HH1.out,HH2.out,HH3.out,h6,if_false] at hr;rw[if_neg (by simp),if_neg (by simp),if_neg (by simp)] at hr;cases hr;have g6:decide ((65536:Int)<(bK el:Int))=false:=an (by omega);have m5:=alb w5 #[.pointer none,Sn] 60;have hW:IsW w5.heap.size w5.heap.size [] (w5.alloc (.cells #[.pointer none,Sn] 60)):=Lib.fresh_isBuilder _ _ _;have r6:=bkk m5 r5;have kp:=sY N hN (ex el) el (ah _) HS.out hz (by omega) (qB cn 0 el HH1.out HH3.out) w5.heap.size w5.heap.size [] _ _ hW (H5.out.kept fun g _ hg=>⟨m5.block g hg,hg⟩) (by simp) (by simp;omega);unfold elA at kp;have b6:=btt b5 m5;have hs5:=b5.size;clear hW m5 r5 H5
     go_wp2_with (refine ldE (.tmp 1) r6 rfl ?_)
     refine ag kp ?_;rintro e7 w7 ⟨rfl,hW7,hb7⟩;have ks:=rs w5.heap.size w5.heap.size _ w7 hW7 (by simpa using sZ el);have b7:=b6.trans (hb7.mono (by omega));clear kp hW7 hb7 b6 r6
     go_wp2_with fail
     refine ag ks ?_;rintro e8 w8 ⟨rfl,hb8⟩;have b8:=b7.trans (hb8.mono (by omega));clear ks hb8
     go_wp2_with fail
     go_ret2
     exact⟨by simp,b8⟩
theorem gZ(v:Nat)(hv:v≤127)(w:World):
  Cr 34 #[.int .i64 (v:Int)] w (.string ⟨#[UInt8.ofNat v]⟩):=by
 obtain⟨i0,hi0,hz0,hz1,hz2⟩:=info_parts Tryz.infoByte;have hnb:(UInt8.ofNat v).toNat=v:=by simp[UInt8.toNat_ofNat'];omega
 have HNB:=hid hnb;clear hnb
 go_enter Tryz.func34,Tryz.ntmps34
 go_wp2_with fail
 go_loopw [3] (fun n wr=>n=.int .i64 1∧wr=w) (fun _ _=>0)
 case atStart=>exact⟨rfl,rfl⟩
 case round=>
  obtain⟨rfl,hwr⟩:=hrel;have hwr':=hwr.symm;subst hwr';clear hwr
  go_wp2_with (refine wpList_make_full _ rfl (.tmp 23) (.tmp 23) 58 rfl w.heap.size 5 i0 (.int .u8 0) 1 Tryz.underlying58 hi0 hz0 hz1 .i64 .i64 1 1 1 rfl rfl rfl rfl (by rw[hz2];omega) (by unfold maxLen;omega) (ah _) ?_;intro w2 ho2 hg2)
  have hmc:(madeCells (Value.int .u8 0).cells (1*1)).toList=[.int .u8 0]:=by simp[madeCells,Value.cells]
  rw[hmc] at ho2;clear hmc;have hb2:Bw w w2:=(aA w.heap.size w).grown hg2 (ah _) (fun b hb=>by cases hb);obtain⟨c0,z0⟩:=cJ (i:=0) (x:=.int .u8 0) ho2 rfl;have hset:=dH (i:=0) (x:=.int .u8 (v:Int)) ho2 (by decide);have HO:=hid hset;clear ho2 hg2 hset
  go_loopw [5,27] (fun _ c wx=>(c=.int .i64 0∧wx=w2)∨(c=.int .i64 1∧wx=w2.setCell ⟨w.heap.size,0,none⟩ (.int .u8 (v:Int)))) (fun _ c _=>1 -(RowKit.intOf c).toNat)
  case atStart=>exact .inl ⟨rfl,rfl⟩
  case round=>
   rcases hrel with⟨rfl,hwr⟩|⟨rfl,hwr⟩
   ·have hwr':=hwr.symm
    subst hwr';clear hwr;have hw1:(v:Int)% 18446744073709551616=(v:Int):=by omega
    have hw2:(v:Int)% 256=(v:Int):=by omega
    go_wp2_with fail
    exact⟨by simp,by simp[RowKit.intOf]⟩
   ·have hwr':=hwr.symm
    have hcv:=eI (P:=Tryz.prog) _ 58 9 5 w.heap.size _ [UInt8.ofNat v] Tryz.underlying58 Tryz.underlying5 Tryz.underlying9 (by rw[show bV [UInt8.ofNat v]=[.int .u8 (v:Int)] by simp[bV,HNB.out]];exact HO.out);rw[←hwr'] at*
    go_wp2_with fail
    go_ret
    exact⟨rfl,hb2.setCell (p:=⟨w.heap.size,0,none⟩) (ah _) _⟩
theorem ln(t:Int)(v:Nat)(hv:v≤127)(w:World):
  Cr 10 #[.int .i64 t,.int .i64 (v:Int)] w (.agg (elA (.mk 0 t false [UInt8.ofNat v] []) (.slice none 0 0))):=by
 have hb:=alb w Ze 40;have hr:=alz w Ze 40;have k:=gZ v hv (w.alloc (.cells Ze 40))
 go_enter Tryz.func10,Tryz.ntmps10
 go_wp2_with fail
 refine ag k ?_;rintro e w1 ⟨rfl,hb1⟩;have hr1:=bkk hb1 hr;have hbb:=btt hb hb1;have k2:=i9 t [UInt8.ofNat v] w1;clear k hr hb hb1
 go_wp2_with fail
 refine ag k2 ?_;rintro e w2 ⟨rfl,hb2⟩;have hr2:=bkk hb2 hr1;have hb3:=btt hbb hb2;clear hr1 hb2 hbb k2;have hq:=setRow_heap w2 w.heap.size _ #[I0,.int .i64 t,Bf,.string ⟨#[UInt8.ofNat v]⟩,.slice none 0 0] _ _ hr2;have hb4:=xo hb3 (g:=w.heap.size) (ah _) #[I0,.int .i64 t,Bf,.string ⟨#[UInt8.ofNat v]⟩,.slice none 0 0]
 go_wp2_with (refine stE (.tmp 4) (.tmp 8) #[I0,.int .i64 t,Bf,.string ⟨#[UInt8.ofNat v]⟩,.slice none 0 0] hr2 rfl (by simp[Value.oneCell']) ?_)
 all_goals refine aH (v:=.agg #[I0,.int .i64 t,Bf,.string ⟨#[UInt8.ofNat v]⟩,.slice none 0 0]) ?_ rfl ⟨rfl,hb4⟩
 all_goals have hr:=rlE hq rfl
 all_goals simp[results,Tryz.f10]
 all_goals exact hr
def isE(el:El)(c t:Int)(k:Bool):Bool:=decide (el.cls=c)&&decide (el.tag=t)&&(el.cons==k)
theorem kz(el:El)(u:Value)(cl t:Int)(k:Bool)(w:World)(h:bf (fun _=>True) w u el.kids):
  Cr 145 #[.agg (elA el u),.int .i64 cl,.int .i64 t,.bool k] w (.bool (isE el cl t k)):=by
 obtain⟨a,c,hf⟩:=h.shape;subst hf;clear h;have hb:=alb w #[.int .i64 el.cls,.int .i64 el.tag,.bool el.cons,.string ⟨el.bytes.toArray⟩,.slice a el.kids.length c] 40;unfold elA
 by_cases h1:el.cls=cl
 ·by_cases h2:el.tag=t
  ·obtain⟨b,h3⟩:∃b,el.cons=b:=⟨_,rfl⟩
   have hr:isE el cl t k=(b==k):=by simp[isE,h1,h2,h3]
   rw[hr];rw[h1,h2,h3] at hb;rw[h1,h2,h3];clear hr h1 h2 h3
   go_enter Tryz.func145,Tryz.ntmps145
   go_wp2_with fail
   go_ret
   exact⟨rfl,hb⟩
  ·have hr:isE el cl t k=false:=by simp[isE,h2]
   have g2:(el.tag==t)=false:=by simpa using h2
   rw[hr];rw[h1] at hb;rw[h1];clear hr h1 h2
   go_enter Tryz.func145,Tryz.ntmps145
   go_wp2_with fail
   go_ret
   exact⟨rfl,hb⟩
 ·have hr:isE el cl t k=false:=by simp[isE,h1]
  have g1:(el.cls==cl)=false:=by simpa using h1
  rw[hr];clear hr h1
  go_enter Tryz.func145,Tryz.ntmps145
  go_wp2_with fail
  go_ret
  exact⟨rfl,hb⟩
theorem pg(el:El)(u:Value)(cl t:Int)(w:World)(h:bf (fun _=>True) w u el.kids):
  Cr 151 #[.agg (elA el u),.int .i64 cl,.int .i64 t] w (if isE el cl t false then .tuple #[.string ⟨el.bytes.toArray⟩,I0] else .tuple #[Es,.int .i64 24]):=by
 obtain⟨a,c,hf⟩:=h.shape;subst hf;have b1:=alb w (Er el a c) 40;have r1:=alz w (Er el a c) 40;have k:=kz el _ cl t false _ (h.below b1);obtain⟨R,hR⟩:=nmm (isE el cl t false);rw[hR] at k⊢;unfold elA at k⊢;clear h hR;cases R
 all_goals
  simp only[if_true,aW,if_false]
  go_enter Tryz.func151,Tryz.ntmps151
  refine wp_seq ?_;refine aQ ?_;refine aB rfl (kkn ?_);generalize w.alloc (.cells (Er el a c) 40)=w1 at b1 r1 k⊢
  go_wp2_with (refine ldE (.tmp 3) r1 rfl ?_)
  refine ag k ?_;rintro e w2 ⟨rfl,hb2⟩;have r2:=bkk hb2 r1;have q3:=cval r2 3 (.string ⟨el.bytes.toArray⟩);have b2:=btt b1 hb2;clear k r1 r2 hb2 b1
  go_wp2_with fail
  go_ret2
  exact⟨rfl,b2⟩
theorem nH(el:El)(u:Value)(cl t:Int)(w:World)(h:bf (fun _=>True) w u el.kids)(hs:SmE el):
  Calls Tryz.prog 120 #[.agg (elA el u),.int .i64 cl,.int .i64 t] w fun e w'=>(∃v,e=.returned (.tuple #[v,.int .i64 (if isE el cl t true then 0 else 24)])∧bf (fun g=>w.heap.size≤g) w' v (if isE el cl t true then el.kids else[]))∧Bw w w':=by
 obtain⟨_,sl,sk⟩:=dV hs;obtain⟨a,c,hf⟩:=h.shape;subst hf;have b1:=alb w (Er el a c) 40;have r1:=alz w (Er el a c) 40;have k:=kz el _ cl t true _ (h.below b1);obtain⟨H1,SK⟩:=Cg (h.below b1) sk;obtain⟨R,hR⟩:=nmm (isE el cl t true);rw[hR] at k⊢;unfold elA at k⊢;clear h hR sk hs;cases R
 all_goals
  simp only[if_true,aW,if_false]
  go_enter Tryz.func120,Tryz.ntmps120
  refine wp_seq ?_;refine aQ ?_;refine aB rfl (kkn ?_);generalize w.alloc (.cells (Er el a c) 40)=w1 at b1 r1 k H1⊢
  go_wp2_with (refine ldE (.tmp 3) r1 rfl ?_)
  refine ag k ?_;rintro e w2 ⟨rfl,hb2⟩;have r2:=bkk hb2 r1;have q4:=cval r2 4 (.slice a el.kids.length c);have b2:=btt b1 hb2;have kc:=DQ (fT el.kids) el.kids (ah _) SK.out sl _ w2 (H1.out.below hb2);clear k r1 r2 hb2 b1 H1
 ·go_wp2_with fail
  go_ret2
  exact⟨⟨_,rfl,bf.nil _ _⟩,b2⟩
 ·go_wp2_with fail
  refine ag kc ?_;rintro e w3 ⟨⟨v,rfl,hv⟩,hb3⟩;have b3:=btt b2 hb3;have hs2:=b2.size;have HV:=hid (hv.mono (Q:=fun g=>w.heap.size≤g) (fun g hg _=>by omega));clear kc hv hb3
  go_wp2_with fail
  go_ret2
  exact⟨⟨_,rfl,HV.out⟩,b3⟩
theorem wO(b:UInt8):bits BinOp.and IntKind.u8 (b.toNat:Int) 31=((b.toNat% 32:Nat):Int):=by
 have:∀i:Fin 256,bits BinOp.and IntKind.u8 ((UInt8.ofNat i.val).toNat:Int) 31=(((UInt8.ofNat i.val).toNat% 32:Nat):Int):=by decide+kernel
 have h:=this ⟨b.toNat,UInt8.toNat_lt b⟩
 simpa using h
theorem sx(b:UInt8):bits BinOp.and IntKind.u8 (b.toNat:Int) 32=((b.toNat/32% 2*32:Nat):Int):=by
 have:∀i:Fin 256,bits BinOp.and IntKind.u8 ((UInt8.ofNat i.val).toNat:Int) 32=(((UInt8.ofNat i.val).toNat/32% 2*32:Nat):Int):=by decide+kernel
 have h:=this ⟨b.toNat,UInt8.toNat_lt b⟩
 simpa using h
theorem ph(b0 b1:UInt8)(r:List UInt8)(h0:b0.toNat% 32≤30)(h1:b1.toNat<128)(w:World):
  Calls Tryz.prog 93 #[.string ⟨(b0::b1::r).toArray⟩] w fun e w'=>e=.returned (.tuple #[.int .i64 2,.int .i64 (b1.toNat:Int),I0])∧∃m,w'=w.drewN m:=by
 have e0:(⟨(b0::b1::r).toArray⟩:ByteArray)[0]'(by simp[ByteArray.size])=b0:=rfl;have e1:(⟨(b0::b1::r).toArray⟩:ByteArray)[1]'(by simp[ByteArray.size])=b1:=rfl;obtain⟨T,hT⟩:=nmm (b0.toNat% 32);have ha:=wO b0;rw[hT] at ha h0;have g1:decide ((30:Int)<(T:Int))=false:=an (by omega);have g2:decide ((b1.toNat:Int)<128)=true:=aC (by omega);have g3:((r.length:Int)+1+1==1)=false:=by simp;omega
 clear hT
 go_enter Tryz.func93,Tryz.ntmps93
 go_wp2_with fail
 go_quiet (fail)
 go_wp2_with fail
 refine aH (v:=.tuple #[.int .i64 2,.int .i64 (b1.toNat:Int),I0]) ?_ rfl ⟨rfl,_,rfl⟩
 simp[results,Tryz.f93]
theorem xx{P:Program}{w:World}{o:Oper}{a:Act}{K:Act→World→Prop}{Q:Exit→Act→World→Prop}(t:TypeId)(x y:Operand)(ho:o.op=.store t x y)
  (g:Nat) (ty:TypeId) (old cs:Array Value) (hx:a.eval x=.pointer (some ⟨g,0,none⟩)) (hy:a.eval y=.agg cs) (hg:w.heap[g]?=some (.cells old ty (0,0))) (hi:(P.info? t).map (·.size)=some cs.size) (hs:old.size=cs.size) (h1:cs.all (·.oneCell')=true)
  (hK:K (a.put o.dst (.tuple #[])) (w.setRow g cs)):o.wp P a w K Q:=by
 have hr:=run_storeVar_row (P:=P) w g ty t old cs hg hi hs h1;unfold Oper.wp execOp;simp only[ho,hx,hy,Instr.storeAt,Instr.sureAddr,Sem.run_bind,Sem.run_pure,Result.andThen_ok,hr];exact hK
theorem qC(s:List UInt8)(w:World)(hl:s.length≤1000000000):
  Cr 124 #[.string ⟨s.toArray⟩] w (.string ⟨s.toArray⟩):=by
 have k:=Tryz.stringslite_Clone ⟨s.toArray⟩ w (by rw[Lib.size_mk];omega)
 go_enter Tryz.func124,Tryz.ntmps124
 go_wp2_with fail
 refine ag k ?_;rintro e w1 ⟨rfl,hb⟩
 go_wp2_with fail
 go_ret
 exact⟨rfl,hb⟩
def vX:Value→Nat
 | .string s=>s.size
 |_=>0
theorem AO(po pe:Nat)(w:World):
  CallsD Tryz.prog 113 #[.pointer (some ⟨po,0,none⟩),.pointer (some ⟨pe,0,none⟩)] .returning w fun e u' w'=>e=.returned (.tuple #[])∧u'=.returning∧w'=w:=by
 refine callsD_of_wpS Tryz.func113 rfl fun c₀ cs hu=>?_
 apply wpS_seq;apply wpS_region
 simp[wpOpsS,go_sem,recoverD,hu,Tryz.ntmps113,Exit.thenS]
 refine wpS_of_wp ?_;simp only[Array.replicate,List.replicate,List.setIfInBounds_toArray,List.set]
 go_wp2
 cases c₀
 simp_all [bodyPostS,results,Tryz.results113]
def Hk(w w':World):Prop:=(∀(g:Nat) (cs:Array Value) (t:TypeId) (fr:Nat×Nat),w.heap[g]?=some (.cells cs t fr)→w'.heap[g]?=some (.cells cs t fr))∧∀(g i:Nat) (x:Value),w.cell? ⟨g,i,none⟩=some x→w'.cell? ⟨g,i,none⟩=some x
theorem Hk.refl(w:World):Hk w w:=⟨fun _ _ _ _ h=>h,fun _ _ _ h=>h⟩
theorem Hk.trans{a b c:World}(h:Hk a b)(k:Hk b c):Hk a c:=⟨fun _ _ _ _ q=>k.1 _ _ _ _ (h.1 _ _ _ _ q),fun _ _ _ q=>k.2 _ _ _ (h.2 _ _ _ q)⟩
theorem Hk.below{w w':World}(h:Bw w w'):Hk w w':=⟨fun g _ _ _ q=>(h.block g (gl q)).trans q,fun _ _ _ q=>(h.cell (bj q)).trans q⟩
theorem Hk.map{w w':World}{r:Nat}{es:Array MapEntry}{c:Nat}(hr:w.heap[r]?=some (.map es c))(h:∀j,j≠r→w'.heap[j]?=w.heap[j]?):Hk w w':=by
 refine⟨fun g cs t fr q=>?_,fun g i x q=>?_⟩
 ·by_cases hg:g=r
  ·subst hg;rw[hr] at q;cases q
  ·exact(h g hg).trans q
 ·by_cases hg:g=r
  ·subst hg;simp[World.cell?,hr] at q
  ·exact(fE (h g hg)).trans q
mutual
theorem ElC.hk{P:Nat→Prop}{w w':World}(h:Hk w w'):∀(e:El) (g o:Nat),ElC P w e g o→ElC P w' e g o
 | .mk c t k b ks,g,o,q=>by
  simp only[ElC] at q⊢;obtain⟨h0,h1,h2,h3,u,h4,a,cap,hu,hc,hk⟩:=q;refine⟨h.2 _ _ _ h0,h.2 _ _ _ h1,h.2 _ _ _ h2,h.2 _ _ _ h3,u,h.2 _ _ _ h4,a,cap,hu,hc,fun hn=>?_⟩;obtain⟨g',o',ha,hp,hs⟩:=hk hn;exact⟨g',o',ha,hp,cE.hk h ks g' o' hs⟩
theorem cE.hk{P:Nat→Prop}{w w':World}(h:Hk w w'):∀(l:List El) (g o:Nat),cE P w l g o→cE P w' l g o
 |[],_,_,_=>by simp only[cE]
 |e::r,g,o,q=>by
  simp only[cE] at q⊢;exact⟨ElC.hk h e g o q.1,cE.hk h r g (o+5) q.2⟩
end
theorem bf.hk{P:Nat→Prop}{w w':World}{v:Value}{ks:List El}(q:bf P w v ks)(h:Hk w w'):bf P w' v ks:=by
 obtain⟨a,cap,hv,hc,hk⟩:=q;refine⟨a,cap,hv,hc,fun hn=>?_⟩;obtain⟨g,o,ha,hp,hs⟩:=hk hn;exact⟨g,o,ha,hp,cE.hk h ks g o hs⟩
/-! A region in every order: by what holds behind each of its operations. -/
def gJ(listed:Array Bool):Nat:=(listed.toList.filter (!·)).length
theorem kA:∀(l:List Bool) (i:Nat),l[i]?=some false→((l.set i true).filter (!·)).length+1=(l.filter (!·)).length
 |[],i,h=>by simp at h
 |b::l,0,h=>by
  simp at h
  subst h
  simp
 |b::l,i+1,h=>by
  have ih:=kA l i (by simpa using h);cases b<;>simp at ih⊢<;>omega
theorem my{listed:Array Bool}{i:Nat}(h:listed.getD i true=false):gJ (listed.setIfInBounds i true)+1=gJ listed:=by
 unfold gJ;have h1:listed.toList[i]?=some false:=by
  rcases Nat.lt_or_ge i listed.size with h'|h'
  ·simp[h'] at h⊢;exact h
  ·simp[Array.getElem?_eq_none h'] at h
 rw[Array.toList_setIfInBounds];exact kA _ _ h1
theorem kB{md:Region.Mode}{ops:Array Oper}(hdown:∀(i:Nat) (o:Oper),ops[i]?=some o→∀e∈o.after,Region.binds md e=true→e.on<i){listed:Array Bool}(hsz:listed.size=ops.size)(hr:Region.ready md ops listed=[]):
  ∀i,i<ops.size→listed.getD i false=true:=by
 intro i
 induction i using Nat.strongRecOn with
 |_ i ih=>
  intro hi;cases hx:listed.getD i false with
  |true=>rfl
  |false=>
   exfalso
   have ho:ops[i]?=some ops[i]:=by simp[hi]
   have hm:i∈Region.ready md ops listed:=mem_ready.2 ⟨by
    have:i<listed.size:=by omega
    simp[this] at hx⊢;exact hx,ops[i],ho,fun e he hb=>ih e.on (hdown i _ ho e he hb) (by have:=hdown i _ ho e he hb;omega)⟩
   rw[hr] at hm;cases hm
theorem qD{P:Program}{md:Region.Mode}{ops:Array Oper}{Q:Exit→Act→World→Prop}(I:Array Bool→Act→World→Prop)
  (hdown:∀(i:Nat) (o:Oper),ops[i]?=some o→∀e∈o.after,Region.binds md e=true→e.on<i)
  (hdone:∀(listed:Array Bool) (a:Act) (w:World),(∀i,i<ops.size→listed.getD i false=true)→I listed a w→Q .normal a w)
  (hstep:∀(i:Nat) (o:Oper) (listed:Array Bool) (a:Act) (w:World),ops[i]?=some o→listed.getD i true=false→listed.size=ops.size→(∀e∈o.after,Region.binds md e=true→listed.getD e.on false=true)→I listed a w→
   wpOp P ops Q i (I (listed.setIfInBounds i true)) a w):
  ∀(fuel:Nat) (listed:Array Bool) (a:Act) (w:World),listed.size=ops.size→gJ listed≤fuel→I listed a w→wpAny P md ops Q fuel listed a w:=by
 intro fuel
 induction fuel with
 |zero=>
  intro listed a w hsz hf hI;have hr:Region.ready md ops listed=[]:=by
   cases hx:Region.ready md ops listed with
   |nil=>rfl
   |cons j js=>
    have hj:j∈Region.ready md ops listed:=by rw[hx];exact List.mem_cons_self
    have:=my (mem_ready.1 hj).1
    omega
  exact⟨hr,hdone _ _ _ (kB hdown hsz hr) hI⟩
 |succ fuel ih=>
  intro listed a w hsz hf hI;refine⟨fun hr=>hdone _ _ _ (kB hdown hsz hr) hI,fun i hi=>?_⟩;obtain⟨hn,o,ho,hall⟩:=mem_ready.1 hi;have h1:=my hn;exact wpOp_mono (fun a' w' h=>ih _ a' w' (by simpa using hsz) (by omega) h) (hstep i o listed a w ho hn hsz hall hI)
theorem Do{P:Program}{ops:Array Oper}{Q:Exit→Act→World→Prop}{K:Act→World→Prop}{i:Nat}{o:Oper}{a:Act}{w:World}(ho:ops[i]?=some o)(hw:Region.wanted o (yielded ops a.tmps)=true)
  (h:∀K':Act→World→Prop,(∀a w,K a w→K' a w)→Oper.wp P o a w K' Q):wpOp P ops Q i K a w:=by
 unfold wpOp;rw[ho];simp only[hw,if_true];exact .inl (h _ (fun _ _ k=>k))
/-! message.op's closures over a row of elements. -/
theorem gK(v:Value)(w:World)(hv:∃a n c,v=.slice a n c):
  Calls Tryz.prog 75 #[v] w fun e w'=>(∃b,e=.returned (.func (.func 76) #[] #[.pointer (some ⟨b,0,none⟩)])∧w'.cell? ⟨b,0,none⟩=some v)∧Bw w w':=by
 have hmf:∀(fn:Fn) (first cap:Array Value) (w:World),(Instr.makeFunc fn first cap).run Tryz.prog w=.ok (.func fn first cap) w:=fun _ _ _ _=>rfl
 obtain⟨a,n,c,rfl⟩:=hv;have b1:=alb w #[.slice a n c] 38;have c1:(w.alloc (.cells #[.slice a n c] 38)).cell? ⟨w.heap.size,0,none⟩=some (.slice a n c):=(aq (fb w (.cells #[.slice a n c] 38) w.heap.size rfl) 0).trans rfl;have C1:=hid c1;clear c1
 go_enter Tryz.func75,Tryz.ntmps75
 go_wp2_with fail
 go_ret
 exact⟨⟨_,rfl,C1.out⟩,b1⟩
theorem gh(b:Nat)(v:Value)(l:List El)(w:World)(hc:w.cell? ⟨b,0,none⟩=some v)(h:bf (fun _=>True) w v l)(hs:SmL l)(hl:l.length≤1000000000):
  Calls Tryz.prog 76 #[.pointer (some ⟨b,0,none⟩)] w fun e w'=>(∃u,e=.returned (.agg (elA (.mk 0 16 true [] l) u))∧bf (fun g=>w.heap.size≤g) w' u l)∧Bw w w':=by
 have b1:=alb w Ze 40;have t1:=alz w Ze 40;have c1:=(b1.cell (bj hc)).trans hc;have ks:=cH l v (w.alloc (.cells Ze 40)) (h.below b1) hs hl;clear hc h hs hl
 go_enter Tryz.func76,Tryz.ntmps76
 go_wp2_with fail
 generalize w.alloc (.cells Ze 40)=w1 at b1 t1 c1 ks⊢;refine ag ks ?_;rintro e w2 ⟨⟨u,rfl,hu⟩,hb2⟩;have t2:=bkk hb2 t1;have b2:=btt b1 hb2;have hs1:=b1.size;obtain⟨E,hE⟩:=nmm (elA (.mk 0 16 true [] l) u);have hE1:E.all (·.oneCell')=true:=by
  obtain⟨a,c,hsl⟩:=hu.shape;subst hsl;rw[←hE];simp[elA,Value.oneCell']
 have hE2:E.size=5:=by rw[←hE];rfl
 rw[hE];have b3:=xo b2 (g:=w.heap.size) (ah _) E;have t3:=setRow_heap w2 w.heap.size _ E _ _ t2;have htl:=(gl t1);have u3:bf (fun g=>w.heap.size≤g) (w2.setRow w.heap.size E) u l:=hu.kept fun g hg hl=>⟨setRow_other w2 w.heap.size g E (by omega),by omega⟩
 obtain⟨HE,HE1,HE2,U3⟩:=Ci hE hE1 hE2 u3;clear ks c1 t1 b1 hb2 hu hE hE1 hE2 u3
 go_wp2_with (refine stE (.tmp 1) (.tmp 3) E t2 HE2.out HE1.out ?_)
 refine aH (v:=.agg E) ?_ rfl ⟨⟨u,by rw[HE.out],U3.out⟩,b3⟩;have hr:=rlE t3 HE2.out
 simp[results,Tryz.f76]
 exact hr
def fp(a:Act)(o:Oper):Value:=match o.dst with|some d=>a.tmps.getD d undef|none=>undef
theorem qV{a:Act}{o:Oper}{v:Value}(hd:∀d,o.dst=some d→d<a.tmps.size):fp (a.put o.dst v) o=match o.dst with|some _=>v|none=>undef:=by
 unfold fp Act.put;cases h:o.dst with
 |none=>rfl
 |some d=>simp[hd d h]
theorem nN{a:Act}{o o':Oper}{v:Value}(h:∀d,o.dst=some d→o'.dst≠some d):fp (a.put o.dst v) o'=fp a o':=by
 unfold fp Act.put;cases h1:o.dst with
 |none=>rfl
 |some d=>
  cases h2:o'.dst with
  |none=>rfl
  |some d'=>
   have:d≠d':=fun e=>h d h1 (e▸h2)
   simp[this]
theorem ox{a:Act}{o:Oper}{d:Nat}(hd:o.dst=some d)(hl:d<a.tmps.size):a.tmps[d]?=some (fp a o):=by
 unfold fp;rw[hd]
 simp[hl]
def kI(md:Region.Mode)(n:Nat)(ops:Array Oper):Bool:=
 (List.range ops.size).all fun i=>match ops[i]? with
  |none=>false
  |some o=>o.guard.isNone&&(o.after.toList.all fun e=>!Region.binds md e||decide (e.on<i))&&(match o.dst with|none=>true|some d=>decide (d<n)&&((List.range ops.size).all fun j=>decide (j=i)||(match ops[j]? with|none=>true|some o'=>!(o'.dst==some d))))
theorem iP{md:Region.Mode}{n:Nat}{ops:Array Oper}(h:kI md n ops=true){i:Nat}{o:Oper}(ho:ops[i]?=some o):
  o.guard=none∧(∀e∈o.after,Region.binds md e=true→e.on<i)∧∀d,o.dst=some d→d<n∧∀j o',ops[j]?=some o'→j≠i→o'.dst≠some d:=by
 unfold kI at h;rw[List.all_eq_true] at h;have hi:i<ops.size:=(gl ho);have h1:=h i (List.mem_range.2 hi);rw[ho] at h1;simp only[aI,Option.isNone_iff_eq_none,List.all_eq_true,Bool.or_eq_true,Bool.not_eq_true',aT] at h1;refine⟨h1.1.1,fun e he hb=>?_,fun d hd=>?_⟩
 ·rcases h1.1.2 e (by simpa using he) with q|q
  ·rw[hb] at q;cases q
  ·exact q
 ·have h2:=h1.2
  rw[hd] at h2;simp only[aI,aT,List.all_eq_true,Bool.or_eq_true] at h2;refine⟨h2.1,fun j o' hj hji he=>?_⟩;have hjl:j<ops.size:=(gl hj);rcases h2.2 j (List.mem_range.2 hjl) with q|q
  ·exact hji q
  ·rw[hj] at q
   simp[he] at q
theorem pw{P:Program}{md:Region.Mode}{ops:Array Oper}{Q:Exit→Act→World→Prop}(n:Nat)(hok:kI md n ops=true)
  (G:Nat→Value→World→Prop) (H:World→World→Prop) (B:Array Bool→Act→World→Prop)
  (hG:∀i v w w',H w w'→G i v w→G i v w')
  (hstep:∀(i:Nat) (o:Oper) (listed:Array Bool) (a:Act) (w:World),ops[i]?=some o→listed.getD i true=false→listed.size=ops.size→a.tmps.size=n→B listed a w→
   (∀(j:Nat) (o':Oper),ops[j]?=some o'→listed.getD j false=true→G j (fp a o') w)→(∀e∈o.after,Region.binds md e=true→listed.getD e.on false=true)→
   ∀K':Act→World→Prop,(∀(v:Value) (w':World),G i (match o.dst with|some _=>v|none=>undef) w'→H w w'→B (listed.setIfInBounds i true) (a.put o.dst v) w'→K' (a.put o.dst v) w')→Oper.wp P o a w K' Q)
  (a:Act) (w:World) (hn:a.tmps.size=n) (hB:B (Array.replicate ops.size false) a w)
  (hdone:∀(listed:Array Bool) (a:Act) (w:World),(∀i,i<ops.size→listed.getD i false=true)→a.tmps.size=n→B listed a w→(∀(j:Nat) (o':Oper),ops[j]?=some o'→G j (fp a o') w)→Q .normal a w):
  wpAny P md ops Q ops.size (Array.replicate ops.size false) a w:=by
 have hput:∀(a:Act) (d:Option Tmp) (v:Value),(a.put d v).tmps.size=a.tmps.size:=by
  intro a d v;cases d<;>simp[Act.put]
 refine qD (fun listed a w=>a.tmps.size=n∧B listed a w∧∀(j:Nat) (o':Oper),ops[j]?=some o'→listed.getD j false=true→G j (fp a o') w) (fun i o ho=>(iP hok ho).2.1) ?_ ?_ ops.size _ a w (by simp) ?_ ⟨hn,hB,?_⟩
 ·intro listed a w hall ⟨h1,h2,h3⟩
  exact hdone listed a w hall h1 h2 (fun j o' hj=>h3 j o' hj (hall j (gl hj)))
 ·intro i o listed a w ho hi hsz hall ⟨h1,h2,h3⟩
  obtain⟨hgd,_,hds⟩:=iP hok ho;have hil:i<ops.size:=(gl ho);refine Do ho (by simp[Region.wanted,hgd]) fun K' hK'=>?_
  refine hstep i o listed a w ho hi hsz h1 h2 h3 hall K' (fun v w' hv hH hB'=>hK' _ _ ⟨(hput _ _ _).trans h1,hB',fun j o' hj hl=>?_⟩)
  by_cases hji:j=i
  ·subst hji
   rw[ho] at hj;cases hj;rw[qV (fun d hd=>by rw[h1];exact(hds d hd).1)];exact hv
  ·have hl':listed.getD j false=true:=by
    simpa[Array.getElem?_setIfInBounds,Ne.symm hji] using hl
   rw[nN (fun d hd=>(hds d hd).2 j o' hj hji)];exact hG _ _ _ _ hH (h3 j o' hj hl')
 ·simp[gJ]
 ·intro j o' hj hl
  have:=(gl hj)
  simp[this] at hl
/-! The operations one by one. -/
theorem jS{P:Program}{o:Oper}{a:Act}{w w':World}{K:Act→World→Prop}{Q:Exit→Act→World→Prop}{v:Value}(hr:(execOp a.eval o).run P w=.ok (.value v) w')(h:K (a.put o.dst v) w'):Oper.wp P o a w K Q:=by
 unfold Oper.wp;rw[hr];exact h
theorem sj{P:Program}{o:Oper}{a:Act}{w:World}{K:Act→World→Prop}{Q:Exit→Act→World→Prop}{f:FuncId}{args:Array Value}(hr:(execOp a.eval o).run P w=.ok (.enter f args) w)(h:Calls P f args w fun e w'=>∃v,e=.returned v∧K (a.put o.dst v) w'):Oper.wp P o a w K Q:=by
 unfold Oper.wp;rw[hr,Oper.upon_enter];refine h.mono ?_;rintro e w' ⟨v,rfl,hk⟩;exact hk
/-! A map that the region fills. -/
theorem jT{P:Program}(w:World)(mty kt et:TypeId)(r clock:Nat)(es:Array MapEntry)(k:Int)(z:Value)(hm:P.underlying mty=some (.map kt et))(hk:P.underlying kt=some (.int .i64))(hb:w.heap[r]?=some (.map es clock))
  (hint:∀x∈es.toList,∃k',x.key=.int .i64 k') (hz:(zeroValue et).run P w=.ok z w):
  (∃x,x∈es.toList∧x.key=.int .i64 k∧(Instr.lookup mty (.map (some r)) (.int .i64 k) true).run P w=.ok (.tuple #[x.val,.bool true]) w)∨
   ((∀x∈es.toList,x.key≠.int .i64 k)∧(Instr.lookup mty (.map (some r)) (.int .i64 k) true).run P w=.ok (.tuple #[z,Bf]) w):=by
 have hkey:∀j:Int,MapKept.IsKey (.int .i64) (.int .i64 j):=fun j=>by simp[MapKept.IsKey]
 have hc:(Instr.checkKey es.isEmpty 10000 kt (.int .i64 k)).run P w=.ok () w:=MapKept.run_checkKey (k:=.int .i64 k) hk (hkey k) es.isEmpty 9999;rcases MapKept.findNow_spec (hkey k) es.toList 0 (fun x hx=>by obtain⟨k',e⟩:=hint x hx;rw[e];exact hkey k') with⟨h1,h2⟩|⟨j,e,h1,h2,h3⟩
 ·refine .inr ⟨h2,?_⟩
  simp[Instr.lookup,run_underlying hm,MapKept.run_getObj_map hb,hc,MapKept.run_findKey hk h1,hz,Result.andThen]
 ·refine .inl ⟨e,List.mem_of_getElem? h2,h3,?_⟩
  simp[Instr.lookup,run_underlying hm,MapKept.run_getObj_map hb,hc,MapKept.run_findKey hk h1,Result.andThen]
def ey(L:List (Nat×Int))(V:Nat→Value→World→Prop)(listed:Nat→Bool)(r:Nat)(w:World):Prop:=
 ∃es c,w.heap[r]?=some (.map es c)∧(∀x∈es.toList,∃p,p∈L∧listed p.1=true∧x.key=.int .i64 p.2∧V p.1 x.val w)∧∀p∈L,listed p.1=true→∃x,x∈es.toList∧x.key=.int .i64 p.2
theorem ey.keep{L:List (Nat×Int)}{V:Nat→Value→World→Prop}{listed listed':Nat→Bool}{r:Nat}{w w':World}(h:ey L V listed r w)(hr:w'.heap[r]?=w.heap[r]?)(hV:∀i v,V i v w→V i v w')(hl:∀p∈L,listed' p.1=listed p.1):ey L V listed' r w':=by
 obtain⟨es,c,h1,h2,h3⟩:=h;refine⟨es,c,hr.trans h1,fun x hx=>?_,fun p hp hlp=>h3 p hp (by rw[←hl p hp];exact hlp)⟩;obtain⟨p,hp,hq,hk,hv⟩:=h2 x hx;exact⟨p,hp,(hl p hp).trans hq,hk,hV _ _ hv⟩
theorem kJ{P:Program}{L:List (Nat×Int)}{V:Nat→Value→World→Prop}{listed:Nat→Bool}{r:Nat}{w:World}(mty kt et:TypeId)(i:Nat)(k:Int)(val:Value)(hm:P.underlying mty=some (.map kt et))(hk:P.underlying kt=some (.int .i64))
  (h:ey L V listed r w) (hi:(i,k)∈L) (hinj:∀p∈L,p.2=k→p.1=i) (hdist:∀p∈L,p.1=i→p.2=k) (hn:listed i=false) (hV:∀i v w w',Hk w w'→V i v w→V i v w') (hval:V i val w):
  ∃w',(Instr.mapUpdate mty (.map (some r)) (.int .i64 k) val).run P w=.ok () w'∧ey L V (fun j=>if j=i then true else listed j) r w'∧w'.heap.size=w.heap.size∧(∀j,j≠r→w'.heap[j]?=w.heap[j]?)∧w'.os=w.os∧w'.tape=w.tape∧w'.output=w.output∧Hk w w':=by
 obtain⟨es,c,h1,h2,h3⟩:=h;have hkey:∀j:Int,MapKept.IsKey (.int .i64) (.int .i64 j):=fun j=>by simp[MapKept.IsKey]
 have hnone:Instr.findNow (.int .i64) (.int .i64 k) es.toList 0=some none:=by
  rcases MapKept.findNow_spec (hkey k) es.toList 0 (fun x hx=>by obtain⟨p,_,_,e,_⟩:=h2 x hx;rw[e];exact hkey p.2) with⟨q,_⟩|⟨j,e,_,q2,q3⟩
  ·exact q
  ·exfalso
   obtain⟨p,hp,hq,e',_⟩:=h2 e (List.mem_of_getElem? q2);rw[q3] at e'
   injection e' with _ e''
   have:=hinj p hp e''.symm;rw[this,hn] at hq;cases hq
 obtain⟨w',hr,hb,hs,ho,e1,e2,e3⟩:=oE w mty kt et r c es k val hm hk h1 hnone;have hH:Hk w w':=Hk.map h1 ho;refine⟨w',hr,⟨_,_,hb,fun x hx=>?_,fun p hp hl=>?_⟩,hs,ho,e1,e2,e3,hH⟩
 ·simp only[Array.toList_push,List.mem_append,List.mem_singleton] at hx
  rcases hx with hx|rfl
  ·obtain⟨p,hp,hq,e,hv⟩:=h2 x hx
   exact⟨p,hp,by simp[hq],e,hV _ _ _ _ hH hv⟩
  ·exact⟨(i,k),hi,by simp,rfl,hV _ _ _ _ hH hval⟩
 ·by_cases hpi:p.1=i
  ·have hp2:p=(i,p.2):=by rw[←hpi]
   by_cases hpk:p.2=k
   ·exact⟨_,by rw[Array.toList_push];exact List.mem_append_right _ (List.mem_singleton.2 rfl),by rw[hpk]⟩
   ·simp only[hpi,if_true] at hl
    by_cases hli:listed p.1=true
    ·rw[hpi,hn] at hli;cases hli
    ·exact absurd (hdist p hp hpi) hpk
  ·simp only[hpi,if_false] at hl
   obtain⟨x,hx,e⟩:=h3 p hp hl;exact⟨x,by simp[hx],e⟩
def rp(l:List El)(v:Value)(w:World):Prop:=∃u,v=.agg (elA (.mk 0 16 true [] l) u)∧bf (fun _=>True) w u l
def fc(l:List El)(v:Value)(w:World):Prop:=∃b u,v=.func (.func 76) #[] #[.pointer (some ⟨b,0,none⟩)]∧w.cell? ⟨b,0,none⟩=some u∧bf (fun _=>True) w u l
theorem rp.hk{l:List El}{v:Value}{w w':World}(h:rp l v w)(k:Hk w w'):rp l v w':=by
 obtain⟨u,e,q⟩:=h;exact⟨u,e,q.hk k⟩
theorem fc.hk{l:List El}{v:Value}{w w':World}(h:fc l v w)(k:Hk w w'):fc l v w':=by
 obtain⟨b,u,e,hc,q⟩:=h;exact⟨b,u,e,k.2 _ _ _ hc,q.hk k⟩
structure OpX where
 M:Nat
 dn:List UInt8
 typ:List UInt8
 value:List UInt8
 vm:Value
 va:Value
 lm:List El
 la:List El
def opL:List (Nat×Int):=[(2,0),(3,2),(5,3),(15,6),(25,8),(35,4),(37,10),(39,12),(54,14),(56,16),(58,23)]
def opV(x:OpX):Nat→Value→World→Prop
 |2,v,_=>v=.func (.func 77) #[] #[.pointer (some ⟨x.M,0,none⟩)]
 |3,v,_=>v=.func (.func 78) #[] #[]
 |5,v,_=>v=.func (.func 79) #[] #[.pointer (some ⟨x.M,0,none⟩)]
 |15,v,w=>fc [(.mk 0 4 false x.dn []),.mk 0 16 true [] x.lm] v w
 |25,v,w=>fc [(.mk 0 4 false x.dn []),.mk 0 16 true [] x.la] v w
 |35,v,w=>fc [(.mk 0 4 false x.dn []),.mk 0 16 true [] x.la] v w
 |37,v,_=>v=.func (.func 84) #[] #[.pointer (some ⟨x.M,0,none⟩)]
 |39,v,_=>v=.func (.func 85) #[] #[.pointer (some ⟨x.M,0,none⟩)]
 |54,v,w=>fc [(.mk 0 4 false x.dn []),.mk 0 16 true [] [(.mk 0 4 false x.typ []),(.mk 0 4 false x.value [])]] v w
 |56,v,_=>v=.func (.func 86) #[] #[.pointer (some ⟨x.M,0,none⟩)]
 |58,v,_=>v=.func (.func 87) #[] #[.pointer (some ⟨x.M,0,none⟩)]
 |_,_,_=>True
def opG(x:OpX):Nat→Value→World→Prop
 |1,v,_=>v=.func (.func 77) #[] #[.pointer (some ⟨x.M,0,none⟩)]
 |4,v,_=>v=.func (.func 79) #[] #[.pointer (some ⟨x.M,0,none⟩)]
 |6,v,_=>v=.func (.func 75) #[] #[]
 |7,v,_=>v=.pointer (some ⟨x.M,2,none⟩)
 |8,v,_=>v=.string ⟨x.dn.toArray⟩
 |9,v,_=>v=.agg (elA (.mk 0 4 false x.dn []) (Sn))
 |10,v,_=>v=.pointer (some ⟨x.M,13,none⟩)
 |11,v,_=>v=x.vm
 |12,v,w=>rp x.lm v w
 |13,v,w=>bf (fun _=>True) w v [(.mk 0 4 false x.dn []),.mk 0 16 true [] x.lm]
 |14,v,w=>fc [(.mk 0 4 false x.dn []),.mk 0 16 true [] x.lm] v w
 |16,v,_=>v=.func (.func 75) #[] #[]
 |17,v,_=>v=.pointer (some ⟨x.M,2,none⟩)
 |18,v,_=>v=.string ⟨x.dn.toArray⟩
 |19,v,_=>v=.agg (elA (.mk 0 4 false x.dn []) (Sn))
 |20,v,_=>v=.pointer (some ⟨x.M,14,none⟩)
 |21,v,_=>v=x.va
 |22,v,w=>rp x.la v w
 |23,v,w=>bf (fun _=>True) w v [(.mk 0 4 false x.dn []),.mk 0 16 true [] x.la]
 |24,v,w=>fc [(.mk 0 4 false x.dn []),.mk 0 16 true [] x.la] v w
 |26,v,_=>v=.func (.func 75) #[] #[]
 |27,v,_=>v=.pointer (some ⟨x.M,2,none⟩)
 |28,v,_=>v=.string ⟨x.dn.toArray⟩
 |29,v,_=>v=.agg (elA (.mk 0 4 false x.dn []) (Sn))
 |30,v,_=>v=.pointer (some ⟨x.M,14,none⟩)
 |31,v,_=>v=x.va
 |32,v,w=>rp x.la v w
 |33,v,w=>bf (fun _=>True) w v [(.mk 0 4 false x.dn []),.mk 0 16 true [] x.la]
 |34,v,w=>fc [(.mk 0 4 false x.dn []),.mk 0 16 true [] x.la] v w
 |36,v,_=>v=.func (.func 84) #[] #[.pointer (some ⟨x.M,0,none⟩)]
 |38,v,_=>v=.func (.func 85) #[] #[.pointer (some ⟨x.M,0,none⟩)]
 |40,v,_=>v=.func (.func 75) #[] #[]
 |41,v,_=>v=.pointer (some ⟨x.M,2,none⟩)
 |42,v,_=>v=.string ⟨x.dn.toArray⟩
 |43,v,_=>v=.agg (elA (.mk 0 4 false x.dn []) (Sn))
 |44,v,_=>v=.pointer (some ⟨x.M,19,none⟩)
 |45,v,_=>v=.string ⟨x.typ.toArray⟩
 |46,v,_=>v=.agg (elA (.mk 0 4 false x.typ []) (Sn))
 |47,v,_=>v=.pointer (some ⟨x.M,20,none⟩)
 |48,v,_=>v=.string ⟨x.value.toArray⟩
 |49,v,_=>v=.agg (elA (.mk 0 4 false x.value []) (Sn))
 |50,v,w=>bf (fun _=>True) w v [(.mk 0 4 false x.typ []),(.mk 0 4 false x.value [])]
 |51,v,w=>rp [(.mk 0 4 false x.typ []),(.mk 0 4 false x.value [])] v w
 |52,v,w=>bf (fun _=>True) w v [(.mk 0 4 false x.dn []),.mk 0 16 true [] [(.mk 0 4 false x.typ []),(.mk 0 4 false x.value [])]]
 |53,v,w=>fc [(.mk 0 4 false x.dn []),.mk 0 16 true [] [(.mk 0 4 false x.typ []),(.mk 0 4 false x.value [])]] v w
 |55,v,_=>v=.func (.func 86) #[] #[.pointer (some ⟨x.M,0,none⟩)]
 |57,v,_=>v=.func (.func 87) #[] #[.pointer (some ⟨x.M,0,none⟩)]
 |59,v,w=>∃r,v=.map (some r)∧ey opL (opV x) (fun _=>true) r w
 |60,v,w=>∃r,v=.map (some r)∧ey opL (opV x) (fun _=>true) r w
 |_,_,_=>True
theorem jn(x:OpX):∀(i:Nat) (v:Value) (w w':World),Hk w w'→opV x i v w→opV x i v w':=by
 intro i v w w' k h;unfold opV at h⊢
 split at h
 all_goals first
  |exact h
  |exact fc.hk h k
  |trivial
def opH(x:OpX)(w w':World):Prop:=Hk w w'∧∀r,ey opL (opV x) (fun _=>true) r w→ey opL (opV x) (fun _=>true) r w'
theorem jo(x:OpX){w w':World}(h:Bw w w'):opH x w w':=
 ⟨Hk.below h,fun r hr=>hr.keep (by obtain⟨es,c,hb,_⟩:=hr;exact h.block r (gl hb)) (fun i v q=>jn x i v _ _ (Hk.below h) q) (fun _ _=>rfl)⟩
theorem sn(x:OpX):∀(i:Nat) (v:Value) (w w':World),opH x w w'→opG x i v w→opG x i v w':=by
 intro i v w w' k h;unfold opG at h⊢
 split at h
 all_goals first
  |exact h
  |exact fc.hk h k.1
  |exact rp.hk h k.1
  |exact bf.hk h k.1
  |(obtain⟨r,e,hr⟩:=h;exact⟨r,e,k.2 r hr⟩)
  |trivial
def opB(x:OpX)(E:Value)(w0:World)(listed:Array Bool)(a:Act)(w:World):Prop:=
 a.tmps[1]?=some (.pointer (some ⟨x.M,0,none⟩))∧a.tmps[2]?=some E∧a.tmps[3]?=some (.func (.func 75) #[] #[])∧a.defers=[]∧Bw w0 w∧(∀p∈opL,listed.getD p.1 false=true→listed.getD 0 false=true)∧
  (listed.getD 0 false=true→∃r,a.tmps[7]?=some (.map (some r))∧w0.heap.size≤r∧ey opL (opV x) (fun j=>listed.getD j false) r w)
abbrev HKt(x:OpX)(E:Value)(w0:World)(o:Oper)(listed:Array Bool)(a:Act)(w:World)(K:Act→World→Prop)(i:Nat):Prop:=∀(v:Value) (w':World),opG x i (match o.dst with|some _=>v|none=>undef) w'→opH x w w'→opB x E w0 (listed.setIfInBounds i true) (a.put o.dst v) w'→K (a.put o.dst v) w'
theorem mM(x:OpX){E:Value}{w0:World}{listed:Array Bool}{a:Act}{w w':World}{i:Nat}{o:Oper}{v:Value}(h:opB x E w0 listed a w)(hd:o.dst≠some 1∧o.dst≠some 2∧o.dst≠some 3∧o.dst≠some 7)(hi:i≠0∧∀p∈opL,p.1≠i)(hb:Bw w w'):
  opB x E w0 (listed.setIfInBounds i true) (a.put o.dst v) w':=by
 have hp:∀d,o.dst≠some d→(a.put o.dst v).tmps[d]?=a.tmps[d]?:=by
  intro d hd';unfold Act.put;cases h1:o.dst with
  |none=>rfl
  |some d1=>
   have:d1≠d:=fun e=>hd' (by rw[h1,e])
   simp[this]
 have hl:∀j,j≠i→(listed.setIfInBounds i true).getD j false=listed.getD j false:=by
  intro j hj
  simp[Ne.symm hj]
 obtain⟨h1,h2,h3,h4,h5,h7,h6⟩:=h;refine⟨(hp 1 hd.1).trans h1,(hp 2 hd.2.1).trans h2,(hp 3 hd.2.2.1).trans h3,?_,(btt h5 hb),fun p hp' q=>(hl 0 (Ne.symm hi.1)).trans (h7 p hp' ((hl p.1 (hi.2 p hp')).symm.trans q)),fun q=>?_⟩
 ·unfold Act.put
  cases o.dst<;>exact h4
 ·rw[hl 0 (Ne.symm hi.1)] at q
  obtain⟨r,e,hr,hm⟩:=h6 q;refine⟨r,(hp 7 hd.2.2.2).trans e,hr,hm.keep ?_ (fun i v q=>jn x i v _ _ (Hk.below hb) q) (fun p hp'=>hl p.1 (hi.2 p hp'))⟩;obtain⟨es,c,hbk,_⟩:=hm;exact hb.block r (gl hbk)
def opT:List (Op×Option Tmp):=[
 (.makeMap 125 none,some 7),
 (.makeFunc (.func 77) #[] #[.tmp 1],some 8),
 (.insert 125 (.tmp 7) (.const (I0)) (.tmp 8),none),
 (.insert 125 (.tmp 7) (.const (.int .i64 2)) (.func 78),none),
 (.makeFunc (.func 79) #[] #[.tmp 1],some 9),
 (.insert 125 (.tmp 7) (.const (.int .i64 3)) (.tmp 9),none),
 (.move (.tmp 3),some 10),
 (.fieldAddr 32 (.tmp 1) 2,some 11),
 (.load 9 (.tmp 11),some 12),
 (.call {callee:=.value (.func 49),args:=#[.tmp 12],argTypes:=#[9]},some 13),
 (.fieldAddr 32 (.tmp 1) 13,some 14),
 (.load 28 (.tmp 14),some 15),
 (.call {callee:=.value (.func 82),args:=#[.tmp 15],argTypes:=#[28]},some 16),
 (.buildSlice 38 2 #[(0,.tmp 13),(1,.tmp 16)],some 17),
 (.call {callee:=.value (.tmp 10),args:=#[.tmp 17],argTypes:=#[38]},some 18),
 (.insert 125 (.tmp 7) (.const (.int .i64 6)) (.tmp 18),none),
 (.move (.tmp 3),some 19),
 (.fieldAddr 32 (.tmp 1) 2,some 20),
 (.load 9 (.tmp 20),some 21),
 (.call {callee:=.value (.func 49),args:=#[.tmp 21],argTypes:=#[9]},some 22),
 (.fieldAddr 32 (.tmp 1) 14,some 23),
 (.load 29 (.tmp 23),some 24),
 (.call {callee:=.value (.func 83),args:=#[.tmp 24],argTypes:=#[29]},some 25),
 (.buildSlice 38 2 #[(0,.tmp 22),(1,.tmp 25)],some 26),
 (.call {callee:=.value (.tmp 19),args:=#[.tmp 26],argTypes:=#[38]},some 27),
 (.insert 125 (.tmp 7) (.const (.int .i64 8)) (.tmp 27),none),
 (.move (.tmp 3),some 28),
 (.fieldAddr 32 (.tmp 1) 2,some 29),
 (.load 9 (.tmp 29),some 30),
 (.call {callee:=.value (.func 49),args:=#[.tmp 30],argTypes:=#[9]},some 31),
 (.fieldAddr 32 (.tmp 1) 14,some 32),
 (.load 29 (.tmp 32),some 33),
 (.call {callee:=.value (.func 83),args:=#[.tmp 33],argTypes:=#[29]},some 34),
 (.buildSlice 38 2 #[(0,.tmp 31),(1,.tmp 34)],some 35),
 (.call {callee:=.value (.tmp 28),args:=#[.tmp 35],argTypes:=#[38]},some 36),
 (.insert 125 (.tmp 7) (.const (.int .i64 4)) (.tmp 36),none),
 (.makeFunc (.func 84) #[] #[.tmp 1],some 37),
 (.insert 125 (.tmp 7) (.const (.int .i64 10)) (.tmp 37),none),
 (.makeFunc (.func 85) #[] #[.tmp 1],some 38),
 (.insert 125 (.tmp 7) (.const (.int .i64 12)) (.tmp 38),none),
 (.move (.tmp 3),some 39),
 (.fieldAddr 32 (.tmp 1) 2,some 40),
 (.load 9 (.tmp 40),some 41),
 (.call {callee:=.value (.func 49),args:=#[.tmp 41],argTypes:=#[9]},some 42),
 (.fieldAddr 32 (.tmp 1) 19,some 43),
 (.load 9 (.tmp 43),some 44),
 (.call {callee:=.value (.func 49),args:=#[.tmp 44],argTypes:=#[9]},some 45),
 (.fieldAddr 32 (.tmp 1) 20,some 46),
 (.load 9 (.tmp 46),some 47),
 (.call {callee:=.value (.func 49),args:=#[.tmp 47],argTypes:=#[9]},some 48),
 (.buildSlice 38 2 #[(0,.tmp 45),(1,.tmp 48)],some 49),
 (.call {callee:=.value (.func 9),args:=#[.tmp 49],argTypes:=#[38]},some 50),
 (.buildSlice 38 2 #[(0,.tmp 42),(1,.tmp 50)],some 51),
 (.call {callee:=.value (.tmp 39),args:=#[.tmp 51],argTypes:=#[38]},some 52),
 (.insert 125 (.tmp 7) (.const (.int .i64 14)) (.tmp 52),none),
 (.makeFunc (.func 86) #[] #[.tmp 1],some 53),
 (.insert 125 (.tmp 7) (.const (.int .i64 16)) (.tmp 53),none),
 (.makeFunc (.func 87) #[] #[.tmp 1],some 54),
 (.insert 125 (.tmp 7) (.const (.int .i64 23)) (.tmp 54),none),
 (.move (.tmp 7),some 55),
 (.assign (.tmp 55),some 4)]
def ma(ops:Array Oper)(i j:Nat):Bool:=match ops[i]? with|none=>false|some o=>o.after.toList.any fun e=>Region.binds .any e&&(e.on==j)
theorem so{ops:Array Oper}{i j:Nat}{o:Oper}(h:ma ops i j=true)(ho:ops[i]?=some o){listed:Array Bool}(hall:∀e∈o.after,Region.binds .any e=true→listed.getD e.on false=true):listed.getD j false=true:=by
 unfold ma at h;rw[ho] at h;simp only[List.any_eq_true,aI,beq_iff_eq] at h;obtain⟨e,he,hb,rfl⟩:=h;exact hall e (by simpa using he) hb
def opW:List (Nat×Nat):=[(2,0),(2,1),(3,0),(5,0),(5,4),(8,7),(9,8),(11,10),(12,11),(13,9),(13,12),(14,6),(14,13),(15,0),(15,14),(18,17),(19,18),(21,20),(22,21),(23,19),(23,22),(24,16),(24,23),(25,0),(25,24),(28,27),(29,28),(31,30),(32,31),(33,29),(33,32),(34,26),(34,33),(35,0),(35,34),(37,0),(37,36),(39,0),(39,38),(42,41),(43,42),(45,44),(46,45),(48,47),(49,48),(50,46),(50,49),(51,50),(52,43),(52,51),(53,40),(53,52),(54,0),(54,53),(56,0),(56,55),(58,0),(58,57),(59,0),(59,2),(59,3),(59,5),(59,15),(59,25),(59,35),(59,37),(59,39),(59,54),(59,56),(59,58),(60,59)]
structure OpC (x:OpX) (E:Value) (w0:World) (ops:Array Oper) (i:Nat) (o:Oper) (listed:Array Bool) (a:Act) (w:World):Prop where
 ho:ops[i]?=some o
 hi:listed.getD i true=false
 hsz:listed.size=ops.size
 hn:a.tmps.size=74
 hB:opB x E w0 listed a w
 hg:∀(j:Nat) (o':Oper),ops[j]?=some o'→listed.getD j false=true→opG x j (fp a o') w
 hall:∀e∈o.after,Region.binds .any e=true→listed.getD e.on false=true
 hok:kI .any 74 ops=true
 htab:ops.toList.map (fun o=>(o.op,o.dst))=opT
 hwt:(opW.all fun p=>ma ops p.1 p.2)=true
theorem bu{a:Act}{d:Nat}{v:Value}(h:a.tmps[d]?=some v):a.eval (.tmp d)=v:=by
 show a.tmps.getD d undef=v
 simp[h]
theorem bx{ops:Array Oper}{T:List (Op×Option Tmp)}(h:ops.toList.map (fun o=>(o.op,o.dst))=T){i:Nat}{o:Oper}(ho:ops[i]?=some o):T[i]?=some (o.op,o.dst):=by
 rw[←h]
 simp[ho]
theorem mN{ops:Array Oper}{T:List (Op×Option Tmp)}(h:ops.toList.map (fun o=>(o.op,o.dst))=T){i:Nat}{p:Op}{d:Option Tmp}(ht:T[i]?=some (p,d)):∃o,ops[i]?=some o∧o.op=p∧o.dst=d:=by
 rw[←h] at ht;simp only[List.getElem?_map,aV,Array.getElem?_toList] at ht;obtain⟨o,ho,e⟩:=ht;exact⟨o,ho,congrArg Prod.fst e,congrArg Prod.snd e⟩
section
variable {x:OpX} {E:Value} {w0:World} {ops:Array Oper} {i:Nat} {o:Oper} {listed:Array Bool} {a:Act} {w:World} {Q:Exit→Act→World→Prop} {K:Act→World→Prop}
theorem OpC.came(c:OpC x E w0 ops i o listed a w){j:Nat}(hm:(i,j)∈opW):listed.getD j false=true:=
 so (List.all_eq_true.1 c.hwt (i,j) hm) c.ho c.hall
theorem OpC.dep(c:OpC x E w0 ops i o listed a w){j d:Nat}{p:Op}(hm:(i,j)∈opW)(ht:opT[j]?=some (p,some d)):∃v,a.tmps[d]?=some v∧opG x j v w:=by
 obtain⟨o',ho',_,hd⟩:=mN c.htab ht;exact⟨_,ox hd (by rw[c.hn];exact((iP c.hok ho').2.2 d hd).1),c.hg j o' ho' (c.came hm)⟩
theorem OpC.value(c:OpC x E w0 ops i o listed a w){d:Nat}{v:Value}{w':World}(hd:o.dst=some d)(hd':d≠1∧d≠2∧d≠3∧d≠7)(hi:i≠0∧∀p∈opL,p.1≠i)
  (hr:(execOp a.eval o).run Tryz.prog w=.ok (.value v) w') (hb:Bw w w') (hv:opG x i v w')
  (hK:HKt x E w0 o listed a w K i):Oper.wp Tryz.prog o a w K Q:=by
 refine jS hr (hK v w' ?_ (jo x hb) (mM x c.hB ?_ hi hb))
 ·rw[hd];exact hv
 ·rw[hd];simpa using hd'
theorem OpC.enter(c:OpC x E w0 ops i o listed a w){d:Nat}{f:FuncId}{args:Array Value}(hd:o.dst=some d)(hd':d≠1∧d≠2∧d≠3∧d≠7)(hi:i≠0∧∀p∈opL,p.1≠i)
  (hr:(execOp a.eval o).run Tryz.prog w=.ok (.enter f args) w) (hv:Calls Tryz.prog f args w fun e w'=>(∃v,e=.returned v∧opG x i v w')∧Bw w w')
  (hK:HKt x E w0 o listed a w K i):Oper.wp Tryz.prog o a w K Q:=by
 refine sj hr (hv.mono ?_);rintro e w' ⟨⟨v,rfl,hv⟩,hb⟩;refine⟨v,rfl,hK v w' ?_ (jo x hb) (mM x c.hB ?_ hi hb)⟩
 ·rw[hd];exact hv
 ·rw[hd];simpa using hd'
end
theorem gj{P:Program}{ρ:Operand→Value}{o:Oper}{y:Operand}{v:Value}{w:World}(h:o.op=.move y)(hv:ρ y=v):(execOp ρ o).run P w=.ok (.value v) w:=by
 unfold execOp;rw[h,←hv];rfl
theorem nO{P:Program}{ρ:Operand→Value}{o:Oper}{y:Operand}{v:Value}{w:World}(h:o.op=.assign y)(hv:ρ y=v):(execOp ρ o).run P w=.ok (.value v) w:=by
 unfold execOp;rw[h,←hv];rfl
theorem fs{P:Program}{ρ:Operand→Value}{o:Oper}{fn:Fn}{y:Operand}{v:Value}{w:World}(h:o.op=.makeFunc fn #[] #[y])(hv:ρ y=v):(execOp ρ o).run P w=.ok (.value (.func fn #[] #[v])) w:=by
 have hmf:∀(fn:Fn) (first cap:Array Value) (w:World),(Instr.makeFunc fn first cap).run P w=.ok (.func fn first cap) w:=fun _ _ _ _=>rfl
 obtain⟨dst,op,ty,pos,after,guard⟩:=o;simp only at h;subst h;subst hv;go_simp
theorem eF{ρ:Operand→Value}{o:Oper}{y:Operand}{M k:Nat}{w:World}(hk:k∈[1,2,13,14,19,20])(h:o.op=.fieldAddr 32 y k)(hv:ρ y=.pointer (some ⟨M,0,none⟩)):(execOp ρ o).run Tryz.prog w=.ok (.value (.pointer (some ⟨M,k,none⟩))) w:=by
 obtain⟨dst,op,ty,pos,after,guard⟩:=o;simp only at h;subst h;simp only[aY,aZ,or_false] at hk;rcases hk with rfl|rfl|rfl|rfl|rfl|rfl<;>go_simp
theorem ry{ρ:Operand→Value}{o:Oper}{y:Operand}{M k:Nat}{t:TypeId}{v:Value}{w:World}(ht:t=9∨t=28∨t=29∨t=3)(h:o.op=.load t y)(hv:ρ y=.pointer (some ⟨M,k,none⟩))(hc:w.cell? ⟨M,k,none⟩=some v):(execOp ρ o).run Tryz.prog w=.ok (.value v) w:=by
 obtain⟨dst,op,ty,pos,after,guard⟩:=o;simp only at h;subst h;rcases ht with rfl|rfl|rfl|rfl<;>go_simp
theorem db{P:Program}{ρ:Operand→Value}{o:Oper}{y z:Operand}{t:TypeId}{f:FuncId}{cap:Array Value}{v:Value}{w:World}(h:o.op=.call {callee:=.value y,args:=#[z],argTypes:=#[t]})(hf:ρ y=.func (.func f) #[] cap)(hv:ρ z=v)(hc:∀args:Array Value,(callFunc f args).run P w=.ok (.enter f args) w):(execOp ρ o).run P w=.ok (.enter f (#[v]++cap)) w:=by
 obtain⟨dst,op,ty,pos,after,guard⟩:=o;simp only at h;subst h;subst hv;go_simp
theorem cI(f:FuncId)(hf:f∈[49,82,83,75,9])(args:Array Value)(w:World):(callFunc f args).run Tryz.prog w=.ok (.enter f args) w:=by
 simp only[aY,aZ,or_false] at hf;rcases hf with rfl|rfl|rfl|rfl|rfl<;>go_simp
theorem fZ{ρ:Operand→Value}{o:Oper}{y z:Operand}{e1 e2:El}{a1 a2:Option Addr}{n1 n2 c1 c2:Nat}{w:World}(h:o.op=.buildSlice 38 2 #[(0,y),(1,z)])(hy:ρ y=.agg (elA e1 (.slice a1 n1 c1)))(hz:ρ z=.agg (elA e2 (.slice a2 n2 c2))):
  (execOp ρ o).run Tryz.prog w=.ok (.value (.slice (some ⟨w.heap.size,0,none⟩) 2 2)) (w.alloc (.cells #[.int .i64 e1.cls,.int .i64 e1.tag,.bool e1.cons,.string ⟨e1.bytes.toArray⟩,.slice a1 n1 c1,.int .i64 e2.cls,.int .i64 e2.tag,.bool e2.cons,.string ⟨e2.bytes.toArray⟩,.slice a2 n2 c2] 40)):=by
 obtain⟨dst,op,ty,pos,after,guard⟩:=o;simp only at h;subst h;simp only[elA] at hy hz;go_simp
theorem EN{P:Nat→Prop}{w:World}{g:Nat}{l:List El}{us:List Value}{cs:Array Value}{t:TypeId}{fr:Nat×Nat}(hb:w.heap[g]?=some (.cells cs t fr))(hcs:cs.toList=cx l us)(hl:us.length=l.length)
  (hk:∀(j:Nat) (e:El) (u:Value),l[j]?=some e→us[j]?=some u→bf P w u e.kids) (hP:P g):bf P w (.slice (some ⟨g,0,none⟩) l.length l.length) l:=by
 refine⟨_,_,rfl,ah _,fun _=>⟨g,0,rfl,hP,cE.of l g 0 fun j e hj=>?_⟩⟩;have hjl:j<l.length:=(List.getElem?_eq_some_iff.1 hj).1;obtain⟨u,hu⟩:∃u,us[j]?=some u:=⟨us[j]'(by omega),by simp[hl,hjl]⟩;obtain⟨q0,q1,q2,q3,q4⟩:=iZ l us j e u hj hu;have hc:∀i,w.cell? ⟨g,i,none⟩=(cx l us)[i]?:=fun i=>(aq hb i).trans (by rw[←hcs];simp)
 rw[Nat.zero_add];exact ElC.mk ((hc _).trans q0) ((hc _).trans q1) ((hc _).trans q2) ((hc _).trans q3) ((hc _).trans q4) (hk j e u hj hu)
theorem bf.empty{P:Nat→Prop}{w:World}{v:Value}(h:bf P w v []):∃a c,v=.slice a 0 c:=by
 obtain⟨a,c,rfl⟩:=h.shape;exact⟨a,c,rfl⟩
theorem bf.no(P:Nat→Prop)(w:World)(a:Option Addr)(c:Nat):bf P w (.slice a 0 c) []:=⟨a,c,rfl,Nat.zero_le _,fun h=>absurd rfl h⟩
theorem Am(b v:Nat)(A:Array Value)(dn secret:List UInt8)(w:World)(hb:Hc w b A 32)(hv:v≤127)(h2:A[2]?=some (.string ⟨dn.toArray⟩))(h3:A[3]?=some (.int .i64 (v:Int)))(h4:A[4]?=some (.bool false))(h5:A[5]?=some (.string ⟨secret.toArray⟩))(hd:dn.length≤1000000000)(hs:secret.length≤1000000000):
  Calls Tryz.prog 77 #[.pointer (some ⟨b,0,none⟩)] w fun e w'=>(∃u,e=.returned (.agg (elA (.mk 0 16 true [] [.mk 0 2 false [UInt8.ofNat v] [],.mk 0 4 false dn [],.mk 2 0 false secret []]) u))∧bf (fun g=>w.heap.size≤g) w' u [.mk 0 2 false [UInt8.ofNat v] [],.mk 0 4 false dn [],.mk 2 0 false secret []])∧Bw w w':=by
 obtain⟨PR,hPR⟩:∃PR:Ending→World→Prop,PR=fun e w'=>(∃u,e=.returned (.agg (elA (.mk 0 16 true [] [.mk 0 2 false [UInt8.ofNat v] [],.mk 0 4 false dn [],.mk 2 0 false secret []]) u))∧bf (fun g=>w.heap.size≤g) w' u [.mk 0 2 false [UInt8.ofNat v] [],.mk 0 4 false dn [],.mk 2 0 false secret []])∧Bw w w':=⟨_,rfl⟩
 rw[←hPR];obtain⟨HPR,G2,G3,G4,G5⟩:=Cj hPR h2 h3 h4 h5;clear hPR h2 h3 h4 h5;have hbl:=(gl hb);have b1:=alb w Ze 40;have t1:=alz w Ze 40;have m1:=(b1.block _ hbl).trans hb;clear hb
 go_enter Tryz.func77,Tryz.ntmps77
 go_upto_region 1 with fail
 generalize w.alloc (.cells Ze 40)=w1 at b1 t1 m1⊢;have q5:w1.cell? ⟨b,5,none⟩=some (.string ⟨secret.toArray⟩):=(aq m1 5).trans G5.out;have k1:=bz secret w1
 go_wp2_with fail
 refine ag k1 ?_;rintro e w2 ⟨rfl,hb2⟩;have m2:=bkk hb2 m1;have t2:=bkk hb2 t1;have b2:=btt b1 hb2;clear k1 hb2 q5 b1 t1 m1;have k2:=BY (.mk 0 4 false secret []) (Sn) 0 w2 (bf.nil _ _) (by simp[SmE,SmL];exact hs)
 go_wp2_with fail
 refine ag k2 ?_;rintro e w3 ⟨⟨u3,rfl,hu3⟩,hb3⟩;obtain⟨a3,c3,rfl⟩:=hu3.empty;have m3:=bkk hb3 m2;have t3:=bkk hb3 t2;have b3:=btt b2 hb3;clear k2 hb3 hu3 b2 t2 m2;simp only[elA,El.cls,El.tag,El.cons,El.bytes];have g4:=alb w3 #[.int .i64 2,I0,Bf,.string ⟨secret.toArray⟩,.slice a3 0 c3] 40;have x4:=alz w3 #[.int .i64 2,I0,Bf,.string ⟨secret.toArray⟩,.slice a3 0 c3] 40;have m4:=bkk g4 m3;have t4:=bkk g4 t3;have b4:=btt b3 g4;have hs3:=(gl t3);clear m3 t3 b3 g4
 go_upto_region 2 with fail
 generalize w3.alloc (.cells #[.int .i64 2,I0,Bf,.string ⟨secret.toArray⟩,.slice a3 0 c3] 40)=w4 at x4 m4 t4 b4⊢;have q4:w4.cell? ⟨b,4,none⟩=some (Bf):=(aq m4 4).trans G4.out
 go_upto_region 4 with fail
 clear q4;generalize w3.heap.size=x at x4 hs3⊢;refine aR (S:=fun w'=>Hc w' b A 32∧Hc w' x #[.int .i64 2,I0,Bf,.string ⟨secret.toArray⟩,.slice a3 0 c3] 40) (by kernel_rfl) ?_;have T:Hc w4.drew b A 32∧Hc w4.drew x #[.int .i64 2,I0,Bf,.string ⟨secret.toArray⟩,.slice a3 0 c3] 40:=⟨m4,x4⟩;have D:Bw w w4.drew:=b4.drew;have R:Hc w4.drew w.heap.size Ze 40:=t4
 change wpAnyH _ _ _ _ _ _ _ _ w4.drew
 clear m4 x4 t4 b4;generalize w4.drew=w5 at T D R⊢;refine tp 0 ⟨b,3,none⟩ rfl T ?_;refine tn 1 (.int .i64 (v:Int)) rfl (fun w' hS=>by have q:=(aq hS.1 3).trans G3.out;go_simp) T ?_;refine tp 3 ⟨b,2,none⟩ rfl T ?_;refine tn 4 (.string ⟨dn.toArray⟩) rfl (fun w' hS=>by have q:=(aq hS.1 2).trans G2.out;go_simp) T ?_;refine tn 6 (.agg #[.int .i64 2,I0,Bf,.string ⟨secret.toArray⟩,.slice a3 0 c3]) rfl (fun w' hS=>by exact cU 40 (.tmp 2) rfl x 40 _ (0,0) (by rfl) hS.2 _ Tryz.underlying40 rfl (by rfl)) T ?_;have kc:=ln 2 v hv w5;refine ao 2 rfl (fun K hK=>?_);go_simp;go_wp2_with fail
 refine ag kc ?_;rintro e w6 ⟨rfl,hbn⟩;have T9:Hc w6 b A 32∧Hc w6 x #[.int .i64 2,I0,Bf,.string ⟨secret.toArray⟩,.slice a3 0 c3] 40:=⟨(hbn.block _ (gl T.1)).trans T.1,(hbn.block _ (gl T.2)).trans T.2⟩;have R9:=bkk hbn R;have D9:=btt D hbn;clear kc hbn T R D;have T:=T9;have R:=R9;have D:=D9;clear T9 R9 D9;refine hK _ _ T ?_;clear hK K
 have kc:=bz dn w6;refine ao 5 rfl (fun K hK=>?_);go_simp;go_wp2_with fail
 refine ag kc ?_;rintro e w7 ⟨rfl,hbn⟩;have T9:Hc w7 b A 32∧Hc w7 x #[.int .i64 2,I0,Bf,.string ⟨secret.toArray⟩,.slice a3 0 c3] 40:=⟨(hbn.block _ (gl T.1)).trans T.1,(hbn.block _ (gl T.2)).trans T.2⟩;have R9:=bkk hbn R;have D9:=btt D hbn;clear kc hbn T R D;have T:=T9;have R:=R9;have D:=D9;clear T9 R9 D9;refine hK _ _ T ?_;clear hK K
 simp only[elA,El.cls,El.tag,El.cons,El.bytes];have g8:=alb w7 #[I0,.int .i64 2,Bf,.string ⟨[UInt8.ofNat v].toArray⟩,Sn,I0,.int .i64 4,Bf,.string ⟨dn.toArray⟩,Sn,.int .i64 2,I0,Bf,.string ⟨secret.toArray⟩,.slice a3 0 c3] 40;have y8:=alz w7 #[I0,.int .i64 2,Bf,.string ⟨[UInt8.ofNat v].toArray⟩,Sn,I0,.int .i64 4,Bf,.string ⟨dn.toArray⟩,Sn,.int .i64 2,I0,Bf,.string ⟨secret.toArray⟩,.slice a3 0 c3] 40;have T8:Hc (w7.alloc (.cells #[I0,.int .i64 2,Bf,.string ⟨[UInt8.ofNat v].toArray⟩,Sn,I0,.int .i64 4,Bf,.string ⟨dn.toArray⟩,Sn,.int .i64 2,I0,Bf,.string ⟨secret.toArray⟩,.slice a3 0 c3] 40)) b A 32∧Hc (w7.alloc (.cells #[I0,.int .i64 2,Bf,.string ⟨[UInt8.ofNat v].toArray⟩,Sn,I0,.int .i64 4,Bf,.string ⟨dn.toArray⟩,Sn,.int .i64 2,I0,Bf,.string ⟨secret.toArray⟩,.slice a3 0 c3] 40)) x #[.int .i64 2,I0,Bf,.string ⟨secret.toArray⟩,.slice a3 0 c3] 40:=⟨(g8.block _ (gl T.1)).trans T.1,(g8.block _ (gl T.2)).trans T.2⟩;have R8:=bkk g8 R;have D8:=btt D g8;clear T R D g8;refine ao 7 rfl (kks T8 ?_);generalize w7.alloc (.cells #[I0,.int .i64 2,Bf,.string ⟨[UInt8.ofNat v].toArray⟩,Sn,I0,.int .i64 4,Bf,.string ⟨dn.toArray⟩,Sn,.int .i64 2,I0,Bf,.string ⟨secret.toArray⟩,.slice a3 0 c3] 40)=w8 at y8 T8 R8 D8⊢;have hk8:bf (fun _=>True) w8 (.slice (some ⟨w7.heap.size,0,none⟩) 3 3) [.mk 0 2 false [UInt8.ofNat v] [],.mk 0 4 false dn [],.mk 2 0 false secret []]:=
  EN (P:=fun _=>True) (l:=[.mk 0 2 false [UInt8.ofNat v] [],.mk 0 4 false dn [],.mk 2 0 false secret []]) (us:=[Sn,Sn,.slice a3 0 c3]) y8 rfl rfl (fun j e u hj hu=>by
   have h3:j=0∨j=1∨j=2:=by have h9:=(List.getElem?_eq_some_iff.1 hj).1;simp at h9;omega
   rcases h3 with rfl|rfl|rfl
   all_goals (simp at hj hu;subst hj;subst hu;exact bf.no _ _ _ _)) trivial
 have kc:=cH [.mk 0 2 false [UInt8.ofNat v] [],.mk 0 4 false dn [],.mk 2 0 false secret []] _ w8 hk8 (by simp[SmL,SmE];exact⟨hd,hs⟩) (by simp);refine ao 8 rfl (fun K hK=>?_);go_simp;go_wp2_with fail
 refine ag kc ?_;rintro e w9 ⟨⟨u9,rfl,hu9⟩,hb9⟩;have T9:Hc w9 b A 32∧Hc w9 x #[.int .i64 2,I0,Bf,.string ⟨secret.toArray⟩,.slice a3 0 c3] 40:=⟨(hb9.block _ (gl T8.1)).trans T8.1,(hb9.block _ (gl T8.2)).trans T8.2⟩;have R9:=bkk hb9 R8;have D9:=btt D8 hb9;have hs8:=(gl R8);clear kc hb9 T8 R8 D8 y8 hk8;refine hK _ _ T9 ?_;clear hK K
 obtain⟨E,hE⟩:=nmm (elA (.mk 0 16 true [] [.mk 0 2 false [UInt8.ofNat v] [],.mk 0 4 false dn [],.mk 2 0 false secret []]) u9);have hE1:E.all (·.oneCell')=true:=by
  obtain⟨a,c,hsl⟩:=hu9.shape;subst hsl;rw[←hE];simp[elA,Value.oneCell']
 have hE2:E.size=5:=by rw[←hE];rfl
 rw[hE];obtain⟨HE,HE1,HE2⟩:=Ch hE hE1 hE2;clear hE hE1 hE2;have hwb:b≠w.heap.size:=by omega
 have hwx:x≠w.heap.size:=by omega
 have TF:Hc (w9.setRow w.heap.size E) b A 32∧Hc (w9.setRow w.heap.size E) x #[.int .i64 2,I0,Bf,.string ⟨secret.toArray⟩,.slice a3 0 c3] 40:=⟨(setRow_other w9 w.heap.size b E hwb).trans T9.1,(setRow_other w9 w.heap.size x E hwx).trans T9.2⟩;have bF:=xo D9 (g:=w.heap.size) (ah _) E;have tF:=setRow_heap w9 w.heap.size _ E _ _ R9;have hwl:w.heap.size<w8.heap.size:=by omega
 have uF:bf (fun g=>w.heap.size≤g) (w9.setRow w.heap.size E) u9 [.mk 0 2 false [UInt8.ofNat v] [],.mk 0 4 false dn [],.mk 2 0 false secret []]:=hu9.kept fun g hg hl=>⟨setRow_other w9 w.heap.size g E (by omega),by omega⟩
 refine ao 9 rfl (fun K hK=>?_);refine xx 40 (.tmp 1) (.tmp 23) rfl w.heap.size 40 _ E (by rfl) (by rfl) R9 (by rw[HE2.out];rfl) (by rw[HE2.out];rfl) HE1.out ?_;refine hK _ _ TF ?_;clear hK K
 refine xk (by kernel_rfl) ?_ _;simp only[Exit.then];refine‹∀(a:Act) (w:World),Code.wp _ _ _ a w→_› _ _ ?_;clear T9 R9 D9 TF hu9;generalize w9.setRow w.heap.size E=wF at bF tF uF⊢;have UF:=hid uF;clear uF;go_simp
 go_wp2_with fail
 refine aH (v:=.agg E) ?_ rfl (by rw[HPR.out];exact⟨⟨u9,by rw[HE.out],UF.out⟩,bF⟩);have hr:=rlE tF HE2.out
 simp[results,Tryz.f77]
 exact hr
end Go.Proofs.YtfhghdcbofbceaaGreatDoor
