/- BerK, MsN, MsO, ElA, ElB, Tab, MsP. -/
import Derived.Deep.Cut
import Derived.MapKept
import Derived.Test.YthjaiigijbjloaaGreatDoorW3
namespace Go.Proofs.YthjaiigijbjloaaGreatDoor
open Go.RowKit Go.Lib
set_option maxRecDepth 100000
set_option maxHeartbeats 16000000
structure BelR (R B:Nat) (w w':World):Prop where
 os:w'.os=w.os
 tape:w'.tape=w.tape
 output:w'.output=w.output
 size:w.heap.size≤w'.heap.size
 block:∀j,j<B→j≠R→w'.heap[j]?=w.heap[j]?
theorem BelR.of_below{R B:Nat}{w w':World}(h:Below B w w'):BelR R B w w':=⟨h.os,h.tape,h.output,h.size,fun j hj _=>h.block j hj⟩
theorem BelR.trans{R B:Nat}{a b c:World}(h:BelR R B a b)(k:BelR R B b c):BelR R B a c:=
 ⟨k.os.trans h.os,k.tape.trans h.tape,k.output.trans h.output,Nat.le_trans h.size k.size,fun j hj hne=>(k.block j hj hne).trans (h.block j hj hne)⟩
theorem BelR.mono{R B B':Nat}{w w':World}(h:BelR R B w w')(hB:B'≤B):BelR R B' w w':=⟨h.os,h.tape,h.output,h.size,fun j hj hne=>h.block j (by omega) hne⟩
theorem BelR.below{R B:Nat}{w w':World}(h:BelR R B w w')(hB:B≤R):Below B w w':=⟨h.os,h.tape,h.output,h.size,fun j hj=>h.block j hj (by omega)⟩
theorem BelR.set{R B:Nat}{w w':World}(h:BelR R B w w')(i:Nat)(v:Value):BelR R B w (w'.setCell ⟨R,i,none⟩ v):=
 ⟨h.os,h.tape,h.output,by simpa using h.size,fun j hj hne=>(aX w' ⟨R,i,none⟩ v j hne).trans (h.block j hj hne)⟩
theorem xu(w:World):Calls Tryz.prog 136 #[.bool true] w fun e w'=>e=.returned (.tuple #[])∧w'=w:=by
 go_enter Tryz.func136,Tryz.ntmps136
 go_wp2_with fail
 go_end0
 exact⟨rfl,rfl⟩
theorem BB(el:El)(u:Value)(cl t:Int)(w:World)(h:bf (fun _=>True) w u el.kids)(hi:isE el cl t false=true):
  Cr 137 #[.agg (elA el u),.int .i64 cl,.int .i64 t] w (.string ⟨el.bytes.toArray⟩):=by
 obtain⟨a,c,hf⟩:=h.shape;subst hf;have b1:=alb w (Er el a c) 45;have r1:=alz w (Er el a c) 45;have k:=pg el _ cl t _ (h.below b1);rw[hi] at k;simp only[if_true] at k;unfold elA at k⊢;clear h hi
 go_enter Tryz.func137,Tryz.ntmps137
 refine wp_seq ?_;refine aQ ?_;refine aB rfl (kkn ?_);generalize w.alloc (.cells (Er el a c) 45)=w1 at b1 r1 k⊢
 go_wp2_with (refine bg rfl 45 (.tmp 3) rfl w.heap.size 45 _ (0,0) (by rfl) r1 _ Tryz.underlying45 rfl (by rfl) ?_)
 refine ag k ?_;rintro e w2 ⟨rfl,hb2⟩;have b2:=btt b1 hb2;have kw:=xu w2;clear k r1 hb2 b1
 go_wp2_with fail
 refine ag kw ?_;rintro e w3 ⟨rfl,rfl⟩
 go_wp2_with fail
 go_ret
 exact⟨rfl,b2⟩
theorem BC(el:El)(u:Value)(cl t:Int)(w:World)(h:bf (fun _=>True) w u el.kids)(hs:SmE el)(hi:isE el cl t true=true):
  Calls Tryz.prog 99 #[.agg (elA el u),.int .i64 cl,.int .i64 t] w fun e w'=>(∃b v,e=.returned (.pointer (some ⟨b,0,none⟩))∧w.heap.size≤b∧w'.heap[b]?=some (.cells #[v] 129 (0,0))∧bf (fun g=>w.heap.size≤g∧g≠b) w' v el.kids)∧Below w.heap.size w w':=by
 obtain⟨a,c,hf⟩:=h.shape;subst hf;have b1:=alb w (Er el a c) 45;have r1:=alz w (Er el a c) 45;have k:=nH el _ cl t _ (h.below b1) hs;rw[hi] at k;simp only[if_true] at k;unfold elA at k⊢;clear h hi
 go_enter Tryz.func99,Tryz.ntmps99
 refine wp_seq ?_;refine aQ ?_;refine aB rfl (kkn ?_);generalize w.alloc (.cells (Er el a c) 45)=w1 at b1 r1 k⊢
 go_wp2_with (refine bg rfl 45 (.tmp 3) rfl w.heap.size 45 _ (0,0) (by rfl) r1 _ Tryz.underlying45 rfl (by rfl) ?_)
 refine ag k ?_;rintro e w2 ⟨⟨v,rfl,hv⟩,hb2⟩;obtain⟨a2,c2,hf2⟩:=hv.shape;subst hf2;have hs1:=b1.size;have b2:=btt b1 hb2;have kw:=xu w2;clear k r1 hb2 b1
 go_wp2_with fail
 refine ag kw ?_;rintro e w3 ⟨rfl,hw⟩;have hw':=hw.symm;subst hw';clear hw;have m3:=alb w2 #[.slice a2 el.kids.length c2] 129;have r3:=alz w2 #[.slice a2 el.kids.length c2] 129;have v3:bf (fun g=>w.heap.size≤g∧g≠w2.heap.size) (w2.alloc (.cells #[.slice a2 el.kids.length c2] 129)) (.slice a2 el.kids.length c2) el.kids:=hv.kept fun g hg hl=>⟨m3.block g hl,by omega,by omega⟩
 have b3:=btt b2 m3;have hs2:=b2.size;have HV:=hid v3;clear hv v3 kw m3
 go_wp2_with fail
 go_ret
 exact⟨⟨_,_,rfl,hs2,r3,HV.out⟩,b3⟩
theorem zQ(P:Nat→Prop)(b:Nat)(v:Value)(e:El)(r:List El)(w:World)(hb:w.heap[b]?=some (.cells #[v] 129 (0,0)))(hk:bf P w v (e::r))(hP:∀g,P g→g≠b)(hr:r.length≤1000000):
  Calls Tryz.prog 102 #[.pointer (some ⟨b,0,none⟩)] w fun x w'=>(∃u v',x=.returned (.agg (elA e u))∧bf P w' u e.kids∧w'.heap[b]?=some (.cells #[v'] 129 (0,0))∧bf P w' v' r)∧BelR b w.heap.size w w':=by
 have HKK:=hid hk;obtain⟨a,cap,rfl,hc,hk1⟩:=hk;obtain⟨g,o,rfl,hp,hs⟩:=hk1 (by simp);simp only[cE] at hs;obtain⟨p0,p1,p2,p3,u,p4,hu⟩:=hs.1.cells;have HS:=hid hs.2;obtain⟨au,cu,hfu⟩:=hu.shape;subst hfu;have hblt:=(gl hb);have hglt:=bj p0;have hgb:=hP g hp;simp only[aG] at hc;obtain⟨HB,HU,HP⟩:=Ch hb hu hP;have qb:w.cell? ⟨b,0,none⟩=some (.slice (some ⟨g,o,none⟩) (r.length+1) cap):=(ap hb 0).trans (by simp);have zb:=aj hb 0;have kw:=xu (w.alloc (.cells Ze 45));have i1:decide ((0:Int)<(r.length:Int)+1)=true:=aL (by omega);have fin:∀v',bf P w v' r→(bf P (((w.setCell ⟨b,0,none⟩ v').alloc (.cells (Er e au cu) 45)).alloc (.cells (Er e au cu) 45)) (.slice au e.kids.length cu) e.kids∧
   (((w.setCell ⟨b,0,none⟩ v').alloc (.cells (Er e au cu) 45)).alloc (.cells (Er e au cu) 45)).heap[b]?=some (.cells #[v'] 129 (0,0))∧bf P (((w.setCell ⟨b,0,none⟩ v').alloc (.cells (Er e au cu) 45)).alloc (.cells (Er e au cu) 45)) v' r∧
   BelR b w.heap.size w (((w.setCell ⟨b,0,none⟩ v').alloc (.cells (Er e au cu) 45)).alloc (.cells (Er e au cu) 45))∧(((w.setCell ⟨b,0,none⟩ v').alloc (.cells (Er e au cu) 45)).alloc (.cells (Er e au cu) 45)).heap[w.heap.size]?=some (.cells (Er e au cu) 45 (0,0))):=by
  intro v' hv';have hsz:(w.setCell ⟨b,0,none⟩ v').heap.size=w.heap.size:=by simp[World.setCell]
  have m:Below w.heap.size (w.setCell ⟨b,0,none⟩ v') (((w.setCell ⟨b,0,none⟩ v').alloc (.cells (Er e au cu) 45)).alloc (.cells (Er e au cu) 45)):=((ar _ _).alloc (Nat.le_of_eq hsz.symm) _).alloc (by simp[hsz]) _;have hkept:∀g',P g'→g'<w.heap.size→(((w.setCell ⟨b,0,none⟩ v').alloc (.cells (Er e au cu) 45)).alloc (.cells (Er e au cu) 45)).heap[g']?=w.heap[g']?∧P g':=fun g' hg' hl=>⟨(m.block g' hl).trans (aX w ⟨b,0,none⟩ v' g' (HP.out g' hg')),hg'⟩
  exact⟨HU.out.kept hkept,(m.block b hblt).trans (bw (i:=0) (u:=v') HB.out),hv'.kept hkept,((BelR.of_below (ar _ _)).set 0 v').trans (BelR.of_below m),
   (alloc_old _ _ _ (by simp[hsz])).trans (bi _ _ _ hsz.symm)⟩
 have FIN:=hid fin;clear hs hk1 hu hb hP fin
 by_cases hcap:cap=1
 ·subst hcap
  obtain rfl:r=[]:=List.length_eq_zero_iff.1 (by omega);obtain⟨f1,f2,f3,f4,f5⟩:=FIN.out (.slice (some ⟨g,o,none⟩) 0 0) ⟨_,_,rfl,ah _,fun h=>absurd rfl h⟩;obtain⟨G1,G2,G3,G4,G5⟩:=Cj f1 f2 f3 f4 f5;clear f1 f2 f3 f4 f5 FIN
  go_enter Tryz.func102,Tryz.ntmps102
  go_wp2_with fail
  refine ag kw ?_;rintro x w1 ⟨rfl,rfl⟩
  go_wp2_with fail
  refine aH (v:=.agg (Er e au cu)) ?_ rfl ⟨⟨_,_,rfl,G1.out,G2.out,G3.out⟩,G4.out⟩;have hr:=aJ (P:=Tryz.prog) _ w.heap.size 45 45 (Er e au cu) (0,0) _ G5.out (show Tryz.prog.underlying 45=_ from Tryz.underlying45) (by rfl) (by rfl)
  simp[results,Tryz.f102]
  exact hr
 ·have hc1:¬(cap≤1):=by omega
  have hc2:1≤cap:=by omega
  obtain⟨f1,f2,f3,f4,f5⟩:=FIN.out (.slice (some ⟨g,o+5,none⟩) r.length (cap -1)) ⟨_,_,rfl,by omega,fun _=>⟨g,o+5,rfl,hp,HS.out⟩⟩;obtain⟨G1,G2,G3,G4,G5⟩:=Cj f1 f2 f3 f4 f5;clear f1 f2 f3 f4 f5 FIN
  go_enter Tryz.func102,Tryz.ntmps102
  go_wp2_with fail
  refine ag kw ?_;rintro x w1 ⟨rfl,rfl⟩
  go_wp2_with fail
  refine aH (v:=.agg (Er e au cu)) ?_ rfl ⟨⟨_,_,rfl,G1.out,G2.out,G3.out⟩,G4.out⟩;have hr:=aJ (P:=Tryz.prog) _ w.heap.size 45 45 (Er e au cu) (0,0) _ G5.out (show Tryz.prog.underlying 45=_ from Tryz.underlying45) (by rfl) (by rfl)
  simp[results,Tryz.f102]
  exact hr
theorem BN(P:Nat→Prop)(b:Nat)(v:Value)(t:Int)(n:Nat)(hn:n≤127)(r:List El)(w:World)(hb:w.heap[b]?=some (.cells #[v] 129 (0,0)))(hk:bf P w v (.mk 0 t false [UInt8.ofNat n] []::r))(hP:∀g,P g→g≠b)(hr:r.length≤1000000):
  Calls Tryz.prog 100 #[.pointer (some ⟨b,0,none⟩),.int .i64 t] w fun x w'=>(∃v',x=.returned (.int .i64 (n:Int))∧w'.heap[b]?=some (.cells #[v'] 129 (0,0))∧bf P w' v' r)∧BelR b w.heap.size w w':=by
 have kn:=zQ P b v _ r w hb hk hP hr;clear hk hP hr
 go_enter Tryz.func100,Tryz.ntmps100
 go_wp2_with fail
 refine ag kn ?_;rintro x w1 ⟨⟨u,v',rfl,hu,hb1,hk1⟩,hbe⟩;obtain⟨a,c,hf⟩:=hu.shape;subst hf;have hnil:(a,c)=(a,c):=rfl;simp only[El.kids,aU];have kg:=AL 0 t n hn a c w1;have kw:=fun w=>xu w
 clear kn hb hnil
 go_wp2_with fail
 refine ag kg ?_;rintro x w2 ⟨rfl,hb2⟩;have hb3:=bkk hb2 hb1;have hk3:=hk1.below hb2;have hbe3:=hbe.trans (BelR.of_below (R:=b) (hb2.mono hbe.size));have kw2:=kw w2;have HK:=hid hk3;clear kg hb1 hk1 hbe hb2 hu kw hk3
 go_wp2_with fail
 refine ag kw2 ?_;rintro x w3 ⟨rfl,rfl⟩
 go_wp2_with fail
 go_ret
 exact⟨⟨v',rfl,hb3,HK.out⟩,hbe3⟩
theorem BD(P:Nat→Prop)(b:Nat)(v:Value)(cl t:Int)(w:World)(hb:w.heap[b]?=some (.cells #[v] 129 (0,0)))(hk:bf P w v []):
  Calls Tryz.prog 103 #[.pointer (some ⟨b,0,none⟩),.int .i64 cl,.int .i64 t] w fun x w'=>x=.returned (Bf)∧∃m,w'=w.drewN m:=by
 obtain⟨a,c,hf⟩:=hk.shape;subst hf;simp only[aU] at hb;have qb:w.cell? ⟨b,0,none⟩=some (.slice a 0 c):=(ap hb 0).trans (by simp)
 go_enter Tryz.func103,Tryz.ntmps103
 go_wp2_with fail
 go_ret
 exact⟨rfl,0,rfl⟩
theorem Bj(P:Nat→Prop)(b:Nat)(v:Value)(w:World)(hb:w.heap[b]?=some (.cells #[v] 129 (0,0)))(hk:bf P w v []):
  Calls Tryz.prog 105 #[.pointer (some ⟨b,0,none⟩)] w fun x w'=>x=.returned (.tuple #[])∧∃m,w'=w.drewN m:=by
 obtain⟨a,c,hf⟩:=hk.shape;subst hf;simp only[aU] at hb;have qb:w.cell? ⟨b,0,none⟩=some (.slice a 0 c):=(ap hb 0).trans (by simp);have kw:=xu w
 go_enter Tryz.func105,Tryz.ntmps105
 go_wp2_with fail
 refine ag kw ?_;rintro x w3 ⟨rfl,rfl⟩
 go_wp2_with fail
 go_end0
 exact⟨rfl,0,rfl⟩
def Hk(w w':World):Prop:=(∀(g:Nat) (cs:Array Value) (t:TypeId) (fr:Nat×Nat),w.heap[g]?=some (.cells cs t fr)→w'.heap[g]?=some (.cells cs t fr))∧∀(g i:Nat) (x:Value),w.cell? ⟨g,i,none⟩=some x→w'.cell? ⟨g,i,none⟩=some x
theorem Hk.refl(w:World):Hk w w:=⟨fun _ _ _ _ h=>h,fun _ _ _ h=>h⟩
theorem Hk.trans{a b c:World}(h:Hk a b)(k:Hk b c):Hk a c:=⟨fun _ _ _ _ q=>k.1 _ _ _ _ (h.1 _ _ _ _ q),fun _ _ _ q=>k.2 _ _ _ (h.2 _ _ _ q)⟩
theorem Hk.below{w w':World}(h:Below w.heap.size w w'):Hk w w':=⟨fun g _ _ _ q=>(h.block g (gl q)).trans q,fun _ _ _ q=>(h.cell (bj q)).trans q⟩
theorem Hk.map{w w':World}{r:Nat}{es:Array MapEntry}{c:Nat}(hr:w.heap[r]?=some (.map es c))(h:∀j,j≠r→w'.heap[j]?=w.heap[j]?):Hk w w':=by
 refine⟨fun g cs t fr q=>?_,fun g i x q=>?_⟩
 ·by_cases hg:g=r
  ·subst hg;rw[hr] at q;cases q
  ·exact(h g hg).trans q
 ·by_cases hg:g=r
  ·subst hg;simp[World.cell?,hr] at q
  ·exact(fE (h g hg)).trans q
mutual
theorem ElC.hk{P:Nat→Prop}{w w':World}(h:Hk w w'):∀(e:El) (g o:Nat),ElC P w e g o→ElC P w' e g o
 | .mk c t k b ks,g,o,q=>by
  simp only[ElC] at q⊢;obtain⟨h0,h1,h2,h3,u,h4,a,cap,hu,hc,hk⟩:=q;refine⟨h.2 _ _ _ h0,h.2 _ _ _ h1,h.2 _ _ _ h2,h.2 _ _ _ h3,u,h.2 _ _ _ h4,a,cap,hu,hc,fun hn=>?_⟩;obtain⟨g',o',ha,hp,hs⟩:=hk hn;exact⟨g',o',ha,hp,cE.hk h ks g' o' hs⟩
theorem cE.hk{P:Nat→Prop}{w w':World}(h:Hk w w'):∀(l:List El) (g o:Nat),cE P w l g o→cE P w' l g o
 |[],_,_,_=>by simp only[cE]
 |e::r,g,o,q=>by
  simp only[cE] at q⊢;exact⟨ElC.hk h e g o q.1,cE.hk h r g (o+5) q.2⟩
end
theorem bf.hk{P:Nat→Prop}{w w':World}{v:Value}{ks:List El}(q:bf P w v ks)(h:Hk w w'):bf P w' v ks:=by
 obtain⟨a,cap,hv,hc,hk⟩:=q;refine⟨a,cap,hv,hc,fun hn=>?_⟩;obtain⟨g,o,ha,hp,hs⟩:=hk hn;exact⟨g,o,ha,hp,cE.hk h ks g o hs⟩
/-! A region in every order: by what holds behind each of its operations. -/
def gJ(listed:Array Bool):Nat:=(listed.toList.filter (!·)).length
theorem kA:∀(l:List Bool) (i:Nat),l[i]?=some false→((l.set i true).filter (!·)).length+1=(l.filter (!·)).length
 |[],i,h=>by simp at h
 |b::l,0,h=>by
  simp at h
  subst h
  simp
 |b::l,i+1,h=>by
  have ih:=kA l i (by simpa using h);cases b<;>simp at ih⊢<;>omega
theorem my{listed:Array Bool}{i:Nat}(h:listed.getD i true=false):gJ (listed.setIfInBounds i true)+1=gJ listed:=by
 unfold gJ;have h1:listed.toList[i]?=some false:=by
  rcases Nat.lt_or_ge i listed.size with h'|h'
  ·simp[h'] at h⊢;exact h
  ·simp[Array.getElem?_eq_none h'] at h
 rw[Array.toList_setIfInBounds];exact kA _ _ h1
theorem kB{md:Region.Mode}{ops:Array Oper}(hdown:∀(i:Nat) (o:Oper),ops[i]?=some o→∀e∈o.after,Region.binds md e=true→e.on<i){listed:Array Bool}(hsz:listed.size=ops.size)(hr:Region.ready md ops listed=[]):
  ∀i,i<ops.size→listed.getD i false=true:=by
 intro i
 induction i using Nat.strongRecOn with
 |_ i ih=>
  intro hi;cases hx:listed.getD i false with
  |true=>rfl
  |false=>
   exfalso
   have ho:ops[i]?=some ops[i]:=by simp[hi]
   have hm:i∈Region.ready md ops listed:=mem_ready.2 ⟨by
    have:i<listed.size:=by omega
    simp[this] at hx⊢;exact hx,ops[i],ho,fun e he hb=>ih e.on (hdown i _ ho e he hb) (by have:=hdown i _ ho e he hb;omega)⟩
   rw[hr] at hm;cases hm
theorem qD{P:Program}{md:Region.Mode}{ops:Array Oper}{Q:Exit→Act→World→Prop}(I:Array Bool→Act→World→Prop)
  (hdown:∀(i:Nat) (o:Oper),ops[i]?=some o→∀e∈o.after,Region.binds md e=true→e.on<i)
  (hdone:∀(listed:Array Bool) (a:Act) (w:World),(∀i,i<ops.size→listed.getD i false=true)→I listed a w→Q .normal a w)
  (hstep:∀(i:Nat) (o:Oper) (listed:Array Bool) (a:Act) (w:World),ops[i]?=some o→listed.getD i true=false→listed.size=ops.size→(∀e∈o.after,Region.binds md e=true→listed.getD e.on false=true)→I listed a w→
   wpOp P ops Q i (I (listed.setIfInBounds i true)) a w):
  ∀(fuel:Nat) (listed:Array Bool) (a:Act) (w:World),listed.size=ops.size→gJ listed≤fuel→I listed a w→wpAny P md ops Q fuel listed a w:=by
 intro fuel
 induction fuel with
 |zero=>
  intro listed a w hsz hf hI;have hr:Region.ready md ops listed=[]:=by
   cases hx:Region.ready md ops listed with
   |nil=>rfl
   |cons j js=>
    have hj:j∈Region.ready md ops listed:=by rw[hx];exact List.mem_cons_self
    have:=my (mem_ready.1 hj).1
    omega
  exact⟨hr,hdone _ _ _ (kB hdown hsz hr) hI⟩
 |succ fuel ih=>
  intro listed a w hsz hf hI;refine⟨fun hr=>hdone _ _ _ (kB hdown hsz hr) hI,fun i hi=>?_⟩;obtain⟨hn,o,ho,hall⟩:=mem_ready.1 hi;have h1:=my hn;exact wpOp_mono (fun a' w' h=>ih _ a' w' (by simpa using hsz) (by omega) h) (hstep i o listed a w ho hn hsz hall hI)
theorem BE{P:Program}{ops:Array Oper}{Q:Exit→Act→World→Prop}{K:Act→World→Prop}{i:Nat}{o:Oper}{a:Act}{w:World}(ho:ops[i]?=some o)(hw:Region.wanted o (yielded ops a.tmps)=true)
  (h:∀K':Act→World→Prop,(∀a w,K a w→K' a w)→Oper.wp P o a w K' Q):wpOp P ops Q i K a w:=by
 unfold wpOp;rw[ho];simp only[hw,if_true];exact .inl (h _ (fun _ _ k=>k))
/-! message.op's closures over a row of elements. -/
theorem gK(v:Value)(w:World)(hv:∃a n c,v=.slice a n c):
  Calls Tryz.prog 114 #[v] w fun e w'=>(∃b,e=.returned (.func (.func 115) #[] #[.pointer (some ⟨b,0,none⟩)])∧w'.cell? ⟨b,0,none⟩=some v)∧Below w.heap.size w w':=by
 have hmf:∀(fn:Fn) (first cap:Array Value) (w:World),(Instr.makeFunc fn first cap).run Tryz.prog w=.ok (.func fn first cap) w:=fun _ _ _ _=>rfl
 obtain⟨a,n,c,rfl⟩:=hv;have b1:=alb w #[.slice a n c] 43;have c1:(w.alloc (.cells #[.slice a n c] 43)).cell? ⟨w.heap.size,0,none⟩=some (.slice a n c):=(ap (bi w (.cells #[.slice a n c] 43) w.heap.size rfl) 0).trans rfl;have C1:=hid c1;clear c1
 go_enter Tryz.func114,Tryz.ntmps114
 go_wp2_with fail
 go_ret
 exact⟨⟨_,rfl,C1.out⟩,b1⟩
theorem gh(b:Nat)(v:Value)(l:List El)(w:World)(hc:w.cell? ⟨b,0,none⟩=some v)(h:bf (fun _=>True) w v l)(hs:SmL l)(hl:l.length≤1000000000):
  Calls Tryz.prog 115 #[.pointer (some ⟨b,0,none⟩)] w fun e w'=>(∃u,e=.returned (.agg (elA (.mk 0 16 true [] l) u))∧bf (fun g=>w.heap.size≤g) w' u l)∧Below w.heap.size w w':=by
 have b1:=alb w Ze 45;have t1:=alz w Ze 45;have c1:=(b1.cell (bj hc)).trans hc;have ks:=cH l v (w.alloc (.cells Ze 45)) (h.below b1) hs hl;clear hc h hs hl
 go_enter Tryz.func115,Tryz.ntmps115
 go_wp2_with fail
 generalize w.alloc (.cells Ze 45)=w1 at b1 t1 c1 ks⊢;refine ag ks ?_;rintro e w2 ⟨⟨u,rfl,hu⟩,hb2⟩;have t2:=bkk hb2 t1;have b2:=btt b1 hb2;have hs1:=b1.size;obtain⟨E,hE⟩:=nmm (elA (.mk 0 16 true [] l) u);have hE1:E.all (·.oneCell')=true:=by
  obtain⟨a,c,hsl⟩:=hu.shape;subst hsl;rw[←hE];simp[elA,Value.oneCell']
 have hE2:E.size=5:=by rw[←hE];rfl
 rw[hE];have b3:=bm b2 (g:=w.heap.size) (ah _) E;have t3:=setRow_heap w2 w.heap.size _ E _ _ t2;have htl:=(gl t1);have u3:bf (fun g=>w.heap.size≤g) (w2.setRow w.heap.size E) u l:=hu.kept fun g hg hl=>⟨setRow_other w2 w.heap.size g E (by omega),by omega⟩
 obtain⟨HE,HE1,HE2,U3⟩:=Ci hE hE1 hE2 u3;clear ks c1 t1 b1 hb2 hu hE hE1 hE2 u3
 go_wp2_with (refine bh rfl 45 (.tmp 1) (.tmp 3) rfl w.heap.size 45 _ E (by rfl) (by rfl) t2 (by rw[HE2.out];rfl) (by rw[HE2.out];rfl) HE1.out ?_)
 refine aH (v:=.agg E) ?_ rfl ⟨⟨u,by rw[HE.out],U3.out⟩,b3⟩;have hr:=aJ (P:=Tryz.prog) (w2.setRow w.heap.size E) w.heap.size 45 45 E (0,0) _ t3 (show Tryz.prog.underlying 45=_ from Tryz.underlying45) (by rfl) (by rw[HE2.out];rfl)
 simp[results,Tryz.f115]
 exact hr
theorem ic{P:Nat→Prop}{w:World}{g:Nat}{l:List El}{us:List Value}{cs:Array Value}{t:TypeId}{fr:Nat×Nat}(hb:w.heap[g]?=some (.cells cs t fr))(hcs:cs.toList=cx l us)(hl:us.length=l.length)
  (hk:∀(j:Nat) (e:El) (u:Value),l[j]?=some e→us[j]?=some u→bf P w u e.kids) (hP:P g):bf P w (.slice (some ⟨g,0,none⟩) l.length l.length) l:=by
 refine⟨_,_,rfl,ah _,fun _=>⟨g,0,rfl,hP,cE.of l g 0 fun j e hj=>?_⟩⟩;have hjl:j<l.length:=(List.getElem?_eq_some_iff.1 hj).1;obtain⟨u,hu⟩:∃u,us[j]?=some u:=⟨us[j]'(by omega),by simp[hl,hjl]⟩;obtain⟨q0,q1,q2,q3,q4⟩:=iZ l us j e u hj hu;have hc:∀i,w.cell? ⟨g,i,none⟩=(cx l us)[i]?:=fun i=>(ap hb i).trans (by rw[←hcs];simp)
 rw[Nat.zero_add];exact ElC.mk ((hc _).trans q0) ((hc _).trans q1) ((hc _).trans q2) ((hc _).trans q3) ((hc _).trans q4) (hk j e u hj hu)
theorem bf.empty{P:Nat→Prop}{w:World}{v:Value}(h:bf P w v []):∃a c,v=.slice a 0 c:=by
 obtain⟨a,c,rfl⟩:=h.shape;exact⟨a,c,rfl⟩
theorem bf.no(P:Nat→Prop)(w:World)(a:Option Addr)(c:Nat):bf P w (.slice a 0 c) []:=⟨a,c,rfl,Nat.zero_le _,fun h=>absurd rfl h⟩
theorem Am(b v:Nat)(A:Array Value)(dn secret:List UInt8)(w:World)(hb:w.heap[b]?=some (.cells A 28 (0,0)))(hv:v≤127)(h2:A[2]?=some (.string ⟨dn.toArray⟩))(h3:A[3]?=some (.int .i64 (v:Int)))(h4:A[4]?=some (.bool false))(h5:A[5]?=some (.string ⟨secret.toArray⟩))(hd:dn.length≤1000000000)(hs:secret.length≤1000000000):
  Calls Tryz.prog 116 #[.pointer (some ⟨b,0,none⟩)] w fun e w'=>(∃u,e=.returned (.agg (elA (.mk 0 16 true [] [.mk 0 2 false [UInt8.ofNat v] [],.mk 0 4 false dn [],.mk 2 0 false secret []]) u))∧bf (fun g=>w.heap.size≤g) w' u [.mk 0 2 false [UInt8.ofNat v] [],.mk 0 4 false dn [],.mk 2 0 false secret []])∧Below w.heap.size w w':=by
 obtain⟨PR,hPR⟩:∃PR:Ending→World→Prop,PR=fun e w'=>(∃u,e=.returned (.agg (elA (.mk 0 16 true [] [.mk 0 2 false [UInt8.ofNat v] [],.mk 0 4 false dn [],.mk 2 0 false secret []]) u))∧bf (fun g=>w.heap.size≤g) w' u [.mk 0 2 false [UInt8.ofNat v] [],.mk 0 4 false dn [],.mk 2 0 false secret []])∧Below w.heap.size w w':=⟨_,rfl⟩
 rw[←hPR];obtain⟨HPR,G2,G3,G4,G5⟩:=Cj hPR h2 h3 h4 h5;clear hPR h2 h3 h4 h5;have hbl:=(gl hb);have b1:=alb w Ze 45;have t1:=alz w Ze 45;have m1:=(b1.block _ hbl).trans hb;clear hb
 go_enter Tryz.func116,Tryz.ntmps116
 go_upto_region 1 with fail
 generalize w.alloc (.cells Ze 45)=w1 at b1 t1 m1⊢;have q5:w1.cell? ⟨b,5,none⟩=some (.string ⟨secret.toArray⟩):=(ap m1 5).trans G5.out;have k1:=bz secret w1
 go_wp2_with fail
 refine ag k1 ?_;rintro e w2 ⟨rfl,hb2⟩;have m2:=bkk hb2 m1;have t2:=bkk hb2 t1;have b2:=btt b1 hb2;clear k1 hb2 q5 b1 t1 m1;have k2:=BY (.mk 0 4 false secret []) (Sn) 0 w2 (bf.nil _ _) (by simp[SmE,SmL];exact hs)
 go_wp2_with fail
 refine ag k2 ?_;rintro e w3 ⟨⟨u3,rfl,hu3⟩,hb3⟩;obtain⟨a3,c3,rfl⟩:=hu3.empty;have m3:=bkk hb3 m2;have t3:=bkk hb3 t2;have b3:=btt b2 hb3;clear k2 hb3 hu3 b2 t2 m2;simp only[elA,El.cls,El.tag,El.cons,El.bytes];have g4:=alb w3 #[.int .i64 2,I0,Bf,.string ⟨secret.toArray⟩,.slice a3 0 c3] 45;have x4:=alz w3 #[.int .i64 2,I0,Bf,.string ⟨secret.toArray⟩,.slice a3 0 c3] 45;have m4:=bkk g4 m3;have t4:=bkk g4 t3;have b4:=btt b3 g4;have hs3:=(gl t3);clear m3 t3 b3 g4
 go_upto_region 2 with fail
 generalize w3.alloc (.cells #[.int .i64 2,I0,Bf,.string ⟨secret.toArray⟩,.slice a3 0 c3] 45)=w4 at x4 m4 t4 b4⊢;have q4:w4.cell? ⟨b,4,none⟩=some (Bf):=(ap m4 4).trans G4.out
 go_upto_region 4 with fail
 clear q4;generalize w3.heap.size=x at x4 hs3⊢;refine aR (S:=fun w'=>w'.heap[b]?=some (.cells A 28 (0,0))∧w'.heap[x]?=some (.cells #[.int .i64 2,I0,Bf,.string ⟨secret.toArray⟩,.slice a3 0 c3] 45 (0,0))) (by kernel_rfl) ?_;have T:w4.drew.heap[b]?=some (.cells A 28 (0,0))∧w4.drew.heap[x]?=some (.cells #[.int .i64 2,I0,Bf,.string ⟨secret.toArray⟩,.slice a3 0 c3] 45 (0,0)):=⟨m4,x4⟩;have D:Below w.heap.size w w4.drew:=b4.drew;have R:w4.drew.heap[w.heap.size]?=some (.cells Ze 45 (0,0)):=t4
 change wpAnyH _ _ _ _ _ _ _ _ w4.drew
 clear m4 x4 t4 b4;generalize w4.drew=w5 at T D R⊢;refine tp 0 ⟨b,3,none⟩ rfl T ?_;refine tn 1 (.int .i64 (v:Int)) rfl (fun w' hS=>by have q:=(ap hS.1 3).trans G3.out;go_simp) T ?_;refine tp 3 ⟨b,2,none⟩ rfl T ?_;refine tn 4 (.string ⟨dn.toArray⟩) rfl (fun w' hS=>by have q:=(ap hS.1 2).trans G2.out;go_simp) T ?_;refine tn 6 (.agg #[.int .i64 2,I0,Bf,.string ⟨secret.toArray⟩,.slice a3 0 c3]) rfl (fun w' hS=>by exact cU 45 (.tmp 2) rfl x 45 _ (0,0) (by rfl) hS.2 _ Tryz.underlying45 rfl (by rfl)) T ?_;have kc:=ln 2 v hv w5;refine ao 2 rfl (fun K hK=>?_);go_simp;go_wp2_with fail
 refine ag kc ?_;rintro e w6 ⟨rfl,hbn⟩;have T9:w6.heap[b]?=some (.cells A 28 (0,0))∧w6.heap[x]?=some (.cells #[.int .i64 2,I0,Bf,.string ⟨secret.toArray⟩,.slice a3 0 c3] 45 (0,0)):=⟨(hbn.block _ (gl T.1)).trans T.1,(hbn.block _ (gl T.2)).trans T.2⟩;have R9:=bkk hbn R;have D9:=btt D hbn;clear kc hbn T R D;have T:=T9;have R:=R9;have D:=D9;clear T9 R9 D9;refine hK _ _ T ?_;clear hK K
 have kc:=bz dn w6;refine ao 5 rfl (fun K hK=>?_);go_simp;go_wp2_with fail
 refine ag kc ?_;rintro e w7 ⟨rfl,hbn⟩;have T9:w7.heap[b]?=some (.cells A 28 (0,0))∧w7.heap[x]?=some (.cells #[.int .i64 2,I0,Bf,.string ⟨secret.toArray⟩,.slice a3 0 c3] 45 (0,0)):=⟨(hbn.block _ (gl T.1)).trans T.1,(hbn.block _ (gl T.2)).trans T.2⟩;have R9:=bkk hbn R;have D9:=btt D hbn;clear kc hbn T R D;have T:=T9;have R:=R9;have D:=D9;clear T9 R9 D9;refine hK _ _ T ?_;clear hK K
 simp only[elA,El.cls,El.tag,El.cons,El.bytes];have g8:=alb w7 #[I0,.int .i64 2,Bf,.string ⟨[UInt8.ofNat v].toArray⟩,Sn,I0,.int .i64 4,Bf,.string ⟨dn.toArray⟩,Sn,.int .i64 2,I0,Bf,.string ⟨secret.toArray⟩,.slice a3 0 c3] 45;have y8:=alz w7 #[I0,.int .i64 2,Bf,.string ⟨[UInt8.ofNat v].toArray⟩,Sn,I0,.int .i64 4,Bf,.string ⟨dn.toArray⟩,Sn,.int .i64 2,I0,Bf,.string ⟨secret.toArray⟩,.slice a3 0 c3] 45;have T8:(w7.alloc (.cells #[I0,.int .i64 2,Bf,.string ⟨[UInt8.ofNat v].toArray⟩,Sn,I0,.int .i64 4,Bf,.string ⟨dn.toArray⟩,Sn,.int .i64 2,I0,Bf,.string ⟨secret.toArray⟩,.slice a3 0 c3] 45)).heap[b]?=some (.cells A 28 (0,0))∧(w7.alloc (.cells #[I0,.int .i64 2,Bf,.string ⟨[UInt8.ofNat v].toArray⟩,Sn,I0,.int .i64 4,Bf,.string ⟨dn.toArray⟩,Sn,.int .i64 2,I0,Bf,.string ⟨secret.toArray⟩,.slice a3 0 c3] 45)).heap[x]?=some (.cells #[.int .i64 2,I0,Bf,.string ⟨secret.toArray⟩,.slice a3 0 c3] 45 (0,0)):=⟨(g8.block _ (gl T.1)).trans T.1,(g8.block _ (gl T.2)).trans T.2⟩;have R8:=bkk g8 R;have D8:=btt D g8;clear T R D g8;refine ao 7 rfl (kks T8 ?_);generalize w7.alloc (.cells #[I0,.int .i64 2,Bf,.string ⟨[UInt8.ofNat v].toArray⟩,Sn,I0,.int .i64 4,Bf,.string ⟨dn.toArray⟩,Sn,.int .i64 2,I0,Bf,.string ⟨secret.toArray⟩,.slice a3 0 c3] 45)=w8 at y8 T8 R8 D8⊢;have hk8:bf (fun _=>True) w8 (.slice (some ⟨w7.heap.size,0,none⟩) 3 3) [.mk 0 2 false [UInt8.ofNat v] [],.mk 0 4 false dn [],.mk 2 0 false secret []]:=
  ic (P:=fun _=>True) (l:=[.mk 0 2 false [UInt8.ofNat v] [],.mk 0 4 false dn [],.mk 2 0 false secret []]) (us:=[Sn,Sn,.slice a3 0 c3]) y8 rfl rfl (fun j e u hj hu=>by
   have h3:j=0∨j=1∨j=2:=by have h9:=(List.getElem?_eq_some_iff.1 hj).1;simp at h9;omega
   rcases h3 with rfl|rfl|rfl
   all_goals (simp at hj hu;subst hj;subst hu;exact bf.no _ _ _ _)) trivial
 have kc:=cH [.mk 0 2 false [UInt8.ofNat v] [],.mk 0 4 false dn [],.mk 2 0 false secret []] _ w8 hk8 (by simp[SmL,SmE];exact⟨hd,hs⟩) (by simp);refine ao 8 rfl (fun K hK=>?_);go_simp;go_wp2_with fail
 refine ag kc ?_;rintro e w9 ⟨⟨u9,rfl,hu9⟩,hb9⟩;have T9:w9.heap[b]?=some (.cells A 28 (0,0))∧w9.heap[x]?=some (.cells #[.int .i64 2,I0,Bf,.string ⟨secret.toArray⟩,.slice a3 0 c3] 45 (0,0)):=⟨(hb9.block _ (gl T8.1)).trans T8.1,(hb9.block _ (gl T8.2)).trans T8.2⟩;have R9:=bkk hb9 R8;have D9:=btt D8 hb9;have hs8:=(gl R8);clear kc hb9 T8 R8 D8 y8 hk8;refine hK _ _ T9 ?_;clear hK K
 obtain⟨E,hE⟩:=nmm (elA (.mk 0 16 true [] [.mk 0 2 false [UInt8.ofNat v] [],.mk 0 4 false dn [],.mk 2 0 false secret []]) u9);have hE1:E.all (·.oneCell')=true:=by
  obtain⟨a,c,hsl⟩:=hu9.shape;subst hsl;rw[←hE];simp[elA,Value.oneCell']
 have hE2:E.size=5:=by rw[←hE];rfl
 rw[hE];obtain⟨HE,HE1,HE2⟩:=Ch hE hE1 hE2;clear hE hE1 hE2;have hwb:b≠w.heap.size:=by omega
 have hwx:x≠w.heap.size:=by omega
 have TF:(w9.setRow w.heap.size E).heap[b]?=some (.cells A 28 (0,0))∧(w9.setRow w.heap.size E).heap[x]?=some (.cells #[.int .i64 2,I0,Bf,.string ⟨secret.toArray⟩,.slice a3 0 c3] 45 (0,0)):=⟨(setRow_other w9 w.heap.size b E hwb).trans T9.1,(setRow_other w9 w.heap.size x E hwx).trans T9.2⟩;have bF:=bm D9 (g:=w.heap.size) (ah _) E;have tF:=setRow_heap w9 w.heap.size _ E _ _ R9;have hwl:w.heap.size<w8.heap.size:=by omega
 have uF:bf (fun g=>w.heap.size≤g) (w9.setRow w.heap.size E) u9 [.mk 0 2 false [UInt8.ofNat v] [],.mk 0 4 false dn [],.mk 2 0 false secret []]:=hu9.kept fun g hg hl=>⟨setRow_other w9 w.heap.size g E (by omega),by omega⟩
 refine ao 9 rfl (fun K hK=>?_);refine db 45 (.tmp 1) (.tmp 23) rfl w.heap.size 45 _ E (by rfl) (by rfl) R9 (by rw[HE2.out];rfl) (by rw[HE2.out];rfl) HE1.out ?_;refine hK _ _ TF ?_;clear hK K
 refine bE (by kernel_rfl) ?_ _;simp only[Exit.then];refine‹∀(a:Act) (w:World),Code.wp _ _ _ a w→_› _ _ ?_;clear T9 R9 D9 TF hu9;generalize w9.setRow w.heap.size E=wF at bF tF uF⊢;have UF:=hid uF;clear uF;go_simp
 go_wp2_with fail
 refine aH (v:=.agg E) ?_ rfl (by rw[HPR.out];exact⟨⟨u9,by rw[HE.out],UF.out⟩,bF⟩);have hr:=aJ (P:=Tryz.prog) wF w.heap.size 45 45 E (0,0) _ tF (show Tryz.prog.underlying 45=_ from Tryz.underlying45) (by rfl) (by rw[HE2.out];rfl)
 simp[results,Tryz.f116]
 exact hr
def bJ(B:Nat)(w:World)(v:Value)(l:List El):Prop:=
 ∃us:List Value,us.length=l.length∧w.ownsRow B 45 5 v l.length (cx l us)∧
  ∀(j:Nat) (e:El) (u:Value),l[j]?=some e→us[j]?=some u→bf (fun g=>v.ownBlock≠some g) w u e.kids
theorem bJ.nil(B:Nat)(w:World):bJ B w (Sn) []:=⟨[],rfl,⟨rfl,.inl ⟨rfl,rfl⟩⟩,fun j e u h=>by simp at h⟩
theorem bJ.shape{B:Nat}{w:World}{v:Value}{l:List El}(h:bJ B w v l):∃a c,v=.slice a l.length c:=by
 obtain⟨us,_,ho,_⟩:=h;exact gf ho
theorem bJ.kids{B:Nat}{w:World}{v:Value}{l:List El}(h:bJ B w v l):bf (fun _=>True) w v l:=by
 obtain⟨us,hu,ho,hk⟩:=h;exact jI ho hu (fun j e u q1 q2=>(hk j e u q1 q2).mono fun _ _ _=>trivial) (fun _ _=>trivial)
theorem bJ.lt{B:Nat}{w:World}{v:Value}{l:List El}(h:bJ B w v l){g:Nat}(hg:v.ownBlock=some g):B≤g∧g<w.heap.size:=by
 obtain⟨us,_,ho,_⟩:=h;exact ho.lt g hg
theorem bJ.keep{B:Nat}{w w':World}{v:Value}{l:List El}(h:bJ B w v l)(hk:∀j,j<w.heap.size→w'.heap[j]?=w.heap[j]?):bJ B w' v l:=by
 obtain⟨us,hu,ho,hkk⟩:=h;refine⟨us,hu,⟨ho.1,?_⟩,fun j e u q1 q2=>(hkk j e u q1 q2).kept fun g hg hl=>⟨hk g hl,hg⟩⟩;rcases ho.2 with h0|⟨g,cap,cur,hv,hb,hg,rest⟩
 ·exact .inl h0
 ·exact .inr ⟨g,cap,cur,hv,hb,(hk g (gl hg)).trans hg,rest⟩
theorem bJ.below{B:Nat}{w w':World}{v:Value}{l:List El}(h:bJ B w v l)(hb:Below w.heap.size w w'):bJ B w' v l:=h.keep fun j hj=>hb.block j hj
theorem bJ.mono{B B':Nat}{w:World}{v:Value}{l:List El}(h:bJ B w v l)(hB:B'≤B):bJ B' w v l:=by
 obtain⟨us,hu,ho,hkk⟩:=h;exact⟨us,hu,Cb ho hB,hkk⟩
theorem bJ.flat{B g:Nat}{w:World}{l:List El}{us:List Value}{cs:Array Value}(hb:w.heap[g]?=some (.cells cs 45 (0,0)))(hcs:cs.toList=cx l us)(hl:us.length=l.length)(hB:B≤g)(hn:l.length≤1000000000)
  (hk:∀(j:Nat) (e:El) (u:Value),l[j]?=some e→us[j]?=some u→bf (fun g'=>g'≠g) w u e.kids):bJ B w (.slice (some ⟨g,0,none⟩) l.length l.length) l:=by
 have hfl:=iY l us hl;refine⟨us,hl,⟨by rw[hfl],.inr ⟨g,l.length,cs,rfl,hB,hb,ah _,by unfold maxLen;omega,by rw[←Array.length_toList,hcs,hfl],by rw[hcs,←hfl,List.take_length]⟩⟩,fun j e u q1 q2=>(hk j e u q1 q2).mono fun g' hg' _ h=>hg' ?_⟩;have:g=g':=by simpa[Value.ownBlock] using h
 exact this.symm
theorem sr{B H g cap:Nat}{w w':World}{v:Value}{l us:List Value}{ls:List El}{e:El}{u:Value}(hl:l=cx ls us)(hu:us.length=ls.length)(_:w.ownsRow B 45 5 v ls.length l)
  (hk:∀(j:Nat) (e:El) (u:Value),ls[j]?=some e→us[j]?=some u→bf (fun g=>v.ownBlock≠some g) w u e.kids) (hke:bf (fun g=>v.ownBlock≠some g) w u e.kids)
  (ho:w'.ownsRow B 45 5 (.slice (some ⟨g,0,none⟩) (ls.length+1) cap) (ls.length+1) (l++[.int .i64 e.cls,.int .i64 e.tag,.bool e.cons,.string ⟨e.bytes.toArray⟩,u]))
  (hg:w.grownBy w' v.ownBlock) (hat:v.ownBlock=some g∨g=H) (hH:w.heap.size=H):bJ B w' (.slice (some ⟨g,0,none⟩) (ls.length+1) cap) (ls++[e]):=by
 have hkeep:∀(u:Value) (ks:List El),bf (fun g=>v.ownBlock≠some g) w u ks→bf (fun g'=>(.slice (some ⟨g,0,none⟩) (ls.length+1) cap:Value).ownBlock≠some g') w' u ks:=by
  intro u ks q;refine q.kept fun g' hg' hl'=>⟨hg.block g' hl' (fun h=>hg' h.symm),fun h=>?_⟩
  have hgg:g=g':=by simpa[Value.ownBlock] using h
  rcases hat with h1|h1
  ·exact hg' (hgg▸h1)
  ·omega
 have hlen:(ls++[e]).length=ls.length+1:=by simp
 refine⟨us++[u],by simp[hu],?_,fun j x y q1 q2=>?_⟩
 ·rw[wt _ _ _ _ hu,←hl,hlen]
  exact ho
 ·by_cases hj:j<ls.length
  ·rw[List.getElem?_append_left hj] at q1
   rw[List.getElem?_append_left (by omega)] at q2;exact hkeep _ _ (hk j x y q1 q2)
  ·have hj':j=ls.length:=by
    have:=(List.getElem?_eq_some_iff.1 q1).1
    simp at this
    omega
   subst hj';rw[List.getElem?_append_right (ah _)] at q1;rw[List.getElem?_append_right (by omega)] at q2
   simp[hu] at q1 q2
   subst q1;subst q2;exact hkeep _ _ hke
theorem jt{w:World}{o:Oper}{a:Act}{K:Act→World→Prop}{Q:Exit→Act→World→Prop}(s x:Operand)(ho:o.op=.call {callee:=.builtin .append,args:=#[s,x],argTypes:=#[43,43]})
  (B:Nat) (v:Value) (ls:List El) (hs:a.eval s=v) (hown:bJ B w v ls) (e:El) (au:Option Addr) (n cu b:Nat) (hx:a.eval x=.slice (some ⟨b,0,none⟩) 1 1) (hb:w.heap[b]?=some (.cells (elA e (.slice au n cu)) 45 (0,0)))
  (hke:bf (fun g=>v.ownBlock≠some g) w (.slice au n cu) e.kids) (hl:ls.length≤1000000000) (hB:B≤w.heap.size)
  (h:∀a' c' w',bJ B w' (.slice a' (ls.length+1) c') (ls++[e])→w.grownBy w' v.ownBlock→K (a.put o.dst (.slice a' (ls.length+1) c')) w'):Oper.wp Tryz.prog o a w K Q:=by
 obtain⟨i0,hi0,hz0,hz1,hz2⟩:=info_parts Tryz.infoElement;obtain⟨us,hu,hown',hk⟩:=hown;refine wp_append_lies w s x 43 ho B 45 i0 _ 5 64 Tryz.underlying43 hi0 hz0 hz1 hz2 rfl (by decide) v ls.length (cx ls us) hs hown' ⟨b,0,none⟩ 1 1 [.int .i64 e.cls,.int .i64 e.tag,.bool e.cons,.string ⟨e.bytes.toArray⟩,.slice au n cu] hx rfl (World.news_of_block hb) (by simp[Value.oneCell']) (by decide) (by unfold maxLen;omega) (by omega) hB _ rfl ?_;intro g cap w' q1 q2 q3 _;exact h _ _ _ (sr rfl hu hown' hk hke q1 q2 q3 rfl) q2
theorem bO{w:World}{ops:Array Oper}{rest:List Oper}{o:Oper}{a:Act}{Q:Exit→Act→World→Prop}(hgd:o.guard=none)(s x:Operand)(ho:o.op=.call {callee:=.builtin .append,args:=#[s,x],argTypes:=#[43,43]})
  (B:Nat) (v:Value) (ls:List El) (hs:a.eval s=v) (hown:bJ B w v ls) (e:El) (au:Option Addr) (n cu b:Nat) (hx:a.eval x=.slice (some ⟨b,0,none⟩) 1 1) (hb:w.heap[b]?=some (.cells (elA e (.slice au n cu)) 45 (0,0)))
  (hke:bf (fun g=>v.ownBlock≠some g) w (.slice au n cu) e.kids) (hl:ls.length≤1000000000) (hB:B≤w.heap.size)
  (h:∀a' c' w',bJ B w' (.slice a' (ls.length+1) c') (ls++[e])→w.grownBy w' v.ownBlock→wpList Tryz.prog ops Q rest (a.put o.dst (.slice a' (ls.length+1) c')) w'):wpList Tryz.prog ops Q (o::rest) a w:=
 aB hgd fun _ hK=>jt s x ho B v ls hs hown e au n cu b hx hb hke hl hB fun a' c' w' h1 h2=>hK _ _ (h a' c' w' h1 h2)
def ct(w:World)(v:Value)(ls:List (List UInt8)):Prop:=
 ∃a cap,v=.slice a ls.length cap∧ls.length≤cap∧(ls≠[]→∃g o,a=some ⟨g,o,none⟩∧∀(j:Nat) (x:List UInt8),ls[j]?=some x→w.cell? ⟨g,o+j,none⟩=some (.string ⟨x.toArray⟩))
theorem ct.below{w w':World}{v:Value}{ls:List (List UInt8)}(h:ct w v ls)(hb:Below w.heap.size w w'):ct w' v ls:=by
 obtain⟨a,cap,hv,hc,hr⟩:=h;refine⟨a,cap,hv,hc,fun h0=>?_⟩;obtain⟨g,o,ha,hcell⟩:=hr h0;exact⟨g,o,ha,fun j x hj=>(hb.cell (bj (hcell j x hj))).trans (hcell j x hj)⟩
def eG(w:World)(v:Value)(al:List (List UInt8×List (List UInt8))):Prop:=
 ∃a cap,v=.slice a al.length cap∧al.length≤cap∧(al≠[]→∃g o,a=some ⟨g,o,none⟩∧∀(j:Nat) (x:List UInt8×List (List UInt8)),al[j]?=some x→w.cell? ⟨g,o+j*2,none⟩=some (.string ⟨x.1.toArray⟩)∧∃u,w.cell? ⟨g,o+j*2+1,none⟩=some u∧ct w u x.2)
theorem eG.below{w w':World}{v:Value}{al:List (List UInt8×List (List UInt8))}(h:eG w v al)(hb:Below w.heap.size w w'):eG w' v al:=by
 obtain⟨a,cap,hv,hc,hr⟩:=h;refine⟨a,cap,hv,hc,fun h0=>?_⟩;obtain⟨g,o,ha,hcell⟩:=hr h0;refine⟨g,o,ha,fun j x hj=>?_⟩;obtain⟨h1,u,h2,h3⟩:=hcell j x hj;exact⟨(hb.cell (bj h1)).trans h1,u,(hb.cell (bj h2)).trans h2,h3.below hb⟩
def cP(s:List UInt8):El:=.mk 0 4 false s []
def bI(x:List UInt8×List (List UInt8)):El:=.mk 0 16 true [] [cP x.1,.mk 0 17 true [] (x.2.map cP)]
def vI(w:World)(ls:List (List UInt8))(v i:Value)(wr:World):Prop:=
 ∃k:Nat,i=.int .i64 (k:Int)∧k≤ls.length∧bJ w.heap.size wr v ((ls.take k).map cP)∧Below w.heap.size w wr
theorem lN(vs:Value)(ls:List (List UInt8))(w:World)(h:ct w vs ls)(hl:ls.length≤100000000):
  Calls Tryz.prog 120 #[vs] w fun e w'=>(∃v,e=.returned v∧bJ w.heap.size w' v (ls.map cP))∧Below w.heap.size w w':=by
 obtain⟨a,cap,rfl,hcap,hcells⟩:=h;have HC:=hid hcells;clear hcells
 go_enter Tryz.func120,Tryz.ntmps120
 go_wp2_with fail
 go_loopw [3,5,8] (fun v _ i wr=>vI w ls v i wr) (fun _ _ i _=>ls.length -(RowKit.intOf i).toNat)
 case atStart=>exact⟨0,rfl,Nat.zero_le _,bJ.nil _ _,ar _ _⟩
 case round=>
  obtain⟨k,rfl,hk,hown,hbe⟩:=hrel;obtain⟨av,cv,hsh⟩:=hown.shape;subst hsh;have hlen:((ls.take k).map cP).length=k:=by simp;omega
  rw[hlen] at hown⊢
  by_cases hkl:k<ls.length
  ·obtain⟨s,hs⟩:∃s,ls[k]?=some s:=⟨_,by simp[hkl];rfl⟩
   obtain⟨g,o,ha,hc⟩:=HC.out (by intro h0;rw[h0] at hkl;simp at hkl);subst ha;have q0:=(hbe.cell (bj (hc k s hs))).trans (hc k s hs);have i1:decide ((k:Int)<(ls.length:Int))=true:=aL (by omega);have i2:(k:Int)<(ls.length:Int):=by omega
   obtain⟨HO,HS⟩:=Cg hown hs;have hszr:=hbe.size;have kc:=bz s wr;clear hc hs hown
   go_wp2_with fail
   refine ag kc ?_;rintro e w2 ⟨rfl,hb2⟩;clear q0 kc;have o2:=HO.out.below hb2;have b2:=hbe.trans (hb2.mono hszr);simp only[elA,El.cls,El.tag,El.cons,El.bytes];have g3:=alb w2 #[I0,.int .i64 4,Bf,.string ⟨s.toArray⟩,Sn] 45;have x3:(w2.alloc (.cells #[I0,.int .i64 4,Bf,.string ⟨s.toArray⟩,Sn] 45)).heap[w2.heap.size]?=some (.cells (elA (cP s) (Sn)) 45 (0,0)):=bi _ _ _ rfl;have o3:=o2.below g3;have b3:=btt b2 g3;have hs3:=b3.size;obtain⟨O3,X3,B3⟩:=Ch o3 x3 b3;clear o2 b2 g3 o3 x3 b3 hb2 hbe
   go_wp2_with (at_builtin;refine bO rfl (.tmp 12) (.tmp 15) rfl w.heap.size (.slice av k cv) ((ls.take k).map cP) rfl O3.out (cP s) none 0 0 w2.heap.size rfl X3.out (bf.nil _ _) (by omega) hs3 ?_;rw[hlen];intro a' c' w5 ho5 hg5)
   have hts:(ls.take (k+1)).map cP=(ls.take k).map cP++[cP s]:=by rw[List.take_add_one,HS.out];simp
   have b5:=B3.out.grown hg5 hs3 (fun b hb=>(O3.out.lt hb).1);exact⟨⟨k+1,by go_num,by omega,by rw[hts];exact ho5,b5⟩,by simp[RowKit.intOf];omega⟩
  ·obtain rfl:k=ls.length:=by omega
   rw[List.take_of_length_le (ah _)] at hown;have HO:=hid hown;clear hown
   go_wp2_with fail
   go_ret
   exact⟨⟨_,rfl,HO.out⟩,hbe⟩
def fp(a:Act)(o:Oper):Value:=match o.dst with|some d=>a.tmps.getD d undef|none=>undef
theorem qV{a:Act}{o:Oper}{v:Value}(hd:∀d,o.dst=some d→d<a.tmps.size):fp (a.put o.dst v) o=match o.dst with|some _=>v|none=>undef:=by
 unfold fp Act.put;cases h:o.dst with
 |none=>rfl
 |some d=>simp[hd d h]
theorem nN{a:Act}{o o':Oper}{v:Value}(h:∀d,o.dst=some d→o'.dst≠some d):fp (a.put o.dst v) o'=fp a o':=by
 unfold fp Act.put;cases h1:o.dst with
 |none=>rfl
 |some d=>
  cases h2:o'.dst with
  |none=>rfl
  |some d'=>
   have:d≠d':=fun e=>h d h1 (e▸h2)
   simp[this]
theorem ox{a:Act}{o:Oper}{d:Nat}(hd:o.dst=some d)(hl:d<a.tmps.size):a.tmps[d]?=some (fp a o):=by
 unfold fp;rw[hd]
 simp[hl]
def kI(md:Region.Mode)(n:Nat)(ops:Array Oper):Bool:=
 (List.range ops.size).all fun i=>match ops[i]? with
  |none=>false
  |some o=>o.guard.isNone&&(o.after.toList.all fun e=>!Region.binds md e||decide (e.on<i))&&(match o.dst with|none=>true|some d=>decide (d<n)&&((List.range ops.size).all fun j=>decide (j=i)||(match ops[j]? with|none=>true|some o'=>!(o'.dst==some d))))
theorem iP{md:Region.Mode}{n:Nat}{ops:Array Oper}(h:kI md n ops=true){i:Nat}{o:Oper}(ho:ops[i]?=some o):
  o.guard=none∧(∀e∈o.after,Region.binds md e=true→e.on<i)∧∀d,o.dst=some d→d<n∧∀j o',ops[j]?=some o'→j≠i→o'.dst≠some d:=by
 unfold kI at h;rw[List.all_eq_true] at h;have hi:i<ops.size:=(gl ho);have h1:=h i (List.mem_range.2 hi);rw[ho] at h1;simp only[aI,Option.isNone_iff_eq_none,List.all_eq_true,Bool.or_eq_true,Bool.not_eq_true',aT] at h1;refine⟨h1.1.1,fun e he hb=>?_,fun d hd=>?_⟩
 ·rcases h1.1.2 e (by simpa using he) with q|q
  ·rw[hb] at q;cases q
  ·exact q
 ·have h2:=h1.2
  rw[hd] at h2;simp only[aI,aT,List.all_eq_true,Bool.or_eq_true] at h2;refine⟨h2.1,fun j o' hj hji he=>?_⟩;have hjl:j<ops.size:=(gl hj);rcases h2.2 j (List.mem_range.2 hjl) with q|q
  ·exact hji q
  ·rw[hj] at q
   simp[he] at q
theorem pw{P:Program}{md:Region.Mode}{ops:Array Oper}{Q:Exit→Act→World→Prop}(n:Nat)(hok:kI md n ops=true)
  (G:Nat→Value→World→Prop) (H:World→World→Prop) (B:Array Bool→Act→World→Prop)
  (hG:∀i v w w',H w w'→G i v w→G i v w')
  (hstep:∀(i:Nat) (o:Oper) (listed:Array Bool) (a:Act) (w:World),ops[i]?=some o→listed.getD i true=false→listed.size=ops.size→a.tmps.size=n→B listed a w→
   (∀(j:Nat) (o':Oper),ops[j]?=some o'→listed.getD j false=true→G j (fp a o') w)→(∀e∈o.after,Region.binds md e=true→listed.getD e.on false=true)→
   ∀K':Act→World→Prop,(∀(v:Value) (w':World),G i (match o.dst with|some _=>v|none=>undef) w'→H w w'→B (listed.setIfInBounds i true) (a.put o.dst v) w'→K' (a.put o.dst v) w')→Oper.wp P o a w K' Q)
  (a:Act) (w:World) (hn:a.tmps.size=n) (hB:B (Array.replicate ops.size false) a w)
  (hdone:∀(listed:Array Bool) (a:Act) (w:World),(∀i,i<ops.size→listed.getD i false=true)→a.tmps.size=n→B listed a w→(∀(j:Nat) (o':Oper),ops[j]?=some o'→G j (fp a o') w)→Q .normal a w):
  wpAny P md ops Q ops.size (Array.replicate ops.size false) a w:=by
 have hput:∀(a:Act) (d:Option Tmp) (v:Value),(a.put d v).tmps.size=a.tmps.size:=by
  intro a d v;cases d<;>simp[Act.put]
 refine qD (fun listed a w=>a.tmps.size=n∧B listed a w∧∀(j:Nat) (o':Oper),ops[j]?=some o'→listed.getD j false=true→G j (fp a o') w) (fun i o ho=>(iP hok ho).2.1) ?_ ?_ ops.size _ a w (by simp) ?_ ⟨hn,hB,?_⟩
 ·intro listed a w hall ⟨h1,h2,h3⟩
  exact hdone listed a w hall h1 h2 (fun j o' hj=>h3 j o' hj (hall j (gl hj)))
 ·intro i o listed a w ho hi hsz hall ⟨h1,h2,h3⟩
  obtain⟨hgd,_,hds⟩:=iP hok ho;have hil:i<ops.size:=(gl ho);refine BE ho (by simp[Region.wanted,hgd]) fun K' hK'=>?_
  refine hstep i o listed a w ho hi hsz h1 h2 h3 hall K' (fun v w' hv hH hB'=>hK' _ _ ⟨(hput _ _ _).trans h1,hB',fun j o' hj hl=>?_⟩)
  by_cases hji:j=i
  ·subst hji
   rw[ho] at hj;cases hj;rw[qV (fun d hd=>by rw[h1];exact(hds d hd).1)];exact hv
  ·have hl':listed.getD j false=true:=by
    simpa[Array.getElem?_setIfInBounds,Ne.symm hji] using hl
   rw[nN (fun d hd=>(hds d hd).2 j o' hj hji)];exact hG _ _ _ _ hH (h3 j o' hj hl')
 ·simp[gJ]
 ·intro j o' hj hl
  have:=(gl hj)
  simp[this] at hl
/-! The operations one by one. -/
theorem jS{P:Program}{o:Oper}{a:Act}{w w':World}{K:Act→World→Prop}{Q:Exit→Act→World→Prop}{v:Value}(hr:(execOp a.eval o).run P w=.ok (.value v) w')(h:K (a.put o.dst v) w'):Oper.wp P o a w K Q:=by
 unfold Oper.wp;rw[hr];exact h
theorem sj{P:Program}{o:Oper}{a:Act}{w:World}{K:Act→World→Prop}{Q:Exit→Act→World→Prop}{f:FuncId}{args:Array Value}(hr:(execOp a.eval o).run P w=.ok (.enter f args) w)(h:Calls P f args w fun e w'=>∃v,e=.returned v∧K (a.put o.dst v) w'):Oper.wp P o a w K Q:=by
 unfold Oper.wp;rw[hr,Oper.upon_enter];refine h.mono ?_;rintro e w' ⟨v,rfl,hk⟩;exact hk
/-! A map that the region fills. -/
theorem jT{P:Program}(w:World)(mty kt et:TypeId)(r clock:Nat)(es:Array MapEntry)(k:Int)(z:Value)(hm:P.underlying mty=some (.map kt et))(hk:P.underlying kt=some (.int .i64))(hb:w.heap[r]?=some (.map es clock))
  (hint:∀x∈es.toList,∃k',x.key=.int .i64 k') (hz:(zeroValue et).run P w=.ok z w):
  (∃x,x∈es.toList∧x.key=.int .i64 k∧(Instr.lookup mty (.map (some r)) (.int .i64 k) true).run P w=.ok (.tuple #[x.val,.bool true]) w)∨
   ((∀x∈es.toList,x.key≠.int .i64 k)∧(Instr.lookup mty (.map (some r)) (.int .i64 k) true).run P w=.ok (.tuple #[z,Bf]) w):=by
 have hkey:∀j:Int,MapKept.IsKey (.int .i64) (.int .i64 j):=fun j=>by simp[MapKept.IsKey]
 have hc:(Instr.checkKey es.isEmpty 10000 kt (.int .i64 k)).run P w=.ok () w:=MapKept.run_checkKey (k:=.int .i64 k) hk (hkey k) es.isEmpty 9999;rcases MapKept.findNow_spec (hkey k) es.toList 0 (fun x hx=>by obtain⟨k',e⟩:=hint x hx;rw[e];exact hkey k') with⟨h1,h2⟩|⟨j,e,h1,h2,h3⟩
 ·refine .inr ⟨h2,?_⟩
  simp[Instr.lookup,run_underlying hm,MapKept.run_getObj_map hb,hc,MapKept.run_findKey hk h1,hz,Result.andThen]
 ·refine .inl ⟨e,List.mem_of_getElem? h2,h3,?_⟩
  simp[Instr.lookup,run_underlying hm,MapKept.run_getObj_map hb,hc,MapKept.run_findKey hk h1,Result.andThen]
def ey(L:List (Nat×Int))(V:Nat→Value→World→Prop)(listed:Nat→Bool)(r:Nat)(w:World):Prop:=
 ∃es c,w.heap[r]?=some (.map es c)∧(∀x∈es.toList,∃p,p∈L∧listed p.1=true∧x.key=.int .i64 p.2∧V p.1 x.val w)∧∀p∈L,listed p.1=true→∃x,x∈es.toList∧x.key=.int .i64 p.2
theorem ey.keep{L:List (Nat×Int)}{V:Nat→Value→World→Prop}{listed listed':Nat→Bool}{r:Nat}{w w':World}(h:ey L V listed r w)(hr:w'.heap[r]?=w.heap[r]?)(hV:∀i v,V i v w→V i v w')(hl:∀p∈L,listed' p.1=listed p.1):ey L V listed' r w':=by
 obtain⟨es,c,h1,h2,h3⟩:=h;refine⟨es,c,hr.trans h1,fun x hx=>?_,fun p hp hlp=>h3 p hp (by rw[←hl p hp];exact hlp)⟩;obtain⟨p,hp,hq,hk,hv⟩:=h2 x hx;exact⟨p,hp,(hl p hp).trans hq,hk,hV _ _ hv⟩
theorem kJ{P:Program}{L:List (Nat×Int)}{V:Nat→Value→World→Prop}{listed:Nat→Bool}{r:Nat}{w:World}(mty kt et:TypeId)(i:Nat)(k:Int)(val:Value)(hm:P.underlying mty=some (.map kt et))(hk:P.underlying kt=some (.int .i64))
  (h:ey L V listed r w) (hi:(i,k)∈L) (hinj:∀p∈L,p.2=k→p.1=i) (hdist:∀p∈L,p.1=i→p.2=k) (hn:listed i=false) (hV:∀i v w w',Hk w w'→V i v w→V i v w') (hval:V i val w):
  ∃w',(Instr.mapUpdate mty (.map (some r)) (.int .i64 k) val).run P w=.ok () w'∧ey L V (fun j=>if j=i then true else listed j) r w'∧w'.heap.size=w.heap.size∧(∀j,j≠r→w'.heap[j]?=w.heap[j]?)∧w'.os=w.os∧w'.tape=w.tape∧w'.output=w.output∧Hk w w':=by
 obtain⟨es,c,h1,h2,h3⟩:=h;have hkey:∀j:Int,MapKept.IsKey (.int .i64) (.int .i64 j):=fun j=>by simp[MapKept.IsKey]
 have hnone:Instr.findNow (.int .i64) (.int .i64 k) es.toList 0=some none:=by
  rcases MapKept.findNow_spec (hkey k) es.toList 0 (fun x hx=>by obtain⟨p,_,_,e,_⟩:=h2 x hx;rw[e];exact hkey p.2) with⟨q,_⟩|⟨j,e,_,q2,q3⟩
  ·exact q
  ·exfalso
   obtain⟨p,hp,hq,e',_⟩:=h2 e (List.mem_of_getElem? q2);rw[q3] at e'
   injection e' with _ e''
   have:=hinj p hp e''.symm;rw[this,hn] at hq;cases hq
 obtain⟨w',hr,hb,hs,ho,e1,e2,e3⟩:=oE w mty kt et r c es k val hm hk h1 hnone;have hH:Hk w w':=Hk.map h1 ho;refine⟨w',hr,⟨_,_,hb,fun x hx=>?_,fun p hp hl=>?_⟩,hs,ho,e1,e2,e3,hH⟩
 ·simp only[Array.toList_push,List.mem_append,List.mem_singleton] at hx
  rcases hx with hx|rfl
  ·obtain⟨p,hp,hq,e,hv⟩:=h2 x hx
   exact⟨p,hp,by simp[hq],e,hV _ _ _ _ hH hv⟩
  ·exact⟨(i,k),hi,by simp,rfl,hV _ _ _ _ hH hval⟩
 ·by_cases hpi:p.1=i
  ·have hp2:p=(i,p.2):=by rw[←hpi]
   by_cases hpk:p.2=k
   ·exact⟨_,by rw[Array.toList_push];exact List.mem_append_right _ (List.mem_singleton.2 rfl),by rw[hpk]⟩
   ·simp only[hpi,if_true] at hl
    by_cases hli:listed p.1=true
    ·rw[hpi,hn] at hli;cases hli
    ·exact absurd (hdist p hp hpi) hpk
  ·simp only[hpi,if_false] at hl
   obtain⟨x,hx,e⟩:=h3 p hp hl;exact⟨x,by simp[hx],e⟩
def ti(l:List El)(v:Value)(w:World):Prop:=∃u,v=.agg (elA (.mk 0 16 true [] l) u)∧bf (fun _=>True) w u l
def fc(l:List El)(v:Value)(w:World):Prop:=∃b u,v=.func (.func 115) #[] #[.pointer (some ⟨b,0,none⟩)]∧w.cell? ⟨b,0,none⟩=some u∧bf (fun _=>True) w u l
theorem ti.hk{l:List El}{v:Value}{w w':World}(h:ti l v w)(k:Hk w w'):ti l v w':=by
 obtain⟨u,e,q⟩:=h;exact⟨u,e,q.hk k⟩
theorem fc.hk{l:List El}{v:Value}{w w':World}(h:fc l v w)(k:Hk w w'):fc l v w':=by
 obtain⟨b,u,e,hc,q⟩:=h;exact⟨b,u,e,k.2 _ _ _ hc,q.hk k⟩
structure OpX where
 M:Nat
 dn:List UInt8
 typ:List UInt8
 value:List UInt8
 vm:Value
 va:Value
 lm:List El
 la:List El
def opL:List (Nat×Int):=[(2,0),(3,2),(5,3),(15,6),(25,8),(35,4),(37,10),(39,12),(54,14),(56,16),(58,23)]
def opV(x:OpX):Nat→Value→World→Prop
 |2,v,_=>v=.func (.func 116) #[] #[.pointer (some ⟨x.M,0,none⟩)]
 |3,v,_=>v=.func (.func 117) #[] #[]
 |5,v,_=>v=.func (.func 118) #[] #[.pointer (some ⟨x.M,0,none⟩)]
 |15,v,w=>fc [(.mk 0 4 false x.dn []),.mk 0 16 true [] x.lm] v w
 |25,v,w=>fc [(.mk 0 4 false x.dn []),.mk 0 16 true [] x.la] v w
 |35,v,w=>fc [(.mk 0 4 false x.dn []),.mk 0 16 true [] x.la] v w
 |37,v,_=>v=.func (.func 123) #[] #[.pointer (some ⟨x.M,0,none⟩)]
 |39,v,_=>v=.func (.func 124) #[] #[.pointer (some ⟨x.M,0,none⟩)]
 |54,v,w=>fc [(.mk 0 4 false x.dn []),.mk 0 16 true [] [(.mk 0 4 false x.typ []),(.mk 0 4 false x.value [])]] v w
 |56,v,_=>v=.func (.func 125) #[] #[.pointer (some ⟨x.M,0,none⟩)]
 |58,v,_=>v=.func (.func 126) #[] #[.pointer (some ⟨x.M,0,none⟩)]
 |_,_,_=>True
def opG(x:OpX):Nat→Value→World→Prop
 |1,v,_=>v=.func (.func 116) #[] #[.pointer (some ⟨x.M,0,none⟩)]
 |4,v,_=>v=.func (.func 118) #[] #[.pointer (some ⟨x.M,0,none⟩)]
 |6,v,_=>v=.func (.func 114) #[] #[]
 |7,v,_=>v=.pointer (some ⟨x.M,2,none⟩)
 |8,v,_=>v=.string ⟨x.dn.toArray⟩
 |9,v,_=>v=.agg (elA (.mk 0 4 false x.dn []) (Sn))
 |10,v,_=>v=.pointer (some ⟨x.M,13,none⟩)
 |11,v,_=>v=x.vm
 |12,v,w=>ti x.lm v w
 |13,v,w=>bf (fun _=>True) w v [(.mk 0 4 false x.dn []),.mk 0 16 true [] x.lm]
 |14,v,w=>fc [(.mk 0 4 false x.dn []),.mk 0 16 true [] x.lm] v w
 |16,v,_=>v=.func (.func 114) #[] #[]
 |17,v,_=>v=.pointer (some ⟨x.M,2,none⟩)
 |18,v,_=>v=.string ⟨x.dn.toArray⟩
 |19,v,_=>v=.agg (elA (.mk 0 4 false x.dn []) (Sn))
 |20,v,_=>v=.pointer (some ⟨x.M,14,none⟩)
 |21,v,_=>v=x.va
 |22,v,w=>ti x.la v w
 |23,v,w=>bf (fun _=>True) w v [(.mk 0 4 false x.dn []),.mk 0 16 true [] x.la]
 |24,v,w=>fc [(.mk 0 4 false x.dn []),.mk 0 16 true [] x.la] v w
 |26,v,_=>v=.func (.func 114) #[] #[]
 |27,v,_=>v=.pointer (some ⟨x.M,2,none⟩)
 |28,v,_=>v=.string ⟨x.dn.toArray⟩
 |29,v,_=>v=.agg (elA (.mk 0 4 false x.dn []) (Sn))
 |30,v,_=>v=.pointer (some ⟨x.M,14,none⟩)
 |31,v,_=>v=x.va
 |32,v,w=>ti x.la v w
 |33,v,w=>bf (fun _=>True) w v [(.mk 0 4 false x.dn []),.mk 0 16 true [] x.la]
 |34,v,w=>fc [(.mk 0 4 false x.dn []),.mk 0 16 true [] x.la] v w
 |36,v,_=>v=.func (.func 123) #[] #[.pointer (some ⟨x.M,0,none⟩)]
 |38,v,_=>v=.func (.func 124) #[] #[.pointer (some ⟨x.M,0,none⟩)]
 |40,v,_=>v=.func (.func 114) #[] #[]
 |41,v,_=>v=.pointer (some ⟨x.M,2,none⟩)
 |42,v,_=>v=.string ⟨x.dn.toArray⟩
 |43,v,_=>v=.agg (elA (.mk 0 4 false x.dn []) (Sn))
 |44,v,_=>v=.pointer (some ⟨x.M,19,none⟩)
 |45,v,_=>v=.string ⟨x.typ.toArray⟩
 |46,v,_=>v=.agg (elA (.mk 0 4 false x.typ []) (Sn))
 |47,v,_=>v=.pointer (some ⟨x.M,20,none⟩)
 |48,v,_=>v=.string ⟨x.value.toArray⟩
 |49,v,_=>v=.agg (elA (.mk 0 4 false x.value []) (Sn))
 |50,v,w=>bf (fun _=>True) w v [(.mk 0 4 false x.typ []),(.mk 0 4 false x.value [])]
 |51,v,w=>ti [(.mk 0 4 false x.typ []),(.mk 0 4 false x.value [])] v w
 |52,v,w=>bf (fun _=>True) w v [(.mk 0 4 false x.dn []),.mk 0 16 true [] [(.mk 0 4 false x.typ []),(.mk 0 4 false x.value [])]]
 |53,v,w=>fc [(.mk 0 4 false x.dn []),.mk 0 16 true [] [(.mk 0 4 false x.typ []),(.mk 0 4 false x.value [])]] v w
 |55,v,_=>v=.func (.func 125) #[] #[.pointer (some ⟨x.M,0,none⟩)]
 |57,v,_=>v=.func (.func 126) #[] #[.pointer (some ⟨x.M,0,none⟩)]
 |59,v,w=>∃r,v=.map (some r)∧ey opL (opV x) (fun _=>true) r w
 |60,v,w=>∃r,v=.map (some r)∧ey opL (opV x) (fun _=>true) r w
 |_,_,_=>True
theorem jn(x:OpX):∀(i:Nat) (v:Value) (w w':World),Hk w w'→opV x i v w→opV x i v w':=by
 intro i v w w' k h;unfold opV at h⊢
 split at h
 all_goals first
  |exact h
  |exact fc.hk h k
  |trivial
def opH(x:OpX)(w w':World):Prop:=Hk w w'∧∀r,ey opL (opV x) (fun _=>true) r w→ey opL (opV x) (fun _=>true) r w'
theorem jo(x:OpX){w w':World}(h:Below w.heap.size w w'):opH x w w':=
 ⟨Hk.below h,fun r hr=>hr.keep (by obtain⟨es,c,hb,_⟩:=hr;exact h.block r (gl hb)) (fun i v q=>jn x i v _ _ (Hk.below h) q) (fun _ _=>rfl)⟩
theorem sn(x:OpX):∀(i:Nat) (v:Value) (w w':World),opH x w w'→opG x i v w→opG x i v w':=by
 intro i v w w' k h;unfold opG at h⊢
 split at h
 all_goals first
  |exact h
  |exact fc.hk h k.1
  |exact ti.hk h k.1
  |exact bf.hk h k.1
  |(obtain⟨r,e,hr⟩:=h;exact⟨r,e,k.2 r hr⟩)
  |trivial
def opB(x:OpX)(E:Value)(w0:World)(listed:Array Bool)(a:Act)(w:World):Prop:=
 a.tmps[1]?=some (.pointer (some ⟨x.M,0,none⟩))∧a.tmps[2]?=some E∧a.tmps[3]?=some (.func (.func 114) #[] #[])∧a.defers=[]∧Below w0.heap.size w0 w∧(∀p∈opL,listed.getD p.1 false=true→listed.getD 0 false=true)∧
  (listed.getD 0 false=true→∃r,a.tmps[7]?=some (.map (some r))∧w0.heap.size≤r∧ey opL (opV x) (fun j=>listed.getD j false) r w)
abbrev HKt(x:OpX)(E:Value)(w0:World)(o:Oper)(listed:Array Bool)(a:Act)(w:World)(K:Act→World→Prop)(i:Nat):Prop:=∀(v:Value) (w':World),opG x i (match o.dst with|some _=>v|none=>undef) w'→opH x w w'→opB x E w0 (listed.setIfInBounds i true) (a.put o.dst v) w'→K (a.put o.dst v) w'
theorem mM(x:OpX){E:Value}{w0:World}{listed:Array Bool}{a:Act}{w w':World}{i:Nat}{o:Oper}{v:Value}(h:opB x E w0 listed a w)(hd:o.dst≠some 1∧o.dst≠some 2∧o.dst≠some 3∧o.dst≠some 7)(hi:i≠0∧∀p∈opL,p.1≠i)(hb:Below w.heap.size w w'):
  opB x E w0 (listed.setIfInBounds i true) (a.put o.dst v) w':=by
 have hp:∀d,o.dst≠some d→(a.put o.dst v).tmps[d]?=a.tmps[d]?:=by
  intro d hd';unfold Act.put;cases h1:o.dst with
  |none=>rfl
  |some d1=>
   have:d1≠d:=fun e=>hd' (by rw[h1,e])
   simp[this]
 have hl:∀j,j≠i→(listed.setIfInBounds i true).getD j false=listed.getD j false:=by
  intro j hj
  simp[Ne.symm hj]
 obtain⟨h1,h2,h3,h4,h5,h7,h6⟩:=h;refine⟨(hp 1 hd.1).trans h1,(hp 2 hd.2.1).trans h2,(hp 3 hd.2.2.1).trans h3,?_,(btt h5 hb),fun p hp' q=>(hl 0 (Ne.symm hi.1)).trans (h7 p hp' ((hl p.1 (hi.2 p hp')).symm.trans q)),fun q=>?_⟩
 ·unfold Act.put
  cases o.dst<;>exact h4
 ·rw[hl 0 (Ne.symm hi.1)] at q
  obtain⟨r,e,hr,hm⟩:=h6 q;refine⟨r,(hp 7 hd.2.2.2).trans e,hr,hm.keep ?_ (fun i v q=>jn x i v _ _ (Hk.below hb) q) (fun p hp'=>hl p.1 (hi.2 p hp'))⟩;obtain⟨es,c,hbk,_⟩:=hm;exact hb.block r (gl hbk)
def opT:List (Op×Option Tmp):=[
 (.makeMap 148 none,some 7),
 (.makeFunc (.func 116) #[] #[.tmp 1],some 8),
 (.insert 148 (.tmp 7) (.const (I0)) (.tmp 8),none),
 (.insert 148 (.tmp 7) (.const (.int .i64 2)) (.func 117),none),
 (.makeFunc (.func 118) #[] #[.tmp 1],some 9),
 (.insert 148 (.tmp 7) (.const (.int .i64 3)) (.tmp 9),none),
 (.move (.tmp 3),some 10),
 (.fieldAddr 28 (.tmp 1) 2,some 11),
 (.load 9 (.tmp 11),some 12),
 (.call {callee:=.value (.func 74),args:=#[.tmp 12],argTypes:=#[9]},some 13),
 (.fieldAddr 28 (.tmp 1) 13,some 14),
 (.load 24 (.tmp 14),some 15),
 (.call {callee:=.value (.func 121),args:=#[.tmp 15],argTypes:=#[24]},some 16),
 (.buildSlice 43 2 #[(0,.tmp 13),(1,.tmp 16)],some 17),
 (.call {callee:=.value (.tmp 10),args:=#[.tmp 17],argTypes:=#[43]},some 18),
 (.insert 148 (.tmp 7) (.const (.int .i64 6)) (.tmp 18),none),
 (.move (.tmp 3),some 19),
 (.fieldAddr 28 (.tmp 1) 2,some 20),
 (.load 9 (.tmp 20),some 21),
 (.call {callee:=.value (.func 74),args:=#[.tmp 21],argTypes:=#[9]},some 22),
 (.fieldAddr 28 (.tmp 1) 14,some 23),
 (.load 25 (.tmp 23),some 24),
 (.call {callee:=.value (.func 122),args:=#[.tmp 24],argTypes:=#[25]},some 25),
 (.buildSlice 43 2 #[(0,.tmp 22),(1,.tmp 25)],some 26),
 (.call {callee:=.value (.tmp 19),args:=#[.tmp 26],argTypes:=#[43]},some 27),
 (.insert 148 (.tmp 7) (.const (.int .i64 8)) (.tmp 27),none),
 (.move (.tmp 3),some 28),
 (.fieldAddr 28 (.tmp 1) 2,some 29),
 (.load 9 (.tmp 29),some 30),
 (.call {callee:=.value (.func 74),args:=#[.tmp 30],argTypes:=#[9]},some 31),
 (.fieldAddr 28 (.tmp 1) 14,some 32),
 (.load 25 (.tmp 32),some 33),
 (.call {callee:=.value (.func 122),args:=#[.tmp 33],argTypes:=#[25]},some 34),
 (.buildSlice 43 2 #[(0,.tmp 31),(1,.tmp 34)],some 35),
 (.call {callee:=.value (.tmp 28),args:=#[.tmp 35],argTypes:=#[43]},some 36),
 (.insert 148 (.tmp 7) (.const (.int .i64 4)) (.tmp 36),none),
 (.makeFunc (.func 123) #[] #[.tmp 1],some 37),
 (.insert 148 (.tmp 7) (.const (.int .i64 10)) (.tmp 37),none),
 (.makeFunc (.func 124) #[] #[.tmp 1],some 38),
 (.insert 148 (.tmp 7) (.const (.int .i64 12)) (.tmp 38),none),
 (.move (.tmp 3),some 39),
 (.fieldAddr 28 (.tmp 1) 2,some 40),
 (.load 9 (.tmp 40),some 41),
 (.call {callee:=.value (.func 74),args:=#[.tmp 41],argTypes:=#[9]},some 42),
 (.fieldAddr 28 (.tmp 1) 19,some 43),
 (.load 9 (.tmp 43),some 44),
 (.call {callee:=.value (.func 74),args:=#[.tmp 44],argTypes:=#[9]},some 45),
 (.fieldAddr 28 (.tmp 1) 20,some 46),
 (.load 9 (.tmp 46),some 47),
 (.call {callee:=.value (.func 74),args:=#[.tmp 47],argTypes:=#[9]},some 48),
 (.buildSlice 43 2 #[(0,.tmp 45),(1,.tmp 48)],some 49),
 (.call {callee:=.value (.func 76),args:=#[.tmp 49],argTypes:=#[43]},some 50),
 (.buildSlice 43 2 #[(0,.tmp 42),(1,.tmp 50)],some 51),
 (.call {callee:=.value (.tmp 39),args:=#[.tmp 51],argTypes:=#[43]},some 52),
 (.insert 148 (.tmp 7) (.const (.int .i64 14)) (.tmp 52),none),
 (.makeFunc (.func 125) #[] #[.tmp 1],some 53),
 (.insert 148 (.tmp 7) (.const (.int .i64 16)) (.tmp 53),none),
 (.makeFunc (.func 126) #[] #[.tmp 1],some 54),
 (.insert 148 (.tmp 7) (.const (.int .i64 23)) (.tmp 54),none),
 (.move (.tmp 7),some 55),
 (.assign (.tmp 55),some 4)]
def ma(ops:Array Oper)(i j:Nat):Bool:=match ops[i]? with|none=>false|some o=>o.after.toList.any fun e=>Region.binds .any e&&(e.on==j)
theorem so{ops:Array Oper}{i j:Nat}{o:Oper}(h:ma ops i j=true)(ho:ops[i]?=some o){listed:Array Bool}(hall:∀e∈o.after,Region.binds .any e=true→listed.getD e.on false=true):listed.getD j false=true:=by
 unfold ma at h;rw[ho] at h;simp only[List.any_eq_true,aI,beq_iff_eq] at h;obtain⟨e,he,hb,rfl⟩:=h;exact hall e (by simpa using he) hb
def opW:List (Nat×Nat):=[(2,0),(2,1),(3,0),(5,0),(5,4),(8,7),(9,8),(11,10),(12,11),(13,9),(13,12),(14,6),(14,13),(15,0),(15,14),(18,17),(19,18),(21,20),(22,21),(23,19),(23,22),(24,16),(24,23),(25,0),(25,24),(28,27),(29,28),(31,30),(32,31),(33,29),(33,32),(34,26),(34,33),(35,0),(35,34),(37,0),(37,36),(39,0),(39,38),(42,41),(43,42),(45,44),(46,45),(48,47),(49,48),(50,46),(50,49),(51,50),(52,43),(52,51),(53,40),(53,52),(54,0),(54,53),(56,0),(56,55),(58,0),(58,57),(59,0),(59,2),(59,3),(59,5),(59,15),(59,25),(59,35),(59,37),(59,39),(59,54),(59,56),(59,58),(60,59)]
structure OpC (x:OpX) (E:Value) (w0:World) (ops:Array Oper) (i:Nat) (o:Oper) (listed:Array Bool) (a:Act) (w:World):Prop where
 ho:ops[i]?=some o
 hi:listed.getD i true=false
 hsz:listed.size=ops.size
 hn:a.tmps.size=74
 hB:opB x E w0 listed a w
 hg:∀(j:Nat) (o':Oper),ops[j]?=some o'→listed.getD j false=true→opG x j (fp a o') w
 hall:∀e∈o.after,Region.binds .any e=true→listed.getD e.on false=true
 hok:kI .any 74 ops=true
 htab:ops.toList.map (fun o=>(o.op,o.dst))=opT
 hwt:(opW.all fun p=>ma ops p.1 p.2)=true
theorem bu{a:Act}{d:Nat}{v:Value}(h:a.tmps[d]?=some v):a.eval (.tmp d)=v:=by
 show a.tmps.getD d undef=v
 simp[h]
theorem bx{ops:Array Oper}{T:List (Op×Option Tmp)}(h:ops.toList.map (fun o=>(o.op,o.dst))=T){i:Nat}{o:Oper}(ho:ops[i]?=some o):T[i]?=some (o.op,o.dst):=by
 rw[←h]
 simp[ho]
theorem mN{ops:Array Oper}{T:List (Op×Option Tmp)}(h:ops.toList.map (fun o=>(o.op,o.dst))=T){i:Nat}{p:Op}{d:Option Tmp}(ht:T[i]?=some (p,d)):∃o,ops[i]?=some o∧o.op=p∧o.dst=d:=by
 rw[←h] at ht;simp only[List.getElem?_map,cp,Array.getElem?_toList] at ht;obtain⟨o,ho,e⟩:=ht;exact⟨o,ho,congrArg Prod.fst e,congrArg Prod.snd e⟩
section
variable {x:OpX} {E:Value} {w0:World} {ops:Array Oper} {i:Nat} {o:Oper} {listed:Array Bool} {a:Act} {w:World} {Q:Exit→Act→World→Prop} {K:Act→World→Prop}
theorem OpC.came(c:OpC x E w0 ops i o listed a w){j:Nat}(hm:(i,j)∈opW):listed.getD j false=true:=
 so (List.all_eq_true.1 c.hwt (i,j) hm) c.ho c.hall
theorem OpC.dep(c:OpC x E w0 ops i o listed a w){j d:Nat}{p:Op}(hm:(i,j)∈opW)(ht:opT[j]?=some (p,some d)):∃v,a.tmps[d]?=some v∧opG x j v w:=by
 obtain⟨o',ho',_,hd⟩:=mN c.htab ht;exact⟨_,ox hd (by rw[c.hn];exact((iP c.hok ho').2.2 d hd).1),c.hg j o' ho' (c.came hm)⟩
theorem OpC.value(c:OpC x E w0 ops i o listed a w){d:Nat}{v:Value}{w':World}(hd:o.dst=some d)(hd':d≠1∧d≠2∧d≠3∧d≠7)(hi:i≠0∧∀p∈opL,p.1≠i)
  (hr:(execOp a.eval o).run Tryz.prog w=.ok (.value v) w') (hb:Below w.heap.size w w') (hv:opG x i v w')
  (hK:HKt x E w0 o listed a w K i):Oper.wp Tryz.prog o a w K Q:=by
 refine jS hr (hK v w' ?_ (jo x hb) (mM x c.hB ?_ hi hb))
 ·rw[hd];exact hv
 ·rw[hd];simpa using hd'
theorem OpC.enter(c:OpC x E w0 ops i o listed a w){d:Nat}{f:FuncId}{args:Array Value}(hd:o.dst=some d)(hd':d≠1∧d≠2∧d≠3∧d≠7)(hi:i≠0∧∀p∈opL,p.1≠i)
  (hr:(execOp a.eval o).run Tryz.prog w=.ok (.enter f args) w) (hv:Calls Tryz.prog f args w fun e w'=>(∃v,e=.returned v∧opG x i v w')∧Below w.heap.size w w')
  (hK:HKt x E w0 o listed a w K i):Oper.wp Tryz.prog o a w K Q:=by
 refine sj hr (hv.mono ?_);rintro e w' ⟨⟨v,rfl,hv⟩,hb⟩;refine⟨v,rfl,hK v w' ?_ (jo x hb) (mM x c.hB ?_ hi hb)⟩
 ·rw[hd];exact hv
 ·rw[hd];simpa using hd'
end
theorem gj{P:Program}{ρ:Operand→Value}{o:Oper}{y:Operand}{v:Value}{w:World}(h:o.op=.move y)(hv:ρ y=v):(execOp ρ o).run P w=.ok (.value v) w:=by
 unfold execOp;rw[h,←hv];rfl
theorem nO{P:Program}{ρ:Operand→Value}{o:Oper}{y:Operand}{v:Value}{w:World}(h:o.op=.assign y)(hv:ρ y=v):(execOp ρ o).run P w=.ok (.value v) w:=by
 unfold execOp;rw[h,←hv];rfl
theorem rr{P:Program}{ρ:Operand→Value}{o:Oper}{fn:Fn}{y:Operand}{v:Value}{w:World}(h:o.op=.makeFunc fn #[] #[y])(hv:ρ y=v):(execOp ρ o).run P w=.ok (.value (.func fn #[] #[v])) w:=by
 have hmf:∀(fn:Fn) (first cap:Array Value) (w:World),(Instr.makeFunc fn first cap).run P w=.ok (.func fn first cap) w:=fun _ _ _ _=>rfl
 obtain⟨dst,op,ty,pos,after,guard⟩:=o;simp only at h;subst h;subst hv;go_simp
theorem qx{ρ:Operand→Value}{o:Oper}{y:Operand}{M k:Nat}{w:World}(hk:k∈[1,2,13,14,19,20])(h:o.op=.fieldAddr 28 y k)(hv:ρ y=.pointer (some ⟨M,0,none⟩)):(execOp ρ o).run Tryz.prog w=.ok (.value (.pointer (some ⟨M,k,none⟩))) w:=by
 obtain⟨dst,op,ty,pos,after,guard⟩:=o;simp only at h;subst h;simp only[aY,aZ,or_false] at hk;rcases hk with rfl|rfl|rfl|rfl|rfl|rfl<;>go_simp
theorem ry{ρ:Operand→Value}{o:Oper}{y:Operand}{M k:Nat}{t:TypeId}{v:Value}{w:World}(ht:t=9∨t=24∨t=25∨t=3)(h:o.op=.load t y)(hv:ρ y=.pointer (some ⟨M,k,none⟩))(hc:w.cell? ⟨M,k,none⟩=some v):(execOp ρ o).run Tryz.prog w=.ok (.value v) w:=by
 obtain⟨dst,op,ty,pos,after,guard⟩:=o;simp only at h;subst h;rcases ht with rfl|rfl|rfl|rfl<;>go_simp
theorem dg{P:Program}{ρ:Operand→Value}{o:Oper}{y z:Operand}{t:TypeId}{f:FuncId}{cap:Array Value}{v:Value}{w:World}(h:o.op=.call {callee:=.value y,args:=#[z],argTypes:=#[t]})(hf:ρ y=.func (.func f) #[] cap)(hv:ρ z=v)(hc:∀args:Array Value,(callFunc f args).run P w=.ok (.enter f args) w):(execOp ρ o).run P w=.ok (.enter f (#[v]++cap)) w:=by
 obtain⟨dst,op,ty,pos,after,guard⟩:=o;simp only at h;subst h;subst hv;go_simp
theorem cI(f:FuncId)(hf:f∈[74,121,122,114,76])(args:Array Value)(w:World):(callFunc f args).run Tryz.prog w=.ok (.enter f args) w:=by
 simp only[aY,aZ,or_false] at hf;rcases hf with rfl|rfl|rfl|rfl|rfl<;>go_simp
theorem fZ{ρ:Operand→Value}{o:Oper}{y z:Operand}{e1 e2:El}{a1 a2:Option Addr}{n1 n2 c1 c2:Nat}{w:World}(h:o.op=.buildSlice 43 2 #[(0,y),(1,z)])(hy:ρ y=.agg (elA e1 (.slice a1 n1 c1)))(hz:ρ z=.agg (elA e2 (.slice a2 n2 c2))):
  (execOp ρ o).run Tryz.prog w=.ok (.value (.slice (some ⟨w.heap.size,0,none⟩) 2 2)) (w.alloc (.cells #[.int .i64 e1.cls,.int .i64 e1.tag,.bool e1.cons,.string ⟨e1.bytes.toArray⟩,.slice a1 n1 c1,.int .i64 e2.cls,.int .i64 e2.tag,.bool e2.cons,.string ⟨e2.bytes.toArray⟩,.slice a2 n2 c2] 45)):=by
 obtain⟨dst,op,ty,pos,after,guard⟩:=o;simp only at h;subst h;simp only[elA] at hy hz;go_simp
end Go.Proofs.YthjaiigijbjloaaGreatDoor
