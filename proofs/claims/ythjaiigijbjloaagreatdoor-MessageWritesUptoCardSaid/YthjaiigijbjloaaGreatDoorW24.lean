/- RdE, RdF, AlvX, LawWr, OpenMsg. -/
import Derived.Deep.SlicePairs
import Derived.Deep.Strs
import Derived.Lib.SmallJoins
import Derived.Test.YthjaiigijbjloaaGreatDoorW23
namespace Go.Proofs.YthjaiigijbjloaaGreatDoor
open Go.RowKit Go.Lib
open Go.Shelf Go.ChangeShapes Go.WideShapes Go.ChangeAt Go.RowKit Go.Lib
set_option maxRecDepth 100000
set_option maxHeartbeats 16000000
theorem lh(S:List UInt8)(hl:S.length≤1000000)(w:World)(d:Nat)(cc:Int)(hc:(bt S).2.2=cc)(hc0:cc≠0):
  Calls Tryz.prog 56 #[.string ⟨S.toArray⟩,.int .i64 (d:Int)] w fun e w'=>e=.panicked [{v:=fu cc,recovered:=false}]∧Below w.heap.size w w':=by
 have b1:=alb w Ze 45;have kh:=gG S (by omega) (w.alloc (.cells Ze 45));unfold BZ at kh;obtain⟨n,m,c,hh⟩:∃n m c,bt S=(n,m,c):=⟨_,_,_,rfl⟩;rw[hh] at hc;simp only at hc;subst hc;have f0:(c==0)=false:=aE hc0;have f1:(c !=0)=true:=by simp only[bne,f0];rfl
 rw[hh] at kh;simp only at kh;have HH:=hid hh;clear hh;unfold fu
 go_enter Tryz.func56,Tryz.ntmps56
 go_wp2_with fail
 refine ag kh ?_;rintro e w2 ⟨rfl,q,rfl⟩;have b2:=fU b1 q;clear kh b1;generalize(w.alloc (.cells Ze 45)).drewN q=w2 at b2⊢
 go_wp2_with fail
 exact⟨rfl,rfl,b2⟩
theorem Ai(S:List UInt8)(hl:S.length≤1000000)(w:World)(hc:(bt S).2.2=0):
  Calls Tryz.prog 56 #[.string ⟨S.toArray⟩,.int .i64 20] w fun e w'=>e=.panicked [{v:=fu (23),recovered:=false}]∧Below w.heap.size w w':=by
 have b1:=alb w Ze 45;have kh:=gG S (by omega) (w.alloc (.cells Ze 45));unfold BZ at kh;obtain⟨n,m,c,hh⟩:∃n m c,bt S=(n,m,c):=⟨_,_,_,rfl⟩;rw[hh] at hc;simp only at hc;subst hc;rw[hh] at kh;simp only at kh;have HH:=hid hh;clear hh;unfold fu
 go_enter Tryz.func56,Tryz.ntmps56
 go_wp2_with fail
 refine ag kh ?_;rintro e w2 ⟨rfl,q,rfl⟩;have b2:=fU b1 q;clear kh b1;generalize(w.alloc (.cells Ze 45)).drewN q=w2 at b2⊢
 go_wp2_with fail
 exact⟨rfl,rfl,b2⟩
theorem ny(S:List UInt8)(hl:S.length≤1000000)(w:World)(d:Nat)(hd:d<20)(hc:(bt S).2.2=0)(hs:S.length<(bt S).1+(bt S).2.1):
  Calls Tryz.prog 56 #[.string ⟨S.toArray⟩,.int .i64 (d:Int)] w fun e w'=>e=.panicked [{v:=fu (20),recovered:=false}]∧Below w.heap.size w w':=by
 have b1:=alb w Ze 45;have kh:=gG S (by omega) (w.alloc (.cells Ze 45));unfold BZ at kh;obtain⟨n,m,c,hh⟩:∃n m c,bt S=(n,m,c):=⟨_,_,_,rfl⟩;have hb:=jL S;rw[hh] at hc hs hb;simp only at hc hs hb;subst hc;have f1:decide ((d:Int)≥20)=false:=an (by omega);have f2:decide ((20:Int)≤(d:Int))=false:=an (by omega);have hwn:IntKind.i64.wrap ((n:Int)+(m:Int))=(n:Int)+(m:Int):=by rw[aK];omega
 have f3:decide ((S.length:Int)<(n:Int)+(m:Int))=true:=aL (by omega);rw[hh] at kh;simp only at kh;have HH:=hid hh;clear hh;unfold fu
 go_enter Tryz.func56,Tryz.ntmps56
 go_wp2_with fail
 refine ag kh ?_;rintro e w2 ⟨rfl,q,rfl⟩;have b2:=fU b1 q;clear kh b1;generalize(w.alloc (.cells Ze 45)).drewN q=w2 at b2⊢
 go_wp2_with fail
 exact⟨rfl,rfl,b2⟩
theorem rI(S:List UInt8)(n m:Nat)(hh:bt S=(n,m,0))(hl:n+m≤S.length):
  ∃b0 r0 c rest,S=(b0::r0)++(c++rest)∧r0.length+1=n∧c.length=m∧c=(S.drop n).take m∧rest=S.drop (n+m)∧S.headD 0=b0:=by
 have h2:=mh S (by rw[hh]);rw[hh] at h2;simp only at h2;cases S with
 |nil=>simp[bt] at hh
 |cons b0 t=>
  obtain⟨n,rfl⟩:∃k,n=k+1:=⟨n -1,by omega⟩;simp only[aG] at hl;refine⟨b0,t.take n,(t.drop n).take m,t.drop (n+m),?_,by simp;omega,by simp;omega,by simp,?_,rfl⟩
  ·rw[List.cons_append]
   congr 1
   rw[←List.drop_drop,List.take_append_drop,List.take_append_drop]
  ·rw[show n+1+m=(n+m)+1 by omega,List.drop_succ_cons]
theorem gn:∀(k:Nat),k≤20→∀(b:List UInt8) (w:World),b.length≤1000000→Calls Tryz.prog 56 #[.string ⟨b.toArray⟩,.int .i64 ((20 -k:Nat):Int)] w (RdP w k b)
 |0,_,b,w,hl=>by
  unfold RdP
  by_cases h0:(bt b).2.2=0
  ·have e:bP 0 b=.error 23:=by unfold bP;rw[if_pos h0]
   rw[e];exact Ai b hl w h0
  ·have e:bP 0 b=.error (bt b).2.2:=by unfold bP;rw[if_neg h0]
   rw[e];exact lh b hl w 20 _ rfl h0
 |k+1,hk,b,w,hl=>by
  unfold RdP;have hd:20 -(k+1)=19 -k:=by omega
  rw[hd]
  by_cases h0:(bt b).2.2=0
  ·by_cases h1:b.length<(bt b).1+(bt b).2.1
   ·have e:bP (k+1) b=.error 20:=by unfold bP;rw[if_pos h0,if_pos h1]
    rw[e];exact ny b hl w (19 -k) (by omega) h0 h1
   ·obtain⟨n,m,c,hh⟩:∃n m c,bt b=(n,m,c):=⟨_,_,_,rfl⟩
    have hb:=jL b;have hb6:=pW b;have e:bP (k+1) b=(if(b.headD 0).toNat/32% 2=0 then .ok (.mk (((b.headD 0).toNat/64:Nat):Int) (((b.headD 0).toNat% 32:Nat):Int) false ((b.drop n).take m) [],b.drop (n+m))
      else match ss (bP k) ((b.drop n).take m).length ((b.drop n).take m) with
       | .error e=>.error e
       | .ok ks=>.ok (.mk (((b.headD 0).toNat/64:Nat):Int) (((b.headD 0).toNat% 32:Nat):Int) true [] ks,b.drop (n+m))):=by
     rw[hh] at h0 h1;simp only at h0 h1;unfold bP;rw[hh];simp only[h0,h1,if_true,if_false]
     try rfl
    rw[hh] at h0 h1 hb hb6;simp only at h0 h1 hb hb6;subst h0;obtain⟨b0,r0,cc,rest,hS,hn,hm,hc,hr,h8⟩:=rI b n m hh (by omega);have hrl:rest.length≤900000000:=by rw[hr];simp;omega
    rw[e,←hc,←hr,h8]
    by_cases hp:b0.toNat/32% 2=0
    ·rw[if_pos hp]
     refine(nu n m b0 r0 cc rest b hS hn hm hh (by omega) (by omega) hp hrl (19 -k) (by omega) w).mono ?_;rintro e w' ⟨rfl,hb'⟩;exact⟨⟨_,rfl,bf.nil _ _⟩,hb'⟩
    ·rw[if_neg hp]
     exact nw k (fun b w hl=>by
      have h:=gn k (by omega) b w hl;exact h) (by omega) n m b0 r0 cc rest b hS hn hm hh (by omega) (by omega) (by omega) hrl w _ rfl
  ·have e:bP (k+1) b=.error (bt b).2.2:=by unfold bP;rw[if_neg h0]
   rw[e];exact lh b hl w (19 -k) _ rfl h0
theorem kP(b:List UInt8)(el:El)(h:bP 20 b=.ok (el,[]))(hl:b.length≤1000000)(w:World):
  Calls Tryz.prog 20 #[.string ⟨b.toArray⟩] w fun e w'=>(∃u,e=.returned (.tuple #[.agg (elA el u),I0])∧bf (fun g=>w.heap.size≤g) w' u el.kids)∧Below w.heap.size w w':=by
 have hmf:∀(fn:Fn) (first cap:Array Value) (w:World),(Instr.makeFunc fn first cap).run Tryz.prog w=.ok (.func fn first cap) w:=fun _ _ _ _=>rfl
 obtain⟨PR,hPR⟩:∃PR:Ending→World→Prop,PR=fun e w'=>(∃u,e=.returned (.tuple #[.agg (elA el u),I0])∧bf (fun g=>w.heap.size≤g) w' u el.kids)∧Below w.heap.size w w':=⟨_,rfl⟩
 rw[←hPR];have HP:=hid hPR;clear hPR;have bA:Below w.heap.size w ((w.alloc (.cells Ze 45)).alloc (.cells #[I0] 32)):=((ar _ _).alloc (ah _) _).alloc (by simp) _;have rA:((w.alloc (.cells Ze 45)).alloc (.cells #[I0] 32)).heap[w.heap.size]?=some (.cells Ze 45 (0,0)):=(alloc_old _ _ _ (by simp)).trans (bi _ _ _ rfl);have nA:((w.alloc (.cells Ze 45)).alloc (.cells #[I0] 32)).heap[w.heap.size+1]?=some (.cells #[I0] 32 (0,0)):=bi _ _ _ (by simp);have kr:∀w,Calls Tryz.prog 56 #[.string ⟨b.toArray⟩,I0] w fun e w'=>(∃u,e=.returned (.tuple #[.agg (elA el u),Es])∧bf (fun g=>w.heap.size≤g) w' u el.kids)∧Below w.heap.size w w':=fun w=>by
  have h9:=gn 20 (ah _) b w hl;unfold RdP RdQ at h9;rw[h] at h9;exact h9
 clear h hl
 go_enter_defers Tryz.func20,Tryz.ntmps20
 go_wp2_with fail
 generalize(w.alloc (.cells Ze 45)).alloc (.cells #[I0] 32)=wA at bA rA nA⊢;refine ag (show Calls _ _ _ _ _ from kr wA) ?_;rintro e w1 ⟨⟨u,rfl,hu⟩,hb1⟩;obtain⟨a2,c2,hf2⟩:=hu.shape;subst hf2;have r1:=bkk hb1 rA;have n1:=bkk hb1 nA;have b1:=btt bA hb1;clear kr hb1 bA rA;have m1:=alb w1 (Er el a2 c2) 45;have hltn:=(gl n1);have r2:=bkk m1 r1;have n2:=(m1.block _ hltn).trans n1;have b2:=btt b1 m1;have hA2:w.heap.size+2≤wA.heap.size:=(gl nA);have r3:=setRow_heap (w1.alloc (.cells (Er el a2 c2) 45)) w.heap.size _ (Er el a2 c2) _ _ r2;have n3:=(setRow_other (w1.alloc (.cells (Er el a2 c2) 45)) w.heap.size (w.heap.size+1) (Er el a2 c2) (by omega)).trans n2;have b3:=bm b2 (g:=w.heap.size) (ah _) (Er el a2 c2);have u3:bf (fun g=>w.heap.size+2≤g) ((w1.alloc (.cells (Er el a2 c2) 45)).setRow w.heap.size (Er el a2 c2)) (.slice a2 el.kids.length c2) el.kids:=(hu.below m1).kept fun g hg _=>⟨setRow_other _ _ _ _ (by omega),by omega⟩
 obtain⟨HU,HR,HN,HB⟩:=Ci u3 r3 n3 b3;clear hu r1 n1 b1 m1 n2 b2 r3 n3 b3 u3 nA;unfold elA
 go_wp2_with (refine bh rfl 45 (.tmp 2) (.tmp 15) rfl w.heap.size 45 _ (Er el a2 c2) (by rfl) (by rfl) r2 (by rfl) (by rfl) (by simp[Value.oneCell']) ?_;clear r2;generalize(w1.alloc (.cells (Er el a2 c2) 45)).setRow w.heap.size (Er el a2 c2)=w3 at HU HR HN HB⊢;have q3:=cval HN.out 0 I0;have z3:=aj HN.out 0)
 have f1:(w3.setCell ⟨w.heap.size+1,0,none⟩ (I0)).heap[w.heap.size]?=some (.cells (Er el a2 c2) 45 (0,0)):=(aX w3 ⟨w.heap.size+1,0,none⟩ (I0) w.heap.size (by show w.heap.size≠w.heap.size+1;omega)).trans HR.out;have f2:(w3.setCell ⟨w.heap.size+1,0,none⟩ (I0)).cell? ⟨w.heap.size+1,0,none⟩=some (I0):=(ap (show(w3.setCell ⟨w.heap.size+1,0,none⟩ (I0)).heap[w.heap.size+1]?=some (.cells #[I0] 32 (0,0)) from bw (i:=0) (u:=I0) HN.out) 0).trans rfl;have bF:=HB.out.setCell (p:=⟨w.heap.size+1,0,none⟩) (by show w.heap.size≤w.heap.size+1;omega) (I0);have uF:bf (fun g=>w.heap.size≤g) (w3.setCell ⟨w.heap.size+1,0,none⟩ (I0)) (.slice a2 el.kids.length c2) el.kids:=HU.out.kept fun g hg _=>⟨aX w3 ⟨w.heap.size+1,0,none⟩ _ g (by show g≠w.heap.size+1;omega),by omega⟩
 clear HU HR HN HB;generalize w3.setCell ⟨w.heap.size+1,0,none⟩ (I0)=wF at f1 f2 bF uF⊢;refine leaves_cons (f:=55) (args:=#[.pointer (some ⟨w.heap.size,0,none⟩),.pointer (some ⟨w.heap.size+1,0,none⟩)]) (by simp) (by simp[go_sem]) ?_;refine(AO w.heap.size (w.heap.size+1) wF).mono ?_;rintro e u' w3 ⟨rfl,rfl,hw3⟩;rw[hw3];have c0:=cval f1 0 (.int .i64 el.cls);have c1:=cval f1 1 (.int .i64 el.tag);have c2':=cval f1 2 (.bool el.cons);have c3:=cval f1 3 (.string ⟨el.bytes.toArray⟩);have c4:=cval f1 4 (.slice a2 el.kids.length c2)
 simp[Leaves,settle,results,Tryz.results20,go_sem,c0,c1,c2',c3,c4,f2]
 rw[HP.out];exact⟨⟨_,rfl,uF⟩,bF⟩
theorem MgM.nil(w:World)(m:Mg)(h1:m.filt=Sn)(h2:m.sel=Sn)(h3:m.mods=Sn)(h4:m.attrs=Sn)(h5:m.ctl=Sn):MgM w m {}:=
 ⟨⟨none,0,h1,by simp,fun h=>absurd rfl h⟩,⟨none,0,h2,by simp,fun h=>absurd rfl h⟩,⟨none,0,h3,by simp,fun h=>absurd rfl h⟩,⟨none,0,h4,by simp,fun h=>absurd rfl h⟩,⟨none,0,h5,by simp,fun h=>absurd rfl h⟩⟩
theorem LsOk.nil(m:Mg)(h1:m.dn.length≤100000000)(h2:m.secret.length≤100000000)(h3:m.newRdn=[])(h4:m.newSup=[])(h5:m.typ=[])(h6:m.value=[])(h7:m.oid=[])(h8:m.matched=[])(h9:m.text=[]):LsOk m {}:=
 ⟨h1,h2,by simp[h3],by simp[h4],by simp[h5],by simp[h6],by simp[h7],by simp[h8],by simp[h9],⟨by simp,by simp⟩,by simp,by simp,by simp,by simp,⟨by simp,by simp⟩,by simp,by simp⟩
theorem nL(w:World)(hE:Env w):Cr 12 #[.agg (Mg.row {id:=2,op:=0,ver:=3,secret:=[115]})] w (.tuple #[.string ⟨#[48,13,2,1,2,96,8,2,1,3,4,0,128,1,115]⟩,I0]):=by
 have h:cR {id:=2,op:=0,ver:=3,secret:=[115]} {}=([48,13,2,1,2,96,8,2,1,3,4,0,128,1,115],0):=by decide
 have k:=fa {id:=2,op:=0,ver:=3,secret:=[115]} {} w (MgM.nil w _ rfl rfl rfl rfl rfl) (LsOk.nil _ (by simp) (by simp) rfl rfl rfl rfl rfl rfl rfl) hE;rw[h] at k;exact k
theorem Aj(n:Int)(dn:List UInt8)(h0:0≤n)(h1:n≤2147483647)(w:World):
  Cr 14 #[.agg (pb n 10 dn)] w (.bool true):=by
 have h:bH {id:=n,op:=10,dn:=dn} {}=true:=by
  simp[bH,br,bB,bo,wJ,iB,iy,iz,gQ,wQ,h0,h1]
 have k:=gR {id:=n,op:=10,dn:=dn} {} w (MgM.nil w _ rfl rfl rfl rfl rfl) (by simp) (by simp) (fun h=>by cases h);rw[h] at k;exact k
theorem AI(b:List UInt8)(n:Nat)(hn:n≤127)(dn:List UInt8)(hd:dn.length≤1000000)(hr:bP 20 b=.ok (wl n dn,[]))(hl:b.length≤1000000)(w:World):
  Cr 17 #[.string ⟨b.toArray⟩] w (.tuple #[.agg (pb n 10 dn),I0]):=by
 have hmf:∀(fn:Fn) (first cap:Array Value) (w:World),(Instr.makeFunc fn first cap).run Tryz.prog w=.ok (.func fn first cap) w:=fun _ _ _ _=>rfl
 have kv:=fun w=>hid (Aj n dn (by omega) (by omega) w)
 have kd:=fun A M hAM u w h1 h2 h3=>yU n hn dn hd A M hAM u w h1 h2 h3
 obtain⟨F,hF⟩:=nmm (pb (n:Int) 10 dn);rw[hF] at kv kd⊢;have KD:=hid kd;clear kd;have hF1:F.all (·.oneCell')=true:=by rw[←hF];simp[pb,Value.oneCell']
 have hF2:F.size=28:=by rw[←hF];rfl
 obtain⟨HF1,HF2⟩:=Cg hF1 hF2;clear hF hF1 hF2;have t1:(w.alloc (.cells Zm 28)).heap[w.heap.size]?=some (.cells (pb 0 0 []) 28 (0,0)):=bi _ _ _ rfl;have b1:=alb w Zm 28;have kr:=kP b (wl n dn) hr hl (w.alloc (.cells Zm 28));clear hr hl
 go_enter Tryz.func17,Tryz.ntmps17
 go_wp2_with fail
 generalize w.alloc (.cells Zm 28)=w1 at t1 b1 kr⊢;refine ag kr ?_;rintro e w2 ⟨⟨u,rfl,hu⟩,hb2⟩;have t2:=bkk hb2 t1;have b2:=btt b1 hb2;have hs1:=b1.size;clear kr hb2 t1 b1;obtain⟨a,c,hsl⟩:=hu.shape;subst hsl;obtain⟨E,hE⟩:=nmm (elA (wl n dn) (.slice a (wl n dn).kids.length c));have hE1:E.all (·.oneCell')=true:=by rw[←hE];simp[elA,Value.oneCell']
 have hE2:E.size=5:=by rw[←hE];rfl
 rw[hE];have x3:=alz w2 Ze 45;have g3:Below w2.heap.size w2 ((w2.alloc (.cells Ze 45)).setRow w2.heap.size E):=bm ((ar _ _).alloc (ah _) _) (ah _) E;have e3:=setRow_heap (w2.alloc (.cells Ze 45)) w2.heap.size _ E _ _ x3;obtain⟨HE,HE1,HE2,X3⟩:=Ci hE hE1 hE2 x3;have hs2:=b2.size;clear hE hE1 hE2 x3;have u3:=hid (hu.below g3);have t3:=bkk g3 t2;have b3:=btt b2 g3;have ht:=(gl t2);clear t2 b2 hu g3
 go_wp2_with (refine bh rfl 45 (.tmp 4) (.tmp 10) rfl w2.heap.size 45 _ E (by rfl) (by rfl) X3.out (by rw[HE2.out];rfl) (by rw[HE2.out];rfl) HE1.out ?_)
 have m4:(((w2.alloc (.cells Ze 45)).setRow w2.heap.size E).alloc (.cells Zm 28)).heap[w2.heap.size+1]?=some (.cells (pb 0 0 []) 28 (0,0)):=bi _ _ _ (by simp[World.setRow]);have g4:=(ar ((w2.alloc (.cells Ze 45)).setRow w2.heap.size E).heap.size ((w2.alloc (.cells Ze 45)).setRow w2.heap.size E)).alloc (ah _) (.cells Zm 28);have b4:=btt b3 g4;have e4:=bkk g4 e3;have t4:=bkk g4 t3;have u4:=u3.out.below g4;clear b3 e3 t3 u3 X3 g4;generalize((w2.alloc (.cells Ze 45)).setRow w2.heap.size E).alloc (.cells Zm 28)=w4 at m4 b4 e4 t4 u4⊢;rw[←HE.out] at e4;have kk:=KD.out w2.heap.size (w2.heap.size+1) (by omega) (.slice a (wl n dn).kids.length c) w4 e4 m4 (u4.kept fun g hg hl=>⟨rfl,trivial⟩);refine ag kk ?_;rintro e w5 ⟨rfl,m5,hR5⟩;have t5:=(hR5.block _ (gl t4) (by omega)).trans t4;have hm4:=(gl m4);have b5:Below w.heap.size w w5:=b4.trans ((hR5.mono b4.size).below (by omega));clear kk m4 b4 e4 t4 u4 hR5;have kw:=(kv w5).out
 go_wp2_with (refine bQ (by rfl) 28 (.tmp 6) rfl (w2.heap.size+1) 28 _ (0,0) (by rfl) m5 _ Tryz.underlying28 rfl (by rw[HF2.out];rfl) ?_)
 refine ag kw ?_;rintro e w6 ⟨rfl,hb6⟩;have t6:=bkk hb6 t5;have m6:=bkk hb6 m5;have b6:=btt b5 hb6;clear kw hb6 t5 m5 b5;have b7:=bm b6 (g:=w.heap.size) (ah _) F;have t7:=setRow_heap w6 w.heap.size _ F _ _ t6
 go_wp2_with (first
  |(refine bg rfl 28 (.tmp 6) rfl (w2.heap.size+1) 28 _ (0,0) (by rfl) m6 _ Tryz.underlying28 rfl (by rw[HF2.out];rfl) ?_)
  |(refine bh rfl 28 (.tmp 2) (.tmp 25) rfl w.heap.size 28 _ F (by rfl) (by rfl) t6 (by rw[HF2.out];rfl) (by rw[HF2.out];rfl) HF1.out ?_))
 generalize w6.setRow w.heap.size F=w7 at b7 t7⊢;refine aH (v:=.tuple #[.agg F,I0]) ?_ rfl ⟨rfl,b7⟩;have hr:=aJ (P:=Tryz.prog) w7 w.heap.size 28 28 F (0,0) _ t7 (show Tryz.prog.underlying 28=_ from Tryz.underlying28) (by rfl) (by rw[HF2.out];rfl)
 simp[results,Tryz.f17]
 show((Sem.run Tryz.prog (loadVar 28 ⟨w.heap.size,0,none⟩) w7).andThen fun a w'=>Result.ok (Value.tuple #[a,I0]) w')=_;rw[hr]
 simp
theorem Ak(w:World):Calls Tryz.prog 17 #[.string ⟨#[48,9,2,1,1,74,4,100,99,61,122]⟩] w fun e w'=>e=.returned (.tuple #[.agg (pb 1 10 [100,99,61,122]),I0])∧Below w.heap.size w w':=
 AI [48,9,2,1,1,74,4,100,99,61,122] 1 (by omega) [100,99,61,122] (by simp) (by rfl) (by simp) w
theorem fg(w:World)(hE:Env w):Cr 10 #[] w (.bool true):=by
 have k1:=nL w hE;clear hE;obtain⟨D,hD⟩:=nmm (pb 1 10 [100,99,61,122]);have hD1:D.all (·.oneCell')=true:=by rw[←hD];simp[pb,Value.oneCell']
 have hD2:D.size=28:=by rw[←hD];rfl
 obtain⟨HD,HD1,HD2⟩:=Ch hD hD1 hD2;clear hD hD1 hD2
 go_enter Tryz.func10,Tryz.ntmps10
 go_wp2_with fail
 refine ag k1 ?_;rintro e w1 ⟨rfl,b1⟩;clear k1;have k2:=Ak w1;rw[HD.out] at k2
 go_wp2_with fail
 refine ag k2 ?_;rintro e w2 ⟨rfl,hb⟩;have b2:=btt b1 hb;clear k2 hb b1;have x3:=alz w2 Zm 28;have b3:Below w.heap.size w ((w2.alloc (.cells Zm 28)).setRow w2.heap.size D):=bm (b2.alloc b2.size _) b2.size D;have e3:=setRow_heap (w2.alloc (.cells Zm 28)) w2.heap.size _ D _ _ x3;have X3:=hid x3;have q1:((w2.alloc (.cells Zm 28)).setRow w2.heap.size D).cell? ⟨w2.heap.size,1,none⟩=some (.int .i64 10):=(ap e3 1).trans (by rw[←HD.out];rfl);have q2:((w2.alloc (.cells Zm 28)).setRow w2.heap.size D).cell? ⟨w2.heap.size,2,none⟩=some (.string ⟨#[100,99,61,122]⟩):=(ap e3 2).trans (by rw[←HD.out];rfl);obtain⟨Q1,Q2⟩:=Cg q1 q2;clear q1 q2;have B3:=hid b3;clear x3 b2 b3 e3
 go_wp2_with (refine bh rfl 28 (.tmp 3) (.tmp 12) rfl w2.heap.size 28 Zm D (by rfl) (by rfl) X3.out (by rw[HD2.out];rfl) (by rw[HD2.out];rfl) HD1.out ?_;have q1:=Q1.out;have q2:=Q2.out;generalize((w2.alloc (.cells Zm 28)).setRow w2.heap.size D)=w4 at q1 q2 B3⊢;clear Q1 Q2 X3)
 go_ret
 exact⟨rfl,B3.out⟩
theorem ql{w w':World}{g:Nat}{x:Obj}(h:Below w.heap.size w w')(hx:w.heap[g]?=some x):w'.heap[g]?=some x:=(h.block g (gl hx)).trans hx
def Mg.plM(m:Mg):Mg:={m with filt:=Sn,sel:=Sn,mods:=Sn,attrs:=Sn,ctl:=Sn}
theorem AJ(m:Mg):(bo m.plM).plM=(bo m).plM:=by
 have key:∀(p:Prop) [Decidable p] (a b c d:Mg),a.plM=c.plM→b.plM=d.plM→(if p then a else b).plM=(if p then c else d).plM:=fun p _ a b c d h1 h2=>by split<;>assumption
 unfold bo
 repeat' (first|apply key|rfl)
theorem yt(m:Mg)(l:Ls):bH m.plM l=bH m l:=by
 have h:wJ (bo m.plM) m.plM=wJ (bo m) m:=by
  have:=AJ m;have e1:∀a b:Mg,wJ a b=wJ a.plM b.plM:=fun _ _=>rfl
  rw[e1,this,←e1 (bo m) m.plM]
  rfl
 unfold bH;rw[h]
 rfl
theorem zk{m n:Mg}(l:Ls)(h:n={m with filt:=n.filt,sel:=n.sel,mods:=n.mods,attrs:=n.attrs,ctl:=n.ctl}):bH n l=bH m l:=by
 have:n.plM=m.plM:=by rw[h];rfl
 rw[←yt n,this,yt]
theorem Bg{w:World}{m:Mg}{l:Ls}(h:MgM w m l):m.row.all (·.oneCell')=true:=by
 obtain⟨a1,c1,e1⟩:=h.filt.shape;obtain⟨a2,c2,e2,-,-⟩:=h.sel;obtain⟨a3,c3,e3,-,-⟩:=h.mods;obtain⟨a4,c4,e4,-,-⟩:=h.attrs;obtain⟨a5,c5,e5,-,-⟩:=h.ctl
 simp[Mg.row,e1,e2,e3,e4,e5,Value.oneCell']
theorem Al{m n:Mg}(l:Ls)(h:n={m with filt:=n.filt,sel:=n.sel,mods:=n.mods,attrs:=n.attrs,ctl:=n.ctl}):wm n l=wm m l:=by rw[h];rfl
theorem AK{m n:Mg}(l:Ls)(h:n={m with filt:=n.filt,sel:=n.sel,mods:=n.mods,attrs:=n.attrs,ctl:=n.ctl}):cR n l=cR m l:=by
 unfold cR;rw[zk l h,Al l h]
theorem LsOk.lists{m n:Mg}{l:Ls}(hk:LsOk m l)(h:n={m with filt:=n.filt,sel:=n.sel,mods:=n.mods,attrs:=n.attrs,ctl:=n.ctl}):LsOk n l:=by
 rw[h];exact⟨hk.dn,hk.secret,hk.newRdn,hk.newSup,hk.typ,hk.value,hk.oid,hk.matched,hk.text,hk.filt,hk.sel,hk.sels,hk.mods,hk.modss,hk.attrs,hk.ctl,hk.ctls⟩
theorem zl(m:Mg)(l:Ls)(hl:ej l=false)(w:World)(hm:MgM w m l)(_:LsOk m l)(hE:Env w):
  Cr 3 #[.agg m.row] w (.bool true):=by
 obtain⟨B,hB⟩:=nmm m.row;have hsz:B.size=28:=by rw[←hB];rfl
 have b:=alb w B 28;have r:=alz w B 28;obtain⟨KL,KA⟩:=Cg (show ∀w',Below w.heap.size w w'→Calls Tryz.prog 9 #[.agg B] w' fun e w''=>e=.returned (.bool (ej l))∧Below w'.heap.size w' w'' from fun w' hb=>by rw[←hB];exact yr m l w' (hm.below hb)) (show ∀w',Below w.heap.size w w'→Calls Tryz.prog 10 #[] w' fun e w''=>e=.returned (.bool true)∧Below w'.heap.size w' w'' from fun w' hb=>by exact fg w' (hE.below hb));rw[hB];rw[hl] at KL;obtain⟨HZ,HB,HM⟩:=Ch hsz hB hm;clear hB hsz hm hE hl
 go_enter Tryz.func3,Tryz.ntmps3
 go_upto_region 1 with fail
 generalize w.alloc (.cells B 28)=w1 at b r⊢;have kc:=KL.out w1 b
 go_wp2_with (refine bg rfl 28 (.tmp 1) rfl w.heap.size 28 _ (0,0) (by rfl) r _ Tryz.underlying28 rfl (by rw[HZ.out];rfl) ?_)
 refine ag kc ?_;rintro e w2 ⟨rfl,hb⟩;replace b:=btt b hb;replace r:=ql hb r;clear kc hb;have kc:=KA.out w2 b
 go_wp2_with fail
 refine ag kc ?_;rintro e w3 ⟨rfl,hb⟩;replace b:=btt b hb;replace r:=ql hb r;clear kc hb
 go_wp2_with fail
 go_ret
 exact⟨rfl,b⟩
theorem zn(m:Mg)(l:Ls)(hl:ej l=true)(w:World)(hm:MgM w m l)(hk:LsOk m l)(hE:Env w):
  Cr 3 #[.agg m.row] w (.bool true):=by
 obtain⟨S,hS⟩:=nmm ((cR m l).1);obtain⟨c,hc⟩:=nmm ((cR m l).2);obtain⟨V,hV⟩:=nmm (bH m l);obtain⟨B,hB⟩:=nmm m.row;have hsz:B.size=28:=by rw[←hB];rfl
 have b:=alb w B 28;have r:=alz w B 28;obtain⟨KL,KA,KN,KX,KV9,KW,KV,KS⟩:=Cx (show ∀w',Below w.heap.size w w'→Calls Tryz.prog 9 #[.agg B] w' fun e w''=>e=.returned (.bool (ej l))∧Below w'.heap.size w' w'' from fun w' hb=>by rw[←hB];exact yr m l w' (hm.below hb)) (show ∀w',Below w.heap.size w w'→Calls Tryz.prog 10 #[] w' fun e w''=>e=.returned (.bool true)∧Below w'.heap.size w' w'' from fun w' hb=>by exact fg w' (hE.below hb)) (fun W (h:Below w.heap.size w W)=>zH m l W (hm.below h) hk) (show ∀w',Below w.heap.size w w'→Calls Tryz.prog 13 #[.agg B] w' fun e w''=>e=.returned (.tuple #[.string ⟨S.toArray⟩,.int .i64 c])∧Below w'.heap.size w' w'' from fun w' hb=>by rw[←hB,←hS,←hc];exact zF m l w' (hm.below hb) hk) (show ∀w',Below w.heap.size w w'→Calls Tryz.prog 15 #[.agg B] w' fun e w''=>e=.returned (.bool V)∧Below w'.heap.size w' w'' from fun w' hb=>by rw[←hB,←hV];exact xp m l w' (hm.below hb) hk) (show ∀(n:Mg) (w':World),n={m with filt:=n.filt,sel:=n.sel,mods:=n.mods,attrs:=n.attrs,ctl:=n.ctl}→MgM w' n l→Below w.heap.size w w'→Calls Tryz.prog 12 #[.agg n.row] w' fun e w''=>e=.returned (.tuple #[.string ⟨S.toArray⟩,.int .i64 c])∧Below w'.heap.size w' w'' from fun n w' hq hn hb=>by rw[←hS,←hc,←AK l hq];exact fa n l w' hn (hk.lists hq) (hE.below hb)) (show ∀(n:Mg) (w':World),n={m with filt:=n.filt,sel:=n.sel,mods:=n.mods,attrs:=n.attrs,ctl:=n.ctl}→MgM w' n l→Below w.heap.size w w'→Calls Tryz.prog 14 #[.agg n.row] w' fun e w''=>e=.returned (.bool V)∧Below w'.heap.size w' w'' from fun n w' hq hn hb=>by rw[←hV,←zk l hq];exact gR n l w' hn (by have:=hk.mods;omega) (by have:=hk.ctl;omega) (fun _ w2 hb2=>gu l.filt n.filt w2 (hn.filt.below hb2) hk.filt ((hE.below hb).below hb2))) (show ∀(n:Mg) (D:Nat) (w':World),n={m with filt:=n.filt,sel:=n.sel,mods:=n.mods,attrs:=n.attrs,ctl:=n.ctl}→LnE D w' n l→Below w.heap.size w w'→Calls Tryz.prog 16 #[.agg n.row,.agg B] w' fun e w''=>e=.returned (.bool true)∧Below w'.heap.size w' w'' from fun n D w' hq hn hb=>by rw[←hB];exact zj D n m l w' hn (hm.below hb) hk hq);rw[hB] at KN;rw[hB];rw[hl] at KL;obtain⟨HZ,HB,HM⟩:=Ch hsz hB hm;clear hB hsz hm hk hE hl hS hc hV
 go_enter Tryz.func3,Tryz.ntmps3
 go_upto_region 1 with fail
 generalize w.alloc (.cells B 28)=w1 at b r⊢;have kc:=KL.out w1 b
 go_wp2_with (refine bg rfl 28 (.tmp 1) rfl w.heap.size 28 _ (0,0) (by rfl) r _ Tryz.underlying28 rfl (by rw[HZ.out];rfl) ?_)
 refine ag kc ?_;rintro e w2 ⟨rfl,hb⟩;replace b:=btt b hb;replace r:=ql hb r;clear kc hb;have kc:=KN.out w2 b
 go_wp2_with (refine bg rfl 28 (.tmp 1) rfl w.heap.size 28 _ (0,0) (by rfl) r _ Tryz.underlying28 rfl (by rw[HZ.out];rfl) ?_)
 refine ag kc ?_;rintro e w4 ⟨⟨n,rfl,hn,hq⟩,hb⟩;replace b:=btt b hb;replace r:=ql hb r;clear kc hb;obtain⟨F,hF⟩:=nmm (Mg.row n);obtain⟨F1,F2⟩:=Cg (show F.size=28 by rw[←hF];rfl) (show F.all (·.oneCell')=true by rw[←hF];exact Bg hn.mgm);rw[hF];have HF:=hid hF;clear hF;obtain⟨NM,HQ⟩:=Cg hn hq;clear hn hq;generalize w2.heap.size=D at NM;have bn:=ar w4.heap.size w4;have x:=hid (show(w4.alloc (.cells Zm 28)).heap[w4.heap.size]?=some (.cells Zm 28 (0,0)) from bi _ _ _ rfl);have hb:Below w4.heap.size w4 ((w4.alloc (.cells Zm 28)).setRow w4.heap.size F):=bm ((ar _ _).alloc (ah _) _) (ah _) F;have rx:=setRow_heap (w4.alloc (.cells Zm 28)) w4.heap.size _ F _ _ x.out;replace b:=btt b hb;replace bn:=btt bn hb;replace r:=ql hb r;have Hb:=hid b;clear b;have Hbn:=hid bn;clear bn;have Hr:=hid r;clear r;have Hrx:=hid rx;clear rx;clear hb
 go_upto_region 4 with(refine bh rfl 28 (.tmp 3) (.tmp 13) rfl w4.heap.size 28 _ F (by rfl) (by rfl) x.out (by rw[F1.out];rfl) (by rw[F1.out];rfl) F2.out ?_)
 have b:=Hb.out;clear Hb;have bn:=Hbn.out;clear Hbn;have r:=Hr.out;clear Hr;have rx:=Hrx.out;clear Hrx;obtain⟨X,hX⟩:=nmm w4.heap.size;generalize((w4.alloc (.cells Zm 28)).setRow w4.heap.size F)=w5 at b bn r rx⊢;rw[hX] at rx⊢;clear x hX;have kq:=KW.out n w5 HQ.out (NM.out.below bn).mgm b;rw[HF.out] at kq;have kc:=kq
 go_wp2_with (refine bg rfl 28 (.tmp 3) rfl X 28 _ (0,0) (by rfl) rx _ Tryz.underlying28 rfl (by rw[F1.out];rfl) ?_)
 refine ag kc ?_;rintro e w6 ⟨rfl,hb⟩;replace b:=btt b hb;replace bn:=btt bn hb;replace r:=ql hb r;replace rx:=ql hb rx;clear kc hb;clear kq;have kc:=KX.out w6 b
 go_wp2_with (refine bg rfl 28 (.tmp 1) rfl w.heap.size 28 _ (0,0) (by rfl) r _ Tryz.underlying28 rfl (by rw[HZ.out];rfl) ?_)
 refine ag kc ?_;rintro e w7 ⟨rfl,hb⟩;replace b:=btt b hb;replace bn:=btt bn hb;replace r:=ql hb r;replace rx:=ql hb rx;clear kc hb
 go_upto_region 6 with fail
 refine aR (S:=fun w'=>w'.heap[w.heap.size]?=some (.cells B 28 (0,0))∧w'.heap[X]?=some (.cells F 28 (0,0))) (by kernel_rfl) ?_
 change wpAnyH _ _ _ _ _ _ _ _ w7.drew
 have hb:=(ar w7.heap.size w7).drew;replace b:=btt b hb;replace bn:=btt bn hb;replace r:=ql hb r;replace rx:=ql hb rx;clear hb;generalize w7.drew=w7 at b bn r rx⊢;have T:w7.heap[w.heap.size]?=some (.cells B 28 (0,0))∧w7.heap[X]?=some (.cells F 28 (0,0)):=⟨r,rx⟩;have kc:=KA.out w7 b;refine ao 0 rfl (fun K hK=>?_);go_simp;go_wp2_with fail
 refine ag kc ?_;rintro e w8 ⟨rfl,hb⟩;replace b:=btt b hb;replace bn:=btt bn hb;replace r:=ql hb r;replace rx:=ql hb rx;clear kc hb;generalize w8=w7 at b bn r rx⊢;replace T:w7.heap[w.heap.size]?=some (.cells B 28 (0,0))∧w7.heap[X]?=some (.cells F 28 (0,0)):=⟨r,rx⟩;refine hK _ _ T ?_;clear hK K
 refine ao 1 rfl (kks T ?_);refine tn 2 (.string ⟨S.toArray⟩) rfl (fun w' hS=>by go_simp) T ?_;refine tn 3 (.string ⟨S.toArray⟩) rfl (fun w' hS=>by go_simp) T ?_;refine ao 4 rfl (kks T ?_);refine ao 5 rfl (kks T ?_);refine ao 6 rfl (kks T ?_);refine tn 7 (.int .i64 c) rfl (fun w' hS=>by go_simp) T ?_;refine tn 8 (.int .i64 c) rfl (fun w' hS=>by go_simp) T ?_;refine ao 9 rfl (kks T ?_);refine ao 10 rfl (kks T ?_);refine ao 11 rfl (kks T ?_);refine tn 12 (.agg F) rfl (fun w' hS=>by exact cU 28 (.tmp 3) rfl X 28 _ (0,0) (by rfl) hS.2 _ Tryz.underlying28 rfl (by rw[F1.out];rfl)) T ?_;refine tn 14 (.agg B) rfl (fun w' hS=>by exact cU 28 (.tmp 1) rfl w.heap.size 28 _ (0,0) (by rfl) hS.1 _ Tryz.underlying28 rfl (by rw[HZ.out];rfl)) T ?_;have kq:=KV.out n w7 HQ.out (NM.out.below bn).mgm b;rw[HF.out] at kq;have kc:=kq;refine ao 13 rfl (fun K hK=>?_);go_simp;go_wp2_with fail
 refine ag kc ?_;rintro e w8 ⟨rfl,hb⟩;replace b:=btt b hb;replace bn:=btt bn hb;replace r:=ql hb r;replace rx:=ql hb rx;clear kc hb;generalize w8=w7 at b bn r rx⊢;replace T:w7.heap[w.heap.size]?=some (.cells B 28 (0,0))∧w7.heap[X]?=some (.cells F 28 (0,0)):=⟨r,rx⟩;refine hK _ _ T ?_;clear hK K
 clear kq;have kc:=KV9.out w7 b;refine ao 15 rfl (fun K hK=>?_);go_simp;go_wp2_with fail
 refine ag kc ?_;rintro e w8 ⟨rfl,hb⟩;replace b:=btt b hb;replace bn:=btt bn hb;replace r:=ql hb r;replace rx:=ql hb rx;clear kc hb;generalize w8=w7 at b bn r rx⊢;replace T:w7.heap[w.heap.size]?=some (.cells B 28 (0,0))∧w7.heap[X]?=some (.cells F 28 (0,0)):=⟨r,rx⟩;refine hK _ _ T ?_;clear hK K
 refine ao 16 rfl (kks T ?_);refine ao 17 rfl (kks T ?_);refine ao 18 rfl (kks T ?_);refine tn 19 (.agg F) rfl (fun w' hS=>by exact cU 28 (.tmp 3) rfl X 28 _ (0,0) (by rfl) hS.2 _ Tryz.underlying28 rfl (by rw[F1.out];rfl)) T ?_;refine tn 20 (.agg B) rfl (fun w' hS=>by exact cU 28 (.tmp 1) rfl w.heap.size 28 _ (0,0) (by rfl) hS.1 _ Tryz.underlying28 rfl (by rw[HZ.out];rfl)) T ?_;have kq:=KS.out n D w7 HQ.out (NM.out.below bn) b;rw[HF.out] at kq;have kc:=kq;refine ao 21 rfl (fun K hK=>?_);go_simp;go_wp2_with fail
 refine ag kc ?_;rintro e w8 ⟨rfl,hb⟩;replace b:=btt b hb;replace bn:=btt bn hb;replace r:=ql hb r;replace rx:=ql hb rx;clear kc hb;generalize w8=w7 at b bn r rx⊢;replace T:w7.heap[w.heap.size]?=some (.cells B 28 (0,0))∧w7.heap[X]?=some (.cells F 28 (0,0)):=⟨r,rx⟩;refine hK _ _ T ?_;clear hK K
 clear kq;refine ao 22 rfl (kks T ?_);refine ao 23 rfl (kks T ?_);refine bE (by kernel_rfl) ?_ _;simp only[Exit.then];refine‹∀(a:Act) (w:World),Code.wp _ _ _ a w→_› _ _ ?_
 go_wp2_with fail
 go_ret
 exact⟨rfl,b⟩
theorem xU(m:Mg)(l:Ls)(w:World)(hm:MgM w m l)(hk:LsOk m l)(hE:Env w):
  Cr 3 #[.agg m.row] w (.bool true):=by
 cases hl:ej l with
 |false=>exact zl m l hl w hm hk hE
 |true=>exact zn m l hl w hm hk hE
theorem gi{w:World}{a:Addr}{v:Value}{k:Nat}(h:w.cell? (a.add k)=some v)(hk:k=0):∃g o,a=⟨g,o,none⟩:=by
 subst hk;have e:(a.add 0)=a:=by simp[Addr.add]
 rw[e] at h;have hs:=mb h;obtain⟨g,o,s⟩:=a;simp only at hs;subst hs;exact⟨g,o,rfl⟩
theorem mL{H:Type}:∀l:List (DataW H),Rows.uptoBulkAll l=(l.map Rows.uptoBulk).sum
 |[]=>rfl
 |d::r=>by rw[Rows.uptoBulkAll,mL r];simp
theorem Cn{H:Type}(D:Nat→DataW H)(f:Nat→Nat):∀(n:Nat),(∀i,i<n→f i≤Rows.uptoBulk (D i))→((List.range n).map f).sum≤Rows.uptoBulkAll ((List.range n).map D):=by
 intro n;rw[mL,List.map_map]
 induction n with
 |zero=>intro _;simp
 |succ n ih=>
  intro h;rw[List.range_succ,List.map_append,List.map_append,List.sum_append,List.sum_append];have h1:=ih (fun i hi=>h i (by omega));have h2:=h n (by omega);simp only[List.map_cons,List.map_nil,List.sum_cons,List.sum_nil,Function.comp]
  omega
def buS(ls:List (List UInt8)):Nat:=(ls.map fun l=>l.length+1).sum
def buA(al:List (List UInt8×List (List UInt8))):Nat:=(al.map fun a=>a.1.length+buS a.2+1).sum
def buM(ml:List Md):Nat:=(ml.map fun m=>m.2.1.length+buS m.2.2+1).sum
def buF(fl:List Fl):Nat:=(fl.map fun p=>p.typ.length+p.value.length+p.init.length+p.final.length+buS p.any+1).sum
def buK(cl:List Ct):Nat:=(cl.map fun c=>c.oid.length+c.value.length+1).sum
theorem ib{H:Type}{enc:TypeId×Value→H}{W:World}{base:Nat}{spare:Nat→Bool}{held:Bool}{fuel:Nat}{cs:List Value}{x:DataW H×List MemPlace}
  (h:DataW.trod enc Tryz.prog W base spare held fuel 23 cs=some x):∃v ls,cs=[v]∧ct W v ls∧buS ls≤Rows.uptoBulk x.1:=by
 rcases Go.Deep.open_slice1 Tryz.underlying23 (by kernel_rfl) h with⟨rfl,rfl⟩|⟨a,len,cap,m,n,V,D,Pl,rfl,hb,hl,hm,hmm,rfl,hx⟩
 ·exact⟨_,[],rfl,⟨none,0,rfl,ah _,fun h=>absurd rfl h⟩,by simp[buS]⟩
 ·have hlm:len≤m:=by rw[hmm];split<;>omega
  have each:∀i,∃q:List UInt8,i<len→V i=.string ⟨q.toArray⟩∧D i=.lit (.string q):=by
   intro i
   by_cases hi:i<len
   ·obtain⟨s0,e0,y0,_⟩:=DataW.trod_string Tryz.underlying9 (hx i (by omega)).2
    refine⟨s0.data.toList,fun _=>⟨?_,congrArg Prod.fst y0⟩⟩;have:=aN e0;rw[this.1]
   ·exact⟨[],fun h=>absurd h hi⟩
  let f:=fun i=>Classical.choose (each i)
  have hf:∀i,i<len→V i=.string ⟨(f i).toArray⟩∧D i=.lit (.string (f i)):=fun i=>Classical.choose_spec (each i)
  have hlen:((List.range len).map f).length=len:=by simp
  refine⟨_,(List.range len).map f,rfl,⟨some a,cap,by rw[hlen],by rw[hlen];exact hl,fun h0=>?_⟩,?_⟩
  ·have hpos:0<len:=by
    rcases Nat.eq_zero_or_pos len with h|h
    ·subst h;exact absurd rfl h0
    ·exact h
   obtain⟨g,o,rfl⟩:=gi (hx 0 (by omega)).1 (by simp);refine⟨g,o,rfl,fun j y hj=>?_⟩;have hjl:j<len:=by have:=(List.getElem?_eq_some_iff.1 hj).1;simpa using this
   rw[List.getElem?_map,List.getElem?_range hjl] at hj;cases hj;have c0:=(hx j (by omega)).1;rw[Addr.add_lit,(hf j hjl).1] at c0;exact c0
  ·have:=Cn D (fun i=>(f i).length+1) len (fun i hi=>by rw[(hf i hi).2];simp[Rows.uptoBulk])
   simp only[Rows.uptoBulk,buS,List.map_map];simp only[Function.comp_def] at this⊢
   omega
theorem pt{H:Type}{enc:TypeId×Value→H}{W:World}{base:Nat}{spare:Nat→Bool}{held:Bool}{fuel:Nat}{cs:List Value}{x:DataW H×List MemPlace}
  (h:DataW.trod enc Tryz.prog W base spare held fuel 25 cs=some x):∃v al,cs=[v]∧eG W v al∧buA al≤Rows.uptoBulk x.1:=by
 rcases Go.Deep.open_slice_pairs Tryz.underlying25 Tryz.underlying56 (by kernel_rfl) rfl rfl (by kernel_rfl) (by kernel_rfl) h with⟨rfl,rfl⟩|⟨a,len,cap,m,n,V0,V1,D0,D1,P0,P1,rfl,hb,hl,hm,hmm,rfl,hx⟩
 ·exact⟨_,[],rfl,⟨none,0,rfl,ah _,fun h=>absurd rfl h⟩,by simp[buA]⟩
 ·have hlm:len≤m:=by rw[hmm];split<;>omega
  have each:∀i,∃q:List UInt8×List (List UInt8),i<len→V0 i=.string ⟨q.1.toArray⟩∧ct W (V1 i) q.2∧q.1.length+buS q.2+1≤Rows.uptoBulk (.agg [D0 i,D1 i]):=by
   intro i
   by_cases hi:i<len
   ·obtain⟨_,_,h0,h1⟩:=hx i (by omega)
    obtain⟨s0,e0,y0,_⟩:=DataW.trod_string Tryz.underlying9 h0;obtain⟨v1,ls,e1,h2,h3⟩:=ib h1;refine⟨(s0.data.toList,ls),fun _=>⟨?_,?_,?_⟩⟩
    ·have:=aN e0;rw[this.1]
    ·have:=aN e1;rw[this.1];exact h2
    ·have e:=congrArg Prod.fst y0
     simp only at e;simp only[Rows.uptoBulk,Rows.uptoBulkAll,e]
     try simp only at h3
     omega
   ·exact⟨([],[]),fun h=>absurd h hi⟩
  let f:=fun i=>Classical.choose (each i)
  have hf:∀i,i<len→V0 i=.string ⟨(f i).1.toArray⟩∧ct W (V1 i) (f i).2∧(f i).1.length+buS (f i).2+1≤Rows.uptoBulk (.agg [D0 i,D1 i]):=fun i=>Classical.choose_spec (each i)
  have hlen:((List.range len).map f).length=len:=by simp
  refine⟨_,(List.range len).map f,rfl,⟨some a,cap,by rw[hlen],by rw[hlen];exact hl,fun h0=>?_⟩,?_⟩
  ·have hpos:0<len:=by
    rcases Nat.eq_zero_or_pos len with h|h
    ·subst h;exact absurd rfl h0
    ·exact h
   obtain⟨g,o,rfl⟩:=gi (hx 0 (by omega)).1 (by simp);refine⟨g,o,rfl,fun j y hj=>?_⟩;have hjl:j<len:=by have:=(List.getElem?_eq_some_iff.1 hj).1;simpa using this
   rw[List.getElem?_map,List.getElem?_range hjl] at hj;cases hj;obtain⟨c0,c1,_,_⟩:=hx j (by omega);obtain⟨v0,v1,_⟩:=hf j hjl;rw[Addr.add_lit,v0] at c0;rw[Addr.add_lit,←Nat.add_assoc] at c1;exact⟨c0,V1 j,c1,v1⟩
  ·have:=Cn (fun i=>.agg [D0 i,D1 i]) (fun i=>(f i).1.length+buS (f i).2+1) len (fun i hi=>(hf i hi).2.2)
   simp only[Rows.uptoBulk,buA,List.map_map];simp only[Function.comp_def] at this⊢
   omega
theorem Bm{n:Int}(h:(Lit.int .i64 n).wf=true):n≤9223372036854775807:=by
 have:=(Bool.and_eq_true_iff.1 h).2;exact of_decide_eq_true this
theorem sD{α:Type}:∀{l:List α},l.length=3→∃x0 x1 x2,l=[x0,x1,x2]
 |[x0,x1,x2],_=>⟨x0,x1,x2,rfl⟩
theorem sE{α:Type}:∀{l:List α},l.length=4→∃x0 x1 x2 x3,l=[x0,x1,x2,x3]
 |[x0,x1,x2,x3],_=>⟨x0,x1,x2,x3,rfl⟩
theorem sF{α:Type}:∀{l:List α},l.length=7→∃x0 x1 x2 x3 x4 x5 x6,l=[x0,x1,x2,x3,x4,x5,x6]
 |[x0,x1,x2,x3,x4,x5,x6],_=>⟨x0,x1,x2,x3,x4,x5,x6,rfl⟩
theorem qR{α:Type}:∀{l:List α},l.length=28→∃x0 x1 x2 x3 x4 x5 x6 x7 x8 x9 x10 x11 x12 x13 x14 x15 x16 x17 x18 x19 x20 x21 x22 x23 x24 x25 x26 x27,l=[x0,x1,x2,x3,x4,x5,x6,x7,x8,x9,x10,x11,x12,x13,x14,x15,x16,x17,x18,x19,x20,x21,x22,x23,x24,x25,x26,x27]
 |[x0,x1,x2,x3,x4,x5,x6,x7,x8,x9,x10,x11,x12,x13,x14,x15,x16,x17,x18,x19,x20,x21,x22,x23,x24,x25,x26,x27],_=>⟨x0,x1,x2,x3,x4,x5,x6,x7,x8,x9,x10,x11,x12,x13,x14,x15,x16,x17,x18,x19,x20,x21,x22,x23,x24,x25,x26,x27,rfl⟩
theorem qS{H:Type}{enc:TypeId×Value→H}{W:World}{base:Nat}{spare:Nat→Bool}{held:Bool}{fuel:Nat}{cs:List Value}{x:DataW H×List MemPlace}
  (h:DataW.trod enc Tryz.prog W base spare held fuel 24 cs=some x):∃v ml,cs=[v]∧eY W v ml∧buM ml≤Rows.uptoBulk x.1:=by
 rcases Go.Deep.open_slice Tryz.underlying24 h with⟨rfl,rfl⟩|⟨a,len,cap,m,n,D,Pl,rfl,hb,hl,hm,hmm,rfl,hx⟩
 ·exact⟨_,[],rfl,⟨none,0,rfl,ah _,fun h=>absurd rfl h⟩,by simp[buM]⟩
 ·have hlm:len≤m:=by rw[hmm];split<;>omega
  have cK:Tryz.prog.cellsOf 58=3:=by kernel_rfl
  have each:∀i,∃q:Md,i<len→W.cell? (a.add (i*3))=some (.int .i64 q.1)∧W.cell? (a.add (i*3+1))=some (.string ⟨q.2.1.toArray⟩)∧(∃u,W.cell? (a.add (i*3+2))=some u∧ct W u q.2.2)∧q.2.1.length+buS q.2.2+1≤Rows.uptoBulk (D i):=by
   intro i
   by_cases hi:i<len
   ·obtain⟨cs',h1,h2⟩:=hx i (by omega)
    rw[cK] at h1;obtain⟨_,hlen,hcell⟩:=World.cells?_some h1;obtain⟨xs,k,_,hy,hl2,hlen2,hf2⟩:=DataW.trod_struct Tryz.underlying58 h2;obtain⟨v0,v1,v2,rfl⟩:=sD hlen;obtain⟨y0,y1,y2,rfl⟩:=sD (show xs.length=3 from hlen2);have ki:Tryz.prog.cellsOf 3=1:=by kernel_rfl
    have ks:Tryz.prog.cellsOf 9=1:=by kernel_rfl
    have kb:Tryz.prog.cellsOf 4=1:=by kernel_rfl
    have kS:Tryz.prog.cellsOf 23=1:=by kernel_rfl
    have g0:DataW.trod enc Tryz.prog W base spare held k 3 [v0]=some y0:=by have h:=hf2 0 _ rfl;simpa[ki] using h
    have g1:DataW.trod enc Tryz.prog W base spare held k 9 [v1]=some y1:=by have h:=hf2 1 _ rfl;simpa[ks] using h
    have g2:DataW.trod enc Tryz.prog W base spare held k 23 [v2]=some y2:=by have h:=hf2 2 _ rfl;simpa[kS] using h
    have e0:=hcell 0 (by omega);have e1:=hcell 1 (by omega);have e2:=hcell 2 (by omega);rw[Go.Deep.add_add] at e0 e1 e2;obtain⟨z0,q0,r0,w0⟩:=DataW.trod_int Tryz.underlying3 g0;obtain⟨z1,q1,r1,_⟩:=DataW.trod_string Tryz.underlying9 g1;obtain⟨u2,z2,q2,h2S,r2⟩:=ib g2;have q0:=(aN q0).1;have q1:=(aN q1).1;have q2:=(aN q2).1;subst q0 q1 q2;refine⟨(z0,z1.data.toList,z2),fun _=>⟨by simpa using e0,by simpa using e1,⟨_,by simpa using e2,h2S⟩,?_⟩⟩;have e:D i=.agg [y0.1,y1.1,y2.1]:=congrArg Prod.fst hy;have r1:=congrArg Prod.fst r1
    try simp only at r1
    simp only[e,Rows.uptoBulk,Rows.uptoBulkAll,r1]
    try simp only at r2
    omega
   ·exact⟨(0,[],[]),fun h=>absurd h hi⟩
  let f:=fun i=>Classical.choose (each i)
  have hf:∀i,i<len→W.cell? (a.add (i*3))=some (.int .i64 (f i).1)∧W.cell? (a.add (i*3+1))=some (.string ⟨(f i).2.1.toArray⟩)∧(∃u,W.cell? (a.add (i*3+2))=some u∧ct W u (f i).2.2)∧(f i).2.1.length+buS (f i).2.2+1≤Rows.uptoBulk (D i):=fun i=>Classical.choose_spec (each i)
  have hlen:((List.range len).map f).length=len:=by simp
  refine⟨_,(List.range len).map f,rfl,⟨some a,cap,by rw[hlen],by rw[hlen];exact hl,fun h0=>?_⟩,?_⟩
  ·have hpos:0<len:=by
    rcases Nat.eq_zero_or_pos len with h|h
    ·subst h;exact absurd rfl h0
    ·exact h
   obtain⟨g,o,rfl⟩:=gi (hf 0 hpos).1 (by simp);refine⟨g,o,rfl,fun j y hj=>?_⟩;have hjl:j<len:=by have:=(List.getElem?_eq_some_iff.1 hj).1;simpa using this
   rw[List.getElem?_map,List.getElem?_range hjl] at hj;cases hj;obtain⟨c0,c1,⟨u,c2,d2⟩,_⟩:=hf j hjl;rw[Addr.add_lit] at c0;rw[Addr.add_lit,←Nat.add_assoc] at c1 c2;exact⟨c0,c1,u,c2,d2⟩
  ·have:=Cn D (fun i=>(f i).2.1.length+buS (f i).2.2+1) len (fun i hi=>(hf i hi).2.2.2)
   simp only[Rows.uptoBulk,buM,List.map_map];simp only[Function.comp_def] at this⊢
   omega
theorem qT{H:Type}{enc:TypeId×Value→H}{W:World}{base:Nat}{spare:Nat→Bool}{held:Bool}{fuel:Nat}{cs:List Value}{x:DataW H×List MemPlace}
  (h:DataW.trod enc Tryz.prog W base spare held fuel 26 cs=some x):∃v ml,cs=[v]∧ig W v ml∧buK ml≤Rows.uptoBulk x.1:=by
 rcases Go.Deep.open_slice Tryz.underlying26 h with⟨rfl,rfl⟩|⟨a,len,cap,m,n,D,Pl,rfl,hb,hl,hm,hmm,rfl,hx⟩
 ·exact⟨_,[],rfl,⟨none,0,rfl,ah _,fun h=>absurd rfl h⟩,by simp[buK]⟩
 ·have hlm:len≤m:=by rw[hmm];split<;>omega
  have cK:Tryz.prog.cellsOf 62=4:=by kernel_rfl
  have each:∀i,∃q:Ct,i<len→W.cell? (a.add (i*4))=some (.string ⟨q.oid.toArray⟩)∧W.cell? (a.add (i*4+1))=some (.bool q.crit)∧W.cell? (a.add (i*4+2))=some (.bool q.has)∧W.cell? (a.add (i*4+3))=some (.string ⟨q.value.toArray⟩)∧q.oid.length+q.value.length+1≤Rows.uptoBulk (D i):=by
   intro i
   by_cases hi:i<len
   ·obtain⟨cs',h1,h2⟩:=hx i (by omega)
    rw[cK] at h1;obtain⟨_,hlen,hcell⟩:=World.cells?_some h1;obtain⟨xs,k,_,hy,hl2,hlen2,hf2⟩:=DataW.trod_struct Tryz.underlying62 h2;obtain⟨v0,v1,v2,v3,rfl⟩:=sE hlen;obtain⟨y0,y1,y2,y3,rfl⟩:=sE (show xs.length=4 from hlen2);have ki:Tryz.prog.cellsOf 3=1:=by kernel_rfl
    have ks:Tryz.prog.cellsOf 9=1:=by kernel_rfl
    have kb:Tryz.prog.cellsOf 4=1:=by kernel_rfl
    have kS:Tryz.prog.cellsOf 23=1:=by kernel_rfl
    have g0:DataW.trod enc Tryz.prog W base spare held k 9 [v0]=some y0:=by have h:=hf2 0 _ rfl;simpa[ks] using h
    have g1:DataW.trod enc Tryz.prog W base spare held k 4 [v1]=some y1:=by have h:=hf2 1 _ rfl;simpa[kb] using h
    have g2:DataW.trod enc Tryz.prog W base spare held k 4 [v2]=some y2:=by have h:=hf2 2 _ rfl;simpa[kb] using h
    have g3:DataW.trod enc Tryz.prog W base spare held k 9 [v3]=some y3:=by have h:=hf2 3 _ rfl;simpa[ks] using h
    have e0:=hcell 0 (by omega);have e1:=hcell 1 (by omega);have e2:=hcell 2 (by omega);have e3:=hcell 3 (by omega);rw[Go.Deep.add_add] at e0 e1 e2 e3;obtain⟨z0,q0,r0,_⟩:=DataW.trod_string Tryz.underlying9 g0;obtain⟨z1,q1,r1⟩:=DataW.trod_bool Tryz.underlying4 g1;obtain⟨z2,q2,r2⟩:=DataW.trod_bool Tryz.underlying4 g2;obtain⟨z3,q3,r3,_⟩:=DataW.trod_string Tryz.underlying9 g3;have q0:=(aN q0).1;have q1:=(aN q1).1;have q2:=(aN q2).1;have q3:=(aN q3).1;subst q0 q1 q2 q3;refine⟨⟨z0.data.toList,z1,z2,z3.data.toList⟩,fun _=>⟨by simpa using e0,by simpa using e1,by simpa using e2,by simpa using e3,?_⟩⟩;have e:D i=.agg [y0.1,y1.1,y2.1,y3.1]:=congrArg Prod.fst hy;have r0:=congrArg Prod.fst r0;have r3:=congrArg Prod.fst r3
    try simp only at r0 r3
    simp only[e,Rows.uptoBulk,Rows.uptoBulkAll,r0,r3]
    omega
   ·exact⟨⟨[],false,false,[]⟩,fun h=>absurd h hi⟩
  let f:=fun i=>Classical.choose (each i)
  have hf:∀i,i<len→W.cell? (a.add (i*4))=some (.string ⟨(f i).oid.toArray⟩)∧W.cell? (a.add (i*4+1))=some (.bool (f i).crit)∧W.cell? (a.add (i*4+2))=some (.bool (f i).has)∧W.cell? (a.add (i*4+3))=some (.string ⟨(f i).value.toArray⟩)∧(f i).oid.length+(f i).value.length+1≤Rows.uptoBulk (D i):=fun i=>Classical.choose_spec (each i)
  have hlen:((List.range len).map f).length=len:=by simp
  refine⟨_,(List.range len).map f,rfl,⟨some a,cap,by rw[hlen],by rw[hlen];exact hl,fun h0=>?_⟩,?_⟩
  ·have hpos:0<len:=by
    rcases Nat.eq_zero_or_pos len with h|h
    ·subst h;exact absurd rfl h0
    ·exact h
   obtain⟨g,o,rfl⟩:=gi (hf 0 hpos).1 (by simp);refine⟨g,o,rfl,fun j y hj=>?_⟩;have hjl:j<len:=by have:=(List.getElem?_eq_some_iff.1 hj).1;simpa using this
   rw[List.getElem?_map,List.getElem?_range hjl] at hj;cases hj;obtain⟨c0,c1,c2,c3,_⟩:=hf j hjl;rw[Addr.add_lit] at c0;rw[Addr.add_lit,←Nat.add_assoc] at c1 c2 c3;exact⟨c0,c1,c2,c3⟩
  ·have:=Cn D (fun i=>(f i).oid.length+(f i).value.length+1) len (fun i hi=>(hf i hi).2.2.2.2)
   simp only[Rows.uptoBulk,buK,List.map_map];simp only[Function.comp_def] at this⊢
   omega
theorem qU{H:Type}{enc:TypeId×Value→H}{W:World}{base:Nat}{spare:Nat→Bool}{held:Bool}{fuel:Nat}{cs:List Value}{x:DataW H×List MemPlace}
  (h:DataW.trod enc Tryz.prog W base spare held fuel 22 cs=some x):∃v ml,cs=[v]∧de W v ml∧buF ml≤Rows.uptoBulk x.1∧∀p∈ml,p.n≤9223372036854775807:=by
 rcases Go.Deep.open_slice Tryz.underlying22 h with⟨rfl,rfl⟩|⟨a,len,cap,m,n,D,Pl,rfl,hb,hl,hm,hmm,rfl,hx⟩
 ·exact⟨_,[],rfl,⟨none,0,rfl,ah _,fun h=>absurd rfl h⟩,by simp[buF],by simp⟩
 ·have hlm:len≤m:=by rw[hmm];split<;>omega
  have cK:Tryz.prog.cellsOf 60=7:=by kernel_rfl
  have each:∀i,∃q:Fl,i<len→W.cell? (a.add (i*7))=some (.int .i64 q.op)∧W.cell? (a.add (i*7+1))=some (.int .i64 q.n)∧W.cell? (a.add (i*7+2))=some (.string ⟨q.typ.toArray⟩)∧W.cell? (a.add (i*7+3))=some (.string ⟨q.value.toArray⟩)∧W.cell? (a.add (i*7+4))=some (.string ⟨q.init.toArray⟩)∧W.cell? (a.add (i*7+5))=some (.string ⟨q.final.toArray⟩)∧(∃u,W.cell? (a.add (i*7+6))=some u∧ct W u q.any)∧q.op≤9223372036854775807∧q.n≤9223372036854775807∧q.typ.length+q.value.length+q.init.length+q.final.length+buS q.any+1≤Rows.uptoBulk (D i):=by
   intro i
   by_cases hi:i<len
   ·obtain⟨cs',h1,h2⟩:=hx i (by omega)
    rw[cK] at h1;obtain⟨_,hlen,hcell⟩:=World.cells?_some h1;obtain⟨xs,k,_,hy,hl2,hlen2,hf2⟩:=DataW.trod_struct Tryz.underlying60 h2;obtain⟨v0,v1,v2,v3,v4,v5,v6,rfl⟩:=sF hlen;obtain⟨y0,y1,y2,y3,y4,y5,y6,rfl⟩:=sF (show xs.length=7 from hlen2);have ki:Tryz.prog.cellsOf 3=1:=by kernel_rfl
    have ks:Tryz.prog.cellsOf 9=1:=by kernel_rfl
    have kb:Tryz.prog.cellsOf 4=1:=by kernel_rfl
    have kS:Tryz.prog.cellsOf 23=1:=by kernel_rfl
    have g0:DataW.trod enc Tryz.prog W base spare held k 3 [v0]=some y0:=by have h:=hf2 0 _ rfl;simpa[ki] using h
    have g1:DataW.trod enc Tryz.prog W base spare held k 3 [v1]=some y1:=by have h:=hf2 1 _ rfl;simpa[ki] using h
    have g2:DataW.trod enc Tryz.prog W base spare held k 9 [v2]=some y2:=by have h:=hf2 2 _ rfl;simpa[ks] using h
    have g3:DataW.trod enc Tryz.prog W base spare held k 9 [v3]=some y3:=by have h:=hf2 3 _ rfl;simpa[ks] using h
    have g4:DataW.trod enc Tryz.prog W base spare held k 9 [v4]=some y4:=by have h:=hf2 4 _ rfl;simpa[ks] using h
    have g5:DataW.trod enc Tryz.prog W base spare held k 9 [v5]=some y5:=by have h:=hf2 5 _ rfl;simpa[ks] using h
    have g6:DataW.trod enc Tryz.prog W base spare held k 23 [v6]=some y6:=by have h:=hf2 6 _ rfl;simpa[kS] using h
    have e0:=hcell 0 (by omega);have e1:=hcell 1 (by omega);have e2:=hcell 2 (by omega);have e3:=hcell 3 (by omega);have e4:=hcell 4 (by omega);have e5:=hcell 5 (by omega);have e6:=hcell 6 (by omega);rw[Go.Deep.add_add] at e0 e1 e2 e3 e4 e5 e6;obtain⟨z0,q0,r0,w0⟩:=DataW.trod_int Tryz.underlying3 g0;obtain⟨z1,q1,r1,w1⟩:=DataW.trod_int Tryz.underlying3 g1;obtain⟨z2,q2,r2,_⟩:=DataW.trod_string Tryz.underlying9 g2;obtain⟨z3,q3,r3,_⟩:=DataW.trod_string Tryz.underlying9 g3;obtain⟨z4,q4,r4,_⟩:=DataW.trod_string Tryz.underlying9 g4;obtain⟨z5,q5,r5,_⟩:=DataW.trod_string Tryz.underlying9 g5;obtain⟨u6,z6,q6,h6S,r6⟩:=ib g6;have q0:=(aN q0).1;have q1:=(aN q1).1;have q2:=(aN q2).1;have q3:=(aN q3).1;have q4:=(aN q4).1;have q5:=(aN q5).1;have q6:=(aN q6).1;subst q0 q1 q2 q3 q4 q5 q6;refine⟨⟨z0,z1,z2.data.toList,z3.data.toList,z4.data.toList,z5.data.toList,z6⟩,fun _=>⟨by simpa using e0,by simpa using e1,by simpa using e2,by simpa using e3,by simpa using e4,by simpa using e5,⟨_,by simpa using e6,h6S⟩,Bm w0,Bm w1,?_⟩⟩;have e:D i=.agg [y0.1,y1.1,y2.1,y3.1,y4.1,y5.1,y6.1]:=congrArg Prod.fst hy;have r2:=congrArg Prod.fst r2;have r3:=congrArg Prod.fst r3;have r4:=congrArg Prod.fst r4;have r5:=congrArg Prod.fst r5
    try simp only at r2 r3 r4 r5
    simp only[e,Rows.uptoBulk,Rows.uptoBulkAll,r2,r3,r4,r5]
    try simp only at r6
    omega
   ·exact⟨⟨0,0,[],[],[],[],[]⟩,fun h=>absurd h hi⟩
  let f:=fun i=>Classical.choose (each i)
  have hf:∀i,i<len→W.cell? (a.add (i*7))=some (.int .i64 (f i).op)∧W.cell? (a.add (i*7+1))=some (.int .i64 (f i).n)∧W.cell? (a.add (i*7+2))=some (.string ⟨(f i).typ.toArray⟩)∧W.cell? (a.add (i*7+3))=some (.string ⟨(f i).value.toArray⟩)∧W.cell? (a.add (i*7+4))=some (.string ⟨(f i).init.toArray⟩)∧W.cell? (a.add (i*7+5))=some (.string ⟨(f i).final.toArray⟩)∧(∃u,W.cell? (a.add (i*7+6))=some u∧ct W u (f i).any)∧(f i).op≤9223372036854775807∧(f i).n≤9223372036854775807∧(f i).typ.length+(f i).value.length+(f i).init.length+(f i).final.length+buS (f i).any+1≤Rows.uptoBulk (D i):=fun i=>Classical.choose_spec (each i)
  have hlen:((List.range len).map f).length=len:=by simp
  refine⟨_,(List.range len).map f,rfl,⟨some a,cap,by rw[hlen],by rw[hlen];exact hl,fun h0=>?_⟩,?_,?_⟩
  ·have hpos:0<len:=by
    rcases Nat.eq_zero_or_pos len with h|h
    ·subst h;exact absurd rfl h0
    ·exact h
   obtain⟨g,o,rfl⟩:=gi (hf 0 hpos).1 (by simp);refine⟨g,o,rfl,fun j y hj=>?_⟩;have hjl:j<len:=by have:=(List.getElem?_eq_some_iff.1 hj).1;simpa using this
   rw[List.getElem?_map,List.getElem?_range hjl] at hj;cases hj;obtain⟨c0,c1,c2,c3,c4,c5,⟨u,c6,d6⟩,_⟩:=hf j hjl;rw[Addr.add_lit] at c0;rw[Addr.add_lit,←Nat.add_assoc] at c1 c2 c3 c4 c5 c6;exact⟨c0,c1,c2,c3,c4,c5,u,c6,d6⟩
  ·have:=Cn D (fun i=>(f i).typ.length+(f i).value.length+(f i).init.length+(f i).final.length+buS (f i).any+1) len (fun i hi=>(hf i hi).2.2.2.2.2.2.2.2.2)
   simp only[Rows.uptoBulk,buF,List.map_map];simp only[Function.comp_def] at this⊢
   omega
  ·intro p hp
   simp only[List.mem_map,List.mem_range] at hp;obtain⟨i,hi,rfl⟩:=hp;exact(hf i hi).2.2.2.2.2.2.2.2.1
def buG(m:Mg)(l:Ls):Nat:=m.dn.length+m.secret.length+m.newRdn.length+m.newSup.length+m.typ.length+m.value.length+m.oid.length+m.matched.length+m.text.length+buF l.filt+buS l.sel+buM l.mods+buA l.attrs+buK l.ctl
theorem pu{H:Type}{enc:TypeId×Value→H}{W:World}{base:Nat}{spare:Nat→Bool}{held:Bool}{fuel:Nat}{cs:List Value}{x:DataW H×List MemPlace}
  (h:DataW.trod enc Tryz.prog W base spare held fuel 28 cs=some x):∃m l,cs=(Mg.row m).toList∧MgM W m l∧buG m l≤Rows.uptoBulk x.1∧∀p∈l.filt,p.n≤9223372036854775807:=by
 obtain⟨xs,n,_,rfl,hl,hlen,hf⟩:=DataW.trod_struct Tryz.underlying28 h;have c28:Tryz.prog.cellsOf 28=28:=by kernel_rfl
 rw[c28] at hl;obtain⟨v0,v1,v2,v3,v4,v5,v6,v7,v8,v9,v10,v11,v12,v13,v14,v15,v16,v17,v18,v19,v20,v21,v22,v23,v24,v25,v26,v27,rfl⟩:=qR hl;obtain⟨y0,y1,y2,y3,y4,y5,y6,y7,y8,y9,y10,y11,y12,y13,y14,y15,y16,y17,y18,y19,y20,y21,y22,y23,y24,y25,y26,y27,rfl⟩:=qR (show xs.length=28 from hlen);have ki:Tryz.prog.cellsOf 3=1:=by kernel_rfl
 have ks:Tryz.prog.cellsOf 9=1:=by kernel_rfl
 have kb:Tryz.prog.cellsOf 4=1:=by kernel_rfl
 have kvF:Tryz.prog.cellsOf 22=1:=by kernel_rfl
 have kvS:Tryz.prog.cellsOf 23=1:=by kernel_rfl
 have kvM:Tryz.prog.cellsOf 24=1:=by kernel_rfl
 have kvA:Tryz.prog.cellsOf 25=1:=by kernel_rfl
 have kvK:Tryz.prog.cellsOf 26=1:=by kernel_rfl
 have g0:DataW.trod enc Tryz.prog W base spare held n 3 [v0]=some y0:=by have h:=hf 0 _ rfl;simpa[ki,ks,kb,kvF,kvS,kvM,kvA,kvK] using h
 have g1:DataW.trod enc Tryz.prog W base spare held n 3 [v1]=some y1:=by have h:=hf 1 _ rfl;simpa[ki,ks,kb,kvF,kvS,kvM,kvA,kvK] using h
 have g2:DataW.trod enc Tryz.prog W base spare held n 9 [v2]=some y2:=by have h:=hf 2 _ rfl;simpa[ki,ks,kb,kvF,kvS,kvM,kvA,kvK] using h
 have g3:DataW.trod enc Tryz.prog W base spare held n 3 [v3]=some y3:=by have h:=hf 3 _ rfl;simpa[ki,ks,kb,kvF,kvS,kvM,kvA,kvK] using h
 have g4:DataW.trod enc Tryz.prog W base spare held n 4 [v4]=some y4:=by have h:=hf 4 _ rfl;simpa[ki,ks,kb,kvF,kvS,kvM,kvA,kvK] using h
 have g5:DataW.trod enc Tryz.prog W base spare held n 9 [v5]=some y5:=by have h:=hf 5 _ rfl;simpa[ki,ks,kb,kvF,kvS,kvM,kvA,kvK] using h
 have g6:DataW.trod enc Tryz.prog W base spare held n 3 [v6]=some y6:=by have h:=hf 6 _ rfl;simpa[ki,ks,kb,kvF,kvS,kvM,kvA,kvK] using h
 have g7:DataW.trod enc Tryz.prog W base spare held n 3 [v7]=some y7:=by have h:=hf 7 _ rfl;simpa[ki,ks,kb,kvF,kvS,kvM,kvA,kvK] using h
 have g8:DataW.trod enc Tryz.prog W base spare held n 3 [v8]=some y8:=by have h:=hf 8 _ rfl;simpa[ki,ks,kb,kvF,kvS,kvM,kvA,kvK] using h
 have g9:DataW.trod enc Tryz.prog W base spare held n 3 [v9]=some y9:=by have h:=hf 9 _ rfl;simpa[ki,ks,kb,kvF,kvS,kvM,kvA,kvK] using h
 have g10:DataW.trod enc Tryz.prog W base spare held n 4 [v10]=some y10:=by have h:=hf 10 _ rfl;simpa[ki,ks,kb,kvF,kvS,kvM,kvA,kvK] using h
 have g11:DataW.trod enc Tryz.prog W base spare held n 22 [v11]=some y11:=by have h:=hf 11 _ rfl;simpa[ki,ks,kb,kvF,kvS,kvM,kvA,kvK] using h
 have g12:DataW.trod enc Tryz.prog W base spare held n 23 [v12]=some y12:=by have h:=hf 12 _ rfl;simpa[ki,ks,kb,kvF,kvS,kvM,kvA,kvK] using h
 have g13:DataW.trod enc Tryz.prog W base spare held n 24 [v13]=some y13:=by have h:=hf 13 _ rfl;simpa[ki,ks,kb,kvF,kvS,kvM,kvA,kvK] using h
 have g14:DataW.trod enc Tryz.prog W base spare held n 25 [v14]=some y14:=by have h:=hf 14 _ rfl;simpa[ki,ks,kb,kvF,kvS,kvM,kvA,kvK] using h
 have g15:DataW.trod enc Tryz.prog W base spare held n 9 [v15]=some y15:=by have h:=hf 15 _ rfl;simpa[ki,ks,kb,kvF,kvS,kvM,kvA,kvK] using h
 have g16:DataW.trod enc Tryz.prog W base spare held n 9 [v16]=some y16:=by have h:=hf 16 _ rfl;simpa[ki,ks,kb,kvF,kvS,kvM,kvA,kvK] using h
 have g17:DataW.trod enc Tryz.prog W base spare held n 4 [v17]=some y17:=by have h:=hf 17 _ rfl;simpa[ki,ks,kb,kvF,kvS,kvM,kvA,kvK] using h
 have g18:DataW.trod enc Tryz.prog W base spare held n 4 [v18]=some y18:=by have h:=hf 18 _ rfl;simpa[ki,ks,kb,kvF,kvS,kvM,kvA,kvK] using h
 have g19:DataW.trod enc Tryz.prog W base spare held n 9 [v19]=some y19:=by have h:=hf 19 _ rfl;simpa[ki,ks,kb,kvF,kvS,kvM,kvA,kvK] using h
 have g20:DataW.trod enc Tryz.prog W base spare held n 9 [v20]=some y20:=by have h:=hf 20 _ rfl;simpa[ki,ks,kb,kvF,kvS,kvM,kvA,kvK] using h
 have g21:DataW.trod enc Tryz.prog W base spare held n 9 [v21]=some y21:=by have h:=hf 21 _ rfl;simpa[ki,ks,kb,kvF,kvS,kvM,kvA,kvK] using h
 have g22:DataW.trod enc Tryz.prog W base spare held n 4 [v22]=some y22:=by have h:=hf 22 _ rfl;simpa[ki,ks,kb,kvF,kvS,kvM,kvA,kvK] using h
 have g23:DataW.trod enc Tryz.prog W base spare held n 3 [v23]=some y23:=by have h:=hf 23 _ rfl;simpa[ki,ks,kb,kvF,kvS,kvM,kvA,kvK] using h
 have g24:DataW.trod enc Tryz.prog W base spare held n 3 [v24]=some y24:=by have h:=hf 24 _ rfl;simpa[ki,ks,kb,kvF,kvS,kvM,kvA,kvK] using h
 have g25:DataW.trod enc Tryz.prog W base spare held n 9 [v25]=some y25:=by have h:=hf 25 _ rfl;simpa[ki,ks,kb,kvF,kvS,kvM,kvA,kvK] using h
 have g26:DataW.trod enc Tryz.prog W base spare held n 9 [v26]=some y26:=by have h:=hf 26 _ rfl;simpa[ki,ks,kb,kvF,kvS,kvM,kvA,kvK] using h
 have g27:DataW.trod enc Tryz.prog W base spare held n 26 [v27]=some y27:=by have h:=hf 27 _ rfl;simpa[ki,ks,kb,kvF,kvS,kvM,kvA,kvK] using h
 clear hf;obtain⟨z0,q0,r0,_⟩:=DataW.trod_int Tryz.underlying3 g0;obtain⟨z1,q1,r1,_⟩:=DataW.trod_int Tryz.underlying3 g1;obtain⟨z2,q2,r2,_⟩:=DataW.trod_string Tryz.underlying9 g2;obtain⟨z3,q3,r3,_⟩:=DataW.trod_int Tryz.underlying3 g3;obtain⟨z4,q4,r4⟩:=DataW.trod_bool Tryz.underlying4 g4;obtain⟨z5,q5,r5,_⟩:=DataW.trod_string Tryz.underlying9 g5;obtain⟨z6,q6,r6,_⟩:=DataW.trod_int Tryz.underlying3 g6;obtain⟨z7,q7,r7,_⟩:=DataW.trod_int Tryz.underlying3 g7;obtain⟨z8,q8,r8,_⟩:=DataW.trod_int Tryz.underlying3 g8;obtain⟨z9,q9,r9,_⟩:=DataW.trod_int Tryz.underlying3 g9;obtain⟨z10,q10,r10⟩:=DataW.trod_bool Tryz.underlying4 g10;obtain⟨u11,z11,q11,h11S,r11,w11⟩:=qU g11;obtain⟨u12,z12,q12,h12S,r12⟩:=ib g12;obtain⟨u13,z13,q13,h13S,r13⟩:=qS g13;obtain⟨u14,z14,q14,h14S,r14⟩:=pt g14;obtain⟨z15,q15,r15,_⟩:=DataW.trod_string Tryz.underlying9 g15;obtain⟨z16,q16,r16,_⟩:=DataW.trod_string Tryz.underlying9 g16;obtain⟨z17,q17,r17⟩:=DataW.trod_bool Tryz.underlying4 g17;obtain⟨z18,q18,r18⟩:=DataW.trod_bool Tryz.underlying4 g18;obtain⟨z19,q19,r19,_⟩:=DataW.trod_string Tryz.underlying9 g19;obtain⟨z20,q20,r20,_⟩:=DataW.trod_string Tryz.underlying9 g20;obtain⟨z21,q21,r21,_⟩:=DataW.trod_string Tryz.underlying9 g21;obtain⟨z22,q22,r22⟩:=DataW.trod_bool Tryz.underlying4 g22;obtain⟨z23,q23,r23,_⟩:=DataW.trod_int Tryz.underlying3 g23;obtain⟨z24,q24,r24,_⟩:=DataW.trod_int Tryz.underlying3 g24;obtain⟨z25,q25,r25,_⟩:=DataW.trod_string Tryz.underlying9 g25;obtain⟨z26,q26,r26,_⟩:=DataW.trod_string Tryz.underlying9 g26;obtain⟨u27,z27,q27,h27S,r27⟩:=qT g27;have q0:=(aN q0).1;have q1:=(aN q1).1;have q2:=(aN q2).1;have q3:=(aN q3).1;have q4:=(aN q4).1;have q5:=(aN q5).1;have q6:=(aN q6).1;have q7:=(aN q7).1;have q8:=(aN q8).1;have q9:=(aN q9).1;have q10:=(aN q10).1;have q11:=(aN q11).1;have q12:=(aN q12).1;have q13:=(aN q13).1;have q14:=(aN q14).1;have q15:=(aN q15).1;have q16:=(aN q16).1;have q17:=(aN q17).1;have q18:=(aN q18).1;have q19:=(aN q19).1;have q20:=(aN q20).1;have q21:=(aN q21).1;have q22:=(aN q22).1;have q23:=(aN q23).1;have q24:=(aN q24).1;have q25:=(aN q25).1;have q26:=(aN q26).1;have q27:=(aN q27).1;subst q0 q1 q2 q3 q4 q5 q6 q7 q8 q9 q10 q11 q12 q13 q14 q15 q16 q17 q18 q19 q20 q21 q22 q23 q24 q25 q26 q27;refine⟨{id:=z0,op:=z1,dn:=z2.data.toList,ver:=z3,sasl:=z4,secret:=z5.data.toList,scope:=z6,deref:=z7,size:=z8,time:=z9,types:=z10,filt:=v11,sel:=v12,mods:=v13,attrs:=v14,newRdn:=z15.data.toList,newSup:=z16.data.toList,delOld:=z17,hasSup:=z18,typ:=z19.data.toList,value:=z20.data.toList,oid:=z21.data.toList,has:=z22,target:=z23,code:=z24,matched:=z25.data.toList,text:=z26.data.toList,ctl:=v27},⟨z11,z12,z13,z14,z27⟩,by simp[Mg.row],⟨h11S,h12S,h13S,h14S,h27S⟩,?_,w11⟩
 have r2:=congrArg Prod.fst r2;have r5:=congrArg Prod.fst r5;have r15:=congrArg Prod.fst r15;have r16:=congrArg Prod.fst r16;have r19:=congrArg Prod.fst r19;have r20:=congrArg Prod.fst r20;have r21:=congrArg Prod.fst r21;have r25:=congrArg Prod.fst r25;have r26:=congrArg Prod.fst r26
 try simp only at r2 r5 r15 r16 r19 r20 r21 r25 r26
 simp only[List.map_cons,List.map_nil,Rows.uptoBulk,Rows.uptoBulkAll,r2,r5,r15,r16,r19,r20,r21,r25,r26,buG]
 omega
theorem si{H:Type}{enc:TypeId×Value→H}{W:World}{base b0:Nat}{spare:Nat→Bool}{held:Bool}{r:Reach}{v:Value}{d:DataW H}{p:List MemPlace}
  (hv:Value.okWide Tryz.prog W r b0 28 v) (h:DataW.Trod enc Tryz.prog W base spare held 28 v d p):
  ∃m l,v=.agg (Mg.row m)∧MgM W m l∧buG m l≤Rows.uptoBulk d∧∀p∈l.filt,p.n≤9223372036854775807:=by
 obtain⟨cs,rfl,_⟩:=okWide_struct Tryz.underlying28 hv;obtain⟨fuel,hf⟩:=h;obtain⟨m,l,hc,h1,h2⟩:=pu hf;refine⟨m,l,?_,h1,h2⟩;rw[Array.toList_inj.1 (show cs.toList=(Mg.row m).toList from hc)]
theorem gz{α:Type}(f:α→Nat):∀(l:List α) (x:α),x∈l→f x≤(l.map f).sum
 |y::l,x,h=>by
  rcases aY.1 h with rfl|h
  ·simp
  ·have:=gz f l x h;simp;omega
theorem wV{α:Type}(f:α→Nat)(hf:∀x,1≤f x):∀(l:List α),l.length≤(l.map f).sum
 |[]=>by simp
 |y::l=>by have:=wV f hf l;have:=hf y;simp;omega
theorem kH{ls:List (List UInt8)}{n:Nat}(h:buS ls≤n):ls.length≤n∧∀s∈ls,s.length≤n:=by
 unfold buS at h;refine⟨by have:=wV (fun l:List UInt8=>l.length+1) (by intro x;omega) ls;omega,fun s hs=>?_⟩;have:=gz (fun l:List UInt8=>l.length+1) ls s hs
 try simp only at this
 omega
theorem tq{m:Mg}{l:Ls}(h:buG m l≤1048576)(hn:∀p∈l.filt,p.n≤9223372036854775807):LsOk m l:=by
 unfold buG at h;have s1:=kH (ls:=l.sel) (n:=1048576) (by omega);have lf:=wV (fun p:Fl=>p.typ.length+p.value.length+p.init.length+p.final.length+buS p.any+1) (by intro x;omega) l.filt;have lm:=wV (fun x:Md=>x.2.1.length+buS x.2.2+1) (by intro x;omega) l.mods;have la:=wV (fun x:List UInt8×List (List UInt8)=>x.1.length+buS x.2+1) (by intro x;omega) l.attrs;have lk:=wV (fun x:Ct=>x.oid.length+x.value.length+1) (by intro x;omega) l.ctl;simp only[buF,buM,buA,buK] at h;refine⟨by omega,by omega,by omega,by omega,by omega,by omega,by omega,by omega,by omega,⟨by omega,fun p hp=>?_⟩,by omega,fun s hs=>?_,by omega,fun x hx=>?_,⟨by omega,fun x hx=>?_⟩,by omega,fun c hc=>?_⟩
 ·have:=gz (fun p:Fl=>p.typ.length+p.value.length+p.init.length+p.final.length+buS p.any+1) l.filt p hp
  try simp only at this
  have hb:=kH (ls:=p.any) (n:=1048576) (by omega);exact⟨⟨by omega,by omega,by omega,by omega,by omega,fun s hs=>by have:=hb.2 s hs;omega⟩,hn p hp⟩
 ·have:=s1.2 s hs;omega
 ·have:=gz (fun x:Md=>x.2.1.length+buS x.2.2+1) l.mods x hx
  try simp only at this
  have hb:=kH (ls:=x.2.2) (n:=1048576) (by omega);exact⟨by omega,by omega,fun s hs=>by have:=hb.2 s hs;omega⟩
 ·have:=gz (fun x:List UInt8×List (List UInt8)=>x.1.length+buS x.2+1) l.attrs x hx
  try simp only at this
  have hb:=kH (ls:=x.2) (n:=1048576) (by omega)
  first|exact⟨by omega,by omega,fun s hs=>by have:=hb.2 s hs;omega⟩|exact⟨by omega,⟨by omega,fun s hs=>by have:=hb.2 s hs;omega⟩⟩
 ·have:=gz (fun x:Ct=>x.oid.length+x.value.length+1) l.ctl c hc
  try simp only at this
  exact⟨by omega,by omega⟩
end Go.Proofs.YthjaiigijbjloaaGreatDoor
