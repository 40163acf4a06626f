/- RdC, RdD, RdE, RdF, ReA, ReB. -/
import Derived.Test.YtfhghdcbofbceaaGreatDoorX12
namespace Go.Proofs.YtfhghdcbofbceaaGreatDoor
open Go.RowKit Go.Lib
set_option maxRecDepth 100000
set_option maxHeartbeats 16000000
theorem ol{n m:Nat}{b0:UInt8}{r0 c rest S:List UInt8}(hS:S=(b0::r0)++(c++rest))(hn:r0.length+1=n)(hm:c.length=m):(⟨S.toArray⟩:ByteArray).extract n (n+m)=⟨c.toArray⟩:=by
 subst hS hn hm;rw[Lib.extract_eq]
 simp
theorem om{n m:Nat}{b0:UInt8}{r0 c rest S:List UInt8}(hS:S=(b0::r0)++(c++rest))(hn:r0.length+1=n)(hm:c.length=m):(⟨S.toArray⟩:ByteArray).extract (n+m) (n+m+rest.length)=⟨rest.toArray⟩:=by
 subst hS hn hm;rw[Lib.extract_eq];have h:List.drop (r0.length+1+c.length) (b0::(r0++(c++rest)))=rest:=by
  rw[show r0.length+1+c.length=(r0.length+c.length)+1 by omega,List.drop_succ_cons,←List.append_assoc,List.drop_left' (by simp)]
 simp[h]
theorem nu(n m:Nat)(b0:UInt8)(r0 c rest S:List UInt8)(hS:S=(b0::r0)++(c++rest))(hn:r0.length+1=n)(hm:c.length=m)(hh:bt S=(n,m,0))(hn6:n≤6)(hm6:m≤65536)(hp:b0.toNat/32% 2=0)(hr:rest.length≤900000000)(d:Nat)(hd:d<20)(w:World):
  Cr 114 #[.string ⟨S.toArray⟩,.int .i64 (d:Int)] w (.tuple #[.agg (elA (.mk ((b0.toNat/64:Nat):Int) ((b0.toNat% 32:Nat):Int) false c []) (Sn)),.string ⟨rest.toArray⟩]):=by
 have b1w:=alb w Ze 40;have r1:=alz w Ze 40;have hSl:S.length=n+m+rest.length:=by rw[hS];simp;omega
 have kh:Calls Tryz.prog 93 #[.string ⟨S.toArray⟩] (w.alloc (.cells Ze 40)) fun e w'=>e=.returned (.tuple #[.int .i64 (n:Int),.int .i64 (m:Int),I0])∧∃m,w'=(w.alloc (.cells Ze 40)).drewN m:=by
  have h:=gG S (by omega) (w.alloc (.cells Ze 40));unfold BZ at h;rw[hh] at h;exact h
 have HSS:=hid hS;clear hh hS
 go_enter Tryz.func114,Tryz.ntmps114
 go_wp2_with fail
 refine ag kh ?_;rintro e w2 ⟨rfl,q,rfl⟩;have r2:Hc ((w.alloc (.cells Ze 40)).drewN q) w.heap.size Ze 40:=r1;have b2:=fU b1w q;clear r1 b1w kh;generalize(w.alloc (.cells Ze 40)).drewN q=w2 at r2 b2⊢;have g1:decide ((20:Int)≤(d:Int))=false:=an (by omega);have g2:decide ((S.length:Int)<(n:Int)+(m:Int))=false:=an (by omega);have hwn:IntKind.i64.wrap ((n:Int)+(m:Int))=(n:Int)+(m:Int):=by rw[aK];omega
 go_wp2_with fail
 have e0:(⟨S.toArray⟩:ByteArray)[0]'(by simp[ByteArray.size];omega)=b0:=dP S 0 b0 (by rw[HSS.out];rfl) _;have ha:=wO b0;have hb:=sx b0;refine aR (S:=fun _=>True) (by kernel_rfl) ?_;have r3:Hc w2.drew w.heap.size Ze 40:=r2;have b3:Below w.heap.size w w2.drew:=b2.drew
 change wpAnyH _ _ _ _ _ _ _ _ w2.drew
 clear r2 b2;generalize w2.drew=w3 at r3 b3⊢;refine tn 0 (.string ⟨S.toArray⟩) rfl (fun w' _=>by go_simp) trivial ?_;refine tn 4 (.string ⟨S.toArray⟩) rfl (fun w' _=>by go_simp) trivial ?_;refine tn 8 (.string ⟨S.toArray⟩) rfl (fun w' _=>by go_simp) trivial ?_;refine tn 1 (.int .u8 (b0.toNat:Int)) rfl (fun w' _=>by have hp0:¬((n:Int)+(m:Int)+(rest.length:Int)≤0):=(by omega);go_simp) trivial ?_;refine tn 5 (.int .u8 (b0.toNat:Int)) rfl (fun w' _=>by have hp0:¬((n:Int)+(m:Int)+(rest.length:Int)≤0):=(by omega);go_simp) trivial ?_;refine tn 9 (.int .u8 (b0.toNat:Int)) rfl (fun w' _=>by have hp0:¬((n:Int)+(m:Int)+(rest.length:Int)≤0):=(by omega);go_simp) trivial ?_;obtain⟨Q,hQ⟩:=nmm (b0.toNat/64);obtain⟨R,hR⟩:=nmm (b0.toNat% 32);refine tn 2 (.int .u8 (Q:Int)) rfl (fun w' _=>by have hq:(b0.toNat:Int)/64=(Q:Int):=(by omega);go_simp) trivial ?_;have hQ3:Q≤3:=by have:=UInt8.toNat_lt b0;omega
 have hqw:IntKind.i64.wrap (Q:Int)=(Q:Int):=by rw[aK];omega
 have hrw:IntKind.i64.wrap (R:Int)=(R:Int):=by rw[aK];omega
 rw[hR] at ha;rw[hp] at hb;refine tn 6 (.int .u8 (R:Int)) rfl (fun w' _=>by go_simp) trivial ?_;refine tn 10 (.int .u8 0) rfl (fun w' _=>by go_simp) trivial ?_;refine tn 3 (.int .i64 (Q:Int)) rfl (fun w' _=>by go_simp) trivial ?_;refine tn 7 (.int .i64 (R:Int)) rfl (fun w' _=>by go_simp) trivial ?_;refine tn 11 (Bf) rfl (fun w' _=>by go_simp) trivial ?_;refine tn 12 (.agg #[.int .i64 (Q:Int),.int .i64 (R:Int),Bf,Es,Sn]) rfl (fun w' _=>by go_simp) trivial ?_;refine ao 13 rfl (kks trivial ?_);refine ao 14 rfl (kks trivial ?_);refine xk (by kernel_rfl) ?_ _;simp only[Exit.then];refine‹∀(a:Act) (w:World),Code.wp _ _ _ a w→_› _ _ ?_;have hlt:=(gl r3);have m3:=alb w3 #[.int .i64 (Q:Int),.int .i64 (R:Int),Bf,Es,Sn] 40;have x4:=alz w3 #[.int .i64 (Q:Int),.int .i64 (R:Int),Bf,Es,Sn] 40;have r4:=(m3.block _ hlt).trans r3;have b4:=btt b3 m3;obtain⟨G,hG⟩:=nmm w3.heap.size;rw[hG] at x4 hlt m3;rw[hG];have hs4:=m3.size;generalize w3.alloc (.cells #[.int .i64 (Q:Int),.int .i64 (R:Int),Bf,Es,Sn] 40)=w4 at x4 r4 b4 hs4⊢;clear m3 hG r3 b3;have ex1:(⟨S.toArray⟩:ByteArray).extract n (n+m)=⟨c.toArray⟩:=by exact ol HSS.out hn hm
 have kc:=qC c w4 (by omega);have q2:=cval x4 2 Bf
 go_wp2_with fail
 try rw[ex1]
 refine ag kc ?_;rintro e w5 ⟨rfl,hb5⟩;have x5:=bkk hb5 x4;have r5:=bkk hb5 r4;have b5:=btt b4 hb5;have q3:=cval x5 3 Es;have z3:=aj x5 3;have x6:Hc (w5.setCell ⟨G,3,none⟩ (.string ⟨c.toArray⟩)) G #[.int .i64 (Q:Int),.int .i64 (R:Int),Bf,.string ⟨c.toArray⟩,Sn] 40:=cq (i:=3) (u:=.string ⟨c.toArray⟩) x5;have r6:=(aX w5 ⟨G,3,none⟩ (.string ⟨c.toArray⟩) w.heap.size (by show w.heap.size≠G;omega)).trans r5;have b6:=b5.setCell (p:=⟨G,3,none⟩) (Nat.le_of_lt hlt) (.string ⟨c.toArray⟩);clear kc x4 r4 b4 hb5 x5 r5 b5 ex1 q2
 go_wp2_with fail
 clear q3 z3;generalize w5.setCell ⟨G,3,none⟩ (.string ⟨c.toArray⟩)=w6 at x6 r6 b6⊢;refine aR (S:=fun w'=>Hc w' G #[.int .i64 (Q:Int),.int .i64 (R:Int),Bf,.string ⟨c.toArray⟩,Sn] 40) (by kernel_rfl) ?_;have x7:Hc w6.drew G #[.int .i64 (Q:Int),.int .i64 (R:Int),Bf,.string ⟨c.toArray⟩,Sn] 40:=x6;have r7:Hc w6.drew w.heap.size Ze 40:=r6;have b7:Below w.heap.size w w6.drew:=b6.drew
 change wpAnyH _ _ _ _ _ _ _ _ w6.drew
 clear x6 r6 b6;generalize w6.drew=w7 at x7 r7 b7⊢;refine tn 0 (.agg #[.int .i64 (Q:Int),.int .i64 (R:Int),Bf,.string ⟨c.toArray⟩,Sn]) rfl (fun w' hS=>by exact cU 40 (.tmp 9) rfl G 40 _ (0,0) (by rfl) hS _ Tryz.underlying40 rfl (by rfl)) x7 ?_;refine tn 1 (.string ⟨S.toArray⟩) rfl (fun w' hS=>by go_simp) x7 ?_;refine tn 2 (.int .i64 (n:Int)) rfl (fun w' hS=>by go_simp) x7 ?_;refine tn 3 (.int .i64 (m:Int)) rfl (fun w' hS=>by go_simp) x7 ?_;have hw2:IntKind.i64.wrap ((n:Int)+(m:Int))=(n:Int)+(m:Int):=by rw[aK];omega
 refine tn 4 (.int .i64 ((n:Int)+(m:Int))) rfl (fun w' hS=>by go_simp) x7 ?_;have ex2:(⟨S.toArray⟩:ByteArray).extract (n+m) (n+m+rest.length)=⟨rest.toArray⟩:=by exact om HSS.out hn hm
 refine tn 5 (.string ⟨rest.toArray⟩) rfl (fun w' hS=>by have hw3:(0:Int)≤(n:Int)+(m:Int):=(by omega);have hw4:((n:Int)+(m:Int)).toNat=n+m:=(by omega);go_simp) x7 ?_;have hlt7:w.heap.size≠G:=by omega
 have k8:=setRow_heap w7 w.heap.size _ #[.int .i64 (Q:Int),.int .i64 (R:Int),Bf,.string ⟨c.toArray⟩,Sn] _ _ r7;have x8:=(setRow_other w7 w.heap.size G #[.int .i64 (Q:Int),.int .i64 (R:Int),Bf,.string ⟨c.toArray⟩,Sn] (by omega)).trans x7;have b8:=xo b7 (g:=w.heap.size) (ah _) #[.int .i64 (Q:Int),.int .i64 (R:Int),Bf,.string ⟨c.toArray⟩,Sn];refine ao 6 rfl (fun K hK=>?_);refine xx 40 (.tmp 4) (.tmp 60) rfl w.heap.size 40 _ #[.int .i64 (Q:Int),.int .i64 (R:Int),Bf,.string ⟨c.toArray⟩,Sn] (by rfl) (by rfl) r7 (by rfl) (by rfl) (by simp[Value.oneCell']) ?_;refine hK _ _ x8 ?_;clear hK K
 refine ao 7 rfl (kks x8 ?_);refine xk (by kernel_rfl) ?_ _;simp only[Exit.then];refine‹∀(a:Act) (w:World),Code.wp _ _ _ a w→_› _ _ ?_
 go_wp2_with fail
 refine aH (v:=.tuple #[.agg #[.int .i64 (Q:Int),.int .i64 (R:Int),Bf,.string ⟨c.toArray⟩,Sn],.string ⟨rest.toArray⟩]) ?_ rfl ⟨?_,b8⟩
 ·have hr:=rlE k8 rfl
  simp[results,Tryz.f114,asAddr,hr,Result.andThen]
 ·subst hQ hR
  rfl
def fu(c:Int):Value:=.iface 33 (.int .i64 c)
abbrev Pn:Ending:=.panicked [{v:=fu 70,recovered:=false}]
def RdQ(w:World)(r:Except Int (El×List UInt8))(e:Ending)(w':World):Prop:=
 (match r with
  | .ok (el,rest)=>∃u,e=.returned (.tuple #[.agg (elA el u),.string ⟨rest.toArray⟩])∧bf (fun g=>w.heap.size≤g) w' u el.kids
  | .error c=>e=.panicked [{v:=fu c,recovered:=false}])∧Bw w w'
def RdP(w:World)(k:Nat)(b:List UInt8):Ending→World→Prop:=RdQ w (bP k b)
def BV(w:World)(G Q R k:Nat)(c:List UInt8)(cv:Value)(wr:World):Prop:=
 ∃(done:List El) (us:List Value) (c2:List UInt8) (v:Value),cv=.string ⟨c2.toArray⟩∧dC (bP k) c.length c=(match dC (bP k) c2.length c2 with| .error e=>.error e| .ok rem=>.ok (done++rem))∧done.length+c2.length≤65536∧
  Hc wr G #[.int .i64 (Q:Int),.int .i64 (R:Int),.bool true,Es,v] 40∧Hc wr w.heap.size Ze 40∧
  wr.ownsRow (G+1) 40 5 v done.length (cx done us)∧us.length=done.length∧Bw w wr∧
  ∀(j:Nat) (e:El) (u:Value),done[j]?=some e→us[j]?=some u→bf (fun g=>G<g∧v.ownBlock≠some g) wr u e.kids
theorem Fy(k:Nat)(ih:∀(b:List UInt8) (w:World),b.length≤1000000→Calls Tryz.prog 114 #[.string ⟨b.toArray⟩,.int .i64 ((20 -k:Nat):Int)] w (RdP w k b))(hk20:k<20)
  (n m:Nat) (b0:UInt8) (r0 c rest S:List UInt8) (hS:S=(b0::r0)++(c++rest)) (hn:r0.length+1=n) (hm:c.length=m) (hh:bt S=(n,m,0)) (hn6:n≤6) (hm6:m≤65536) (hp:b0.toNat/32% 2=1) (hr:rest.length≤900000000) (w:World) (RES:Except Int (El×List UInt8))
  (hRES:RES=(match dC (bP k) c.length c with| .error e=>.error e| .ok ks=>.ok (.mk ((b0.toNat/64:Nat):Int) ((b0.toNat% 32:Nat):Int) true [] ks,rest))):
  Calls Tryz.prog 114 #[.string ⟨S.toArray⟩,.int .i64 ((19 -k:Nat):Int)] w (RdQ w RES):=by
 obtain⟨i0,hi0,hz0,hz1,hz2⟩:=info_parts Tryz.infoElement;have IH:=hid ih;clear ih;obtain⟨PR,hPR⟩:∃PR:Ending→World→Prop,PR=RdQ w RES:=⟨_,rfl⟩;rw[←hPR];obtain⟨HPR,HRES⟩:=Cg hPR hRES;clear hPR hRES;obtain⟨d,hd⟩:=nmm (19 -k);have hd20:20 -k=d+1:=by omega
 rw[hd];rw[hd20] at IH;have b1w:=alb w Ze 40;have r1:=alz w Ze 40;have hSl:S.length=n+m+rest.length:=by rw[hS];simp;omega
 have kh:Calls Tryz.prog 93 #[.string ⟨S.toArray⟩] (w.alloc (.cells Ze 40)) fun e w'=>e=.returned (.tuple #[.int .i64 (n:Int),.int .i64 (m:Int),I0])∧∃m,w'=(w.alloc (.cells Ze 40)).drewN m:=by
  have h:=gG S (by omega) (w.alloc (.cells Ze 40));unfold BZ at h;rw[hh] at h;exact h
 have HSS:=hid hS;clear hh hS
 go_enter Tryz.func114,Tryz.ntmps114
 go_wp2_with fail
 refine ag kh ?_;rintro e w2 ⟨rfl,q,rfl⟩;have r2:Hc ((w.alloc (.cells Ze 40)).drewN q) w.heap.size Ze 40:=r1;have b2:=fU b1w q;clear r1 b1w kh;generalize(w.alloc (.cells Ze 40)).drewN q=w2 at r2 b2⊢;have g1:decide ((20:Int)≤(d:Int))=false:=an (by omega);have g2:decide ((S.length:Int)<(n:Int)+(m:Int))=false:=an (by omega);have hwn:IntKind.i64.wrap ((n:Int)+(m:Int))=(n:Int)+(m:Int):=by rw[aK];omega
 go_wp2_with fail
 have e0:(⟨S.toArray⟩:ByteArray)[0]'(by simp[ByteArray.size];omega)=b0:=dP S 0 b0 (by rw[HSS.out];rfl) _;have ha:=wO b0;have hb:=sx b0;refine aR (S:=fun _=>True) (by kernel_rfl) ?_;have r3:Hc w2.drew w.heap.size Ze 40:=r2;have b3:Below w.heap.size w w2.drew:=b2.drew
 change wpAnyH _ _ _ _ _ _ _ _ w2.drew
 clear r2 b2;generalize w2.drew=w3 at r3 b3⊢;refine tn 0 (.string ⟨S.toArray⟩) rfl (fun w' _=>by go_simp) trivial ?_;refine tn 4 (.string ⟨S.toArray⟩) rfl (fun w' _=>by go_simp) trivial ?_;refine tn 8 (.string ⟨S.toArray⟩) rfl (fun w' _=>by go_simp) trivial ?_;refine tn 1 (.int .u8 (b0.toNat:Int)) rfl (fun w' _=>by have hp0:¬((n:Int)+(m:Int)+(rest.length:Int)≤0):=(by omega);go_simp) trivial ?_;refine tn 5 (.int .u8 (b0.toNat:Int)) rfl (fun w' _=>by have hp0:¬((n:Int)+(m:Int)+(rest.length:Int)≤0):=(by omega);go_simp) trivial ?_;refine tn 9 (.int .u8 (b0.toNat:Int)) rfl (fun w' _=>by have hp0:¬((n:Int)+(m:Int)+(rest.length:Int)≤0):=(by omega);go_simp) trivial ?_;obtain⟨Q,hQ⟩:=nmm (b0.toNat/64);obtain⟨R,hR⟩:=nmm (b0.toNat% 32);refine tn 2 (.int .u8 (Q:Int)) rfl (fun w' _=>by have hq:(b0.toNat:Int)/64=(Q:Int):=(by omega);go_simp) trivial ?_;have hQ3:Q≤3:=by have:=UInt8.toNat_lt b0;omega
 have hqw:IntKind.i64.wrap (Q:Int)=(Q:Int):=by rw[aK];omega
 have hrw:IntKind.i64.wrap (R:Int)=(R:Int):=by rw[aK];omega
 rw[hR] at ha;rw[hp] at hb;refine tn 6 (.int .u8 (R:Int)) rfl (fun w' _=>by go_simp) trivial ?_;refine tn 10 (.int .u8 32) rfl (fun w' _=>by go_simp) trivial ?_;refine tn 3 (.int .i64 (Q:Int)) rfl (fun w' _=>by go_simp) trivial ?_;refine tn 7 (.int .i64 (R:Int)) rfl (fun w' _=>by go_simp) trivial ?_;refine tn 11 (.bool true) rfl (fun w' _=>by go_simp) trivial ?_;refine tn 12 (.agg #[.int .i64 (Q:Int),.int .i64 (R:Int),.bool true,Es,Sn]) rfl (fun w' _=>by go_simp) trivial ?_;refine ao 13 rfl (kks trivial ?_);refine ao 14 rfl (kks trivial ?_);refine xk (by kernel_rfl) ?_ _;simp only[Exit.then];refine‹∀(a:Act) (w:World),Code.wp _ _ _ a w→_› _ _ ?_;have hlt:=(gl r3);have m3:=alb w3 #[.int .i64 (Q:Int),.int .i64 (R:Int),.bool true,Es,Sn] 40;have x4:=alz w3 #[.int .i64 (Q:Int),.int .i64 (R:Int),.bool true,Es,Sn] 40;have r4:=(m3.block _ hlt).trans r3;have b4:=btt b3 m3;obtain⟨G,hG⟩:=nmm w3.heap.size;rw[hG] at x4 hlt m3;rw[hG];have hs4:=m3.size;generalize w3.alloc (.cells #[.int .i64 (Q:Int),.int .i64 (R:Int),.bool true,Es,Sn] 40)=w4 at x4 r4 b4 hs4⊢;clear m3 hG r3 b3;have ex1:(⟨S.toArray⟩:ByteArray).extract n (n+m)=⟨c.toArray⟩:=by exact ol HSS.out hn hm
 have q2:=cval x4 2 (.bool true)
 go_wp2_with fail
 clear q2
 try rw[ex1]
 go_loopw [10] (fun cv wr=>BV w G Q R k c cv wr) (fun cv _=>vX cv)
 case atStart=>exact⟨[],[],c,Sn,by first|rfl|(rw[ex1]),by cases dC (bP k) c.length c<;>rfl,by simp;omega,x4,r4,World.ownsRow_nil _ _ _ _,rfl,b4,fun j e u h=>by simp at h⟩
 case round=>
  clear x4 r4 b4 hs4 ex1;obtain⟨dn,us,c2,v,rfl,hk2,hc2,hx,hrz,hown,hul,hbe,hkids⟩:=hrel;obtain⟨av,cv,hfv⟩:=gf hown;subst hfv;cases hcs:c2 with
  |nil=>
   rw[hcs] at hk2;have hAns:RES=.ok (.mk (Q:Int) (R:Int) true [] dn,rest):=by
    rw[HRES.out,hk2];simp only[dC,List.append_nil];rw[hQ,hR]
   have HANS:=hid hAns;clear hk2 hAns hc2;have hwG:w.heap.size<G:=by omega
   have res:=jI (P:=fun g=>G<g) hown hul (fun j e u q1 q2=>(hkids j e u q1 q2).mono (fun g hg _=>hg.1)) (fun g hg=>hg);have HR:=hid res;clear hown hkids res hul
   go_wp2_with fail
   refine aR (S:=fun w'=>Hc w' G #[.int .i64 (Q:Int),.int .i64 (R:Int),.bool true,Es,.slice av dn.length cv] 40) (by kernel_rfl) ?_;have x7:Hc wr.drew G #[.int .i64 (Q:Int),.int .i64 (R:Int),.bool true,Es,.slice av dn.length cv] 40:=hx;have r7:Hc wr.drew w.heap.size Ze 40:=hrz;have b7:Below w.heap.size w wr.drew:=hbe.drew;have HR7:=hid (HR.out.kept (w':=wr.drew) (Q:=fun g=>G<g) (fun g hg _=>⟨rfl,hg⟩))
   change wpAnyH _ _ _ _ _ _ _ _ wr.drew
   clear hx hrz hbe HR;generalize wr.drew=w7 at x7 r7 b7 HR7⊢;refine tn 0 (.agg #[.int .i64 (Q:Int),.int .i64 (R:Int),.bool true,Es,.slice av dn.length cv]) rfl (fun w' hS=>by exact cU 40 (.tmp 9) rfl G 40 _ (0,0) (by rfl) hS _ Tryz.underlying40 rfl (by rfl)) x7 ?_;refine tn 1 (.string ⟨S.toArray⟩) rfl (fun w' hS=>by go_simp) x7 ?_;refine tn 2 (.int .i64 (n:Int)) rfl (fun w' hS=>by go_simp) x7 ?_;refine tn 3 (.int .i64 (m:Int)) rfl (fun w' hS=>by go_simp) x7 ?_;have hw2:IntKind.i64.wrap ((n:Int)+(m:Int))=(n:Int)+(m:Int):=by rw[aK];omega
   refine tn 4 (.int .i64 ((n:Int)+(m:Int))) rfl (fun w' hS=>by go_simp) x7 ?_;have ex2:(⟨S.toArray⟩:ByteArray).extract (n+m) (n+m+rest.length)=⟨rest.toArray⟩:=by exact om HSS.out hn hm
   refine tn 5 (.string ⟨rest.toArray⟩) rfl (fun w' hS=>by have hw3:(0:Int)≤(n:Int)+(m:Int):=(by omega);have hw4:((n:Int)+(m:Int)).toNat=n+m:=(by omega);go_simp) x7 ?_;have k8:=setRow_heap w7 w.heap.size _ #[.int .i64 (Q:Int),.int .i64 (R:Int),.bool true,Es,.slice av dn.length cv] _ _ r7;have x8:=(setRow_other w7 w.heap.size G #[.int .i64 (Q:Int),.int .i64 (R:Int),.bool true,Es,.slice av dn.length cv] (by omega)).trans x7;have b8:=xo b7 (g:=w.heap.size) (ah _) #[.int .i64 (Q:Int),.int .i64 (R:Int),.bool true,Es,.slice av dn.length cv];have K8:bf (fun g=>w.heap.size≤g) (w7.setRow w.heap.size #[.int .i64 (Q:Int),.int .i64 (R:Int),.bool true,Es,.slice av dn.length cv]) (.slice av dn.length cv) dn:=HR7.out.kept fun g hg _=>⟨setRow_other _ _ _ _ (by omega),by omega⟩
   refine ao 6 rfl (fun K hK=>?_);refine xx 40 (.tmp 4) (.tmp 81) rfl w.heap.size 40 _ #[.int .i64 (Q:Int),.int .i64 (R:Int),.bool true,Es,.slice av dn.length cv] (by rfl) (by rfl) r7 (by rfl) (by rfl) (by simp[Value.oneCell']) ?_;refine hK _ _ x8 ?_;clear hK K
   refine ao 7 rfl (kks x8 ?_);refine xk (by kernel_rfl) ?_ _;simp only[Exit.then];refine‹∀(a:Act) (w:World),Code.wp _ _ _ a w→_› _ _ ?_
   go_wp2_with fail
   refine aH (v:=.tuple #[.agg #[.int .i64 (Q:Int),.int .i64 (R:Int),.bool true,Es,.slice av dn.length cv],.string ⟨rest.toArray⟩]) ?_ rfl (by rw[HPR.out];unfold RdQ;rw[HANS.out];exact⟨⟨.slice av dn.length cv,rfl,K8⟩,b8⟩)
   ·have hr:=rlE k8 rfl
    simp[results,Tryz.f114,asAddr,hr,Result.andThen]
  |cons x0 t0=>
   have hne:c2.isEmpty=false:=by rw[hcs];rfl
   have hst:=oL (mi k) x0 t0;rw[←hcs] at hst;rw[hst] at hk2;have hcl:c2.length≤65536:=by omega
   clear hst;rw[←hcs];have m1:=alb wr Ze 40;have rk:=alz wr Ze 40;have hlt:=hown.lt;have hGlt:=(gl hx);have hsz:=hbe.size;have kr:=IH.out c2 (wr.alloc (.cells Ze 40)) (by omega);unfold RdP RdQ at kr;have hdc:((d+1:Nat):Int)=(d:Int)+1:=by omega
   rw[hdc] at kr;obtain⟨HX,HZ,HO,HKD,HB,HLT⟩:=Cy ((m1.block _ hGlt).trans hx) ((bkk m1 hrz)) hown hkids (hbe.trans (m1.mono hsz)) hlt;have hsm:=m1.size;obtain⟨M1,RK⟩:=Cg m1 rk;clear hdc hx hrz hown hkids hbe hlt m1 rk hcs;cases hrr:bP k c2 with
   |error ec=>
    rw[hrr] at kr hk2;simp only at hk2;have hAns:RES=.error ec:=by rw[HRES.out,hk2]
    have HANS:=hid hAns;clear hAns hk2 hrr
    go_wp2_with fail
    refine ag kr ?_;rintro e w2 ⟨he,hb2⟩
    try simp only at he
    subst he;refine⟨rfl,?_⟩;rw[HPR.out];unfold RdQ;rw[HANS.out];exact⟨rfl,HB.out.trans (hb2.mono (by omega))⟩
   |ok pr=>
   obtain⟨k2,c3⟩:=pr;rw[hrr] at kr hk2;simp only at hk2;have hlen3:=mi k _ _ _ hrr;have HKS:=hid hk2;clear hk2 hrr
   go_wp2_with fail
   refine ag kr ?_;rintro e w2 ⟨he,hb2⟩
   try simp only at he
   obtain⟨u2,he1,hu2⟩:=he;subst he1;obtain⟨a2,cc2,hf2⟩:=hu2.shape;subst hf2;have hkb:=(hb2.block _ (gl RK.out)).trans RK.out;have hx2:=(hb2.block _ (gl HX.out)).trans HX.out;have hz2:=(hb2.block _ (gl HZ.out)).trans HZ.out;have ho2:=ge (ge HO.out M1.out) hb2;have hb3:=HB.out.trans (hb2.mono (by omega));have hs2:=hb2.size;have hBlt:wr.heap.size<(wr.alloc (.cells Ze 40)).heap.size:=(gl RK.out);have hold2:∀g,g<wr.heap.size→w2.heap[g]?=wr.heap[g]?:=fun g hg=>(hb2.block g (by omega)).trans (M1.out.block g hg)
   -- the kid is written into its block
   have x3:Hc (w2.setRow wr.heap.size (elA k2 (.slice a2 k2.kids.length cc2))) G #[.int .i64 (Q:Int),.int .i64 (R:Int),.bool true,Es,.slice av dn.length cv] 40:=(setRow_other w2 wr.heap.size G _ (by omega)).trans hx2;have rz3:=(setRow_other w2 wr.heap.size w.heap.size (elA k2 (.slice a2 k2.kids.length cc2)) (by omega)).trans hz2;have k3:Hc (w2.setRow wr.heap.size (elA k2 (.slice a2 k2.kids.length cc2))) wr.heap.size (Er k2 a2 cc2) 40:=setRow_heap w2 wr.heap.size _ _ _ _ hkb;have ho3:(w2.setRow wr.heap.size (elA k2 (.slice a2 k2.kids.length cc2))).ownsRow (G+1) 40 5 (.slice av dn.length cv) dn.length (cx dn us):=ho2.kept (pP w2 wr.heap.size _) (.inr (fun h=>by have:=(HLT.out _ h).2;omega));have b3:Below w.heap.size w (w2.setRow wr.heap.size (elA k2 (.slice a2 k2.kids.length cc2))):=xo hb3 (by omega) _;have hold3:∀g,g<wr.heap.size→(w2.setRow wr.heap.size (elA k2 (.slice a2 k2.kids.length cc2))).heap[g]?=wr.heap[g]?:=fun g hg=>(setRow_other w2 wr.heap.size g _ (by omega)).trans (hold2 g hg)
   have hnew3:∀g,wr.heap.size<g→(w2.setRow wr.heap.size (elA k2 (.slice a2 k2.kids.length cc2))).heap[g]?=w2.heap[g]?:=fun g hg=>setRow_other w2 wr.heap.size g _ (by omega)
   have hsz3:w2.heap.size≤(w2.setRow wr.heap.size (elA k2 (.slice a2 k2.kids.length cc2))).heap.size:=by simp[World.setRow]
   obtain⟨HU,HOLD,HNEW,HK2⟩:=Ci hu2 hold3 hnew3 hkb;clear hu2 hold2 hold3 hnew3 kr hb2 hx2 hz2 ho2 hb3 hkb HX HZ HO HB M1 RK;obtain⟨HO3,HX3,HZ3,HK3,HB3⟩:=Cj ho3 x3 rz3 k3 b3;clear ho3 x3 rz3 k3 b3
   go_wp2_with (first
    |(refine stE (.tmp 11) (.tmp 73) (elA k2 (.slice a2 k2.kids.length cc2)) HK2.out rfl (by simp[elA,Value.oneCell']) ?_;generalize w2.setRow wr.heap.size (elA k2 (.slice a2 k2.kids.length cc2))=w3 at HO3 HX3 HZ3 HK3 HB3 HOLD HNEW hsz3⊢;have q4:=cval HX3.out 4 (.slice av dn.length cv))
    |(refine ldE (.tmp 11) HK3.out rfl ?_)
    |(at_builtin;refine wpList_append_lies _ rfl (.tmp 76) (.tmp 78) 38 rfl (G+1) 40 i0 _ 5 64 Tryz.underlying38 hi0 hz0 hz1 hz2 rfl (by decide) (.slice av dn.length cv) dn.length (cx dn us) rfl (HO3.out.alloc _) ⟨w3.heap.size,0,none⟩ 1 1 [.int .i64 k2.cls,.int .i64 k2.tag,.bool k2.cons,.string ⟨k2.bytes.toArray⟩,.slice a2 k2.kids.length cc2] rfl rfl (World.news_of_block (fb _ _ _ rfl)) (by simp[Value.oneCell']) (by decide) (by unfold maxLen;omega) (by omega) (by simp;omega) (w3.heap.size+1) (by simp) ?_;intro g5 cap5 w5 ho5 hg5 hat5 hlt5;clear q4;have x5:=(hg5.block G (by simp;omega) (fun h=>by have:=(HLT.out G h.symm).1;omega)).trans ((alloc_old _ _ _ (by omega)).trans HX3.out);have q5:=cval x5 4 (.slice av dn.length cv);have z5:=aj x5 4))
   have hl5:=ho5.lt;have x6:Hc (w5.setCell ⟨G,4,none⟩ (.slice (some ⟨g5,0,none⟩) (dn.length+1) cap5)) G #[.int .i64 (Q:Int),.int .i64 (R:Int),.bool true,Es,(.slice (some ⟨g5,0,none⟩) (dn.length+1) cap5)] 40:=cq (i:=4) (u:=(.slice (some ⟨g5,0,none⟩) (dn.length+1) cap5)) x5;have hgG:G<g5:=by have:=(hl5 g5 rfl).1;omega
   have hG3:G<w3.heap.size:=(gl HX3.out);have rz5:Hc w5 w.heap.size Ze 40:=(hg5.block w.heap.size (by simp;omega) (fun h=>by have:=(HLT.out _ h.symm).1;omega)).trans ((alloc_old _ _ _ (by omega)).trans HZ3.out);have rz6:=(aX w5 ⟨G,4,none⟩ (.slice (some ⟨g5,0,none⟩) (dn.length+1) cap5) w.heap.size (by show w.heap.size≠G;omega)).trans rz5;have b6:=(((HB3.out.alloc (by omega) (.cells #[.int .i64 k2.cls,.int .i64 k2.tag,.bool k2.cons,.string ⟨k2.bytes.toArray⟩,(.slice a2 k2.kids.length cc2)] 40)).grown hg5 (by simp;omega) (fun b hb=>by have:=(HLT.out b hb).1;omega))).setCell (p:=⟨G,4,none⟩) (by show w.heap.size≤G;omega) (.slice (some ⟨g5,0,none⟩) (dn.length+1) cap5);have own6:(w5.setCell ⟨G,4,none⟩ (.slice (some ⟨g5,0,none⟩) (dn.length+1) cap5)).ownsRow (G+1) 40 5 (.slice (some ⟨g5,0,none⟩) (dn.length+1) cap5) (dn++[k2]).length (cx (dn++[k2]) (us++[(.slice a2 k2.kids.length cc2)])):=by
    rw[EM _ _ _ _ hul,xn];exact ho5.kept (kW w5 G 4 _) (.inr (fun h=>by have:=(hl5 _ h).1;omega))
   have hoth:∀g',g'≠G→g'<w3.heap.size→(.slice av dn.length cv:Value).ownBlock≠some g'→(w5.setCell ⟨G,4,none⟩ (.slice (some ⟨g5,0,none⟩) (dn.length+1) cap5)).heap[g']?=w3.heap[g']?∧((.slice (some ⟨g5,0,none⟩) (dn.length+1) cap5):Value).ownBlock≠some g':=by
    intro g' hne hg' hno;refine⟨(aX w5 ⟨G,4,none⟩ (.slice (some ⟨g5,0,none⟩) (dn.length+1) cap5) g' hne).trans ((hg5.block g' (by simp;omega) (fun h=>hno h.symm)).trans (alloc_old _ _ _ hg')),fun h=>?_⟩;rcases hat5 with h5|h5
    ·have:g5=g':=by simpa[Value.ownBlock] using h
     subst this;exact hno h5
    ·have:g5=g':=by simpa[Value.ownBlock] using h
     omega
   refine⟨⟨dn++[k2],us++[(.slice a2 k2.kids.length cc2)],c3,(.slice (some ⟨g5,0,none⟩) (dn.length+1) cap5),rfl,by rw[HKS.out];cases dC (bP k) c3.length c3<;>simp,by simp;omega,x6,rz6,own6,by simp[hul],b6,fun j e' u' q1 q2=>?_⟩,?_⟩
   ·by_cases hjk:j<dn.length
    ·rw[List.getElem?_append_left hjk] at q1
     rw[List.getElem?_append_left (by rw[hul];exact hjk)] at q2;refine(HKD.out j e' u' q1 q2).kept fun g' hg' hlt'=>?_
     obtain⟨r1,r2⟩:=hoth g' (by omega) (by omega) hg'.2;exact⟨r1.trans (HOLD.out g' hlt'),hg'.1,r2⟩
    ·have hj:j=dn.length:=by
      have:=(List.getElem?_eq_some_iff.1 q2).1
      simp[hul] at this
      omega
     subst hj;rw[List.getElem?_append_right (ah _),Nat.sub_self] at q1;rw[List.getElem?_append_right (by rw[hul];exact ah _),hul,Nat.sub_self] at q2;cases q1;cases q2;refine HU.out.kept fun g' hg' hlt'=>?_
     obtain⟨r1,r2⟩:=hoth g' (by omega) (by omega) (fun h=>by have:=(HLT.out g' h).2;omega);exact⟨r1.trans (HNEW.out g' (by omega)),by omega,r2⟩
   ·show(⟨c3.toArray⟩:ByteArray).size<(⟨c2.toArray⟩:ByteArray).size
    rw[Lib.size_mk,Lib.size_mk];exact hlen3
theorem lh(S:List UInt8)(hl:S.length≤1000000)(w:World)(d:Nat)(cc:Int)(hc:(bt S).2.2=cc)(hc0:cc≠0):
  Calls Tryz.prog 114 #[.string ⟨S.toArray⟩,.int .i64 (d:Int)] w fun e w'=>e=.panicked [{v:=fu cc,recovered:=false}]∧Bw w w':=by
 have b1:=alb w Ze 40;have kh:=gG S (by omega) (w.alloc (.cells Ze 40));unfold BZ at kh;obtain⟨n,m,c,hh⟩:∃n m c,bt S=(n,m,c):=⟨_,_,_,rfl⟩;rw[hh] at hc;simp only at hc;subst hc;have f0:(c==0)=false:=aE hc0;have f1:(c !=0)=true:=by simp only[bne,f0];rfl
 rw[hh] at kh;simp only at kh;have HH:=hid hh;clear hh;unfold fu
 go_enter Tryz.func114,Tryz.ntmps114
 go_wp2_with fail
 refine ag kh ?_;rintro e w2 ⟨rfl,q,rfl⟩;have b2:=fU b1 q;clear kh b1;generalize(w.alloc (.cells Ze 40)).drewN q=w2 at b2⊢
 go_wp2_with fail
 exact⟨rfl,rfl,b2⟩
theorem Ai(S:List UInt8)(hl:S.length≤1000000)(w:World)(hc:(bt S).2.2=0):
  Calls Tryz.prog 114 #[.string ⟨S.toArray⟩,.int .i64 20] w fun e w'=>e=.panicked [{v:=fu (23),recovered:=false}]∧Bw w w':=by
 have b1:=alb w Ze 40;have kh:=gG S (by omega) (w.alloc (.cells Ze 40));unfold BZ at kh;obtain⟨n,m,c,hh⟩:∃n m c,bt S=(n,m,c):=⟨_,_,_,rfl⟩;rw[hh] at hc;simp only at hc;subst hc;rw[hh] at kh;simp only at kh;have HH:=hid hh;clear hh;unfold fu
 go_enter Tryz.func114,Tryz.ntmps114
 go_wp2_with fail
 refine ag kh ?_;rintro e w2 ⟨rfl,q,rfl⟩;have b2:=fU b1 q;clear kh b1;generalize(w.alloc (.cells Ze 40)).drewN q=w2 at b2⊢
 go_wp2_with fail
 exact⟨rfl,rfl,b2⟩
theorem ny(S:List UInt8)(hl:S.length≤1000000)(w:World)(d:Nat)(hd:d<20)(hc:(bt S).2.2=0)(hs:S.length<(bt S).1+(bt S).2.1):
  Calls Tryz.prog 114 #[.string ⟨S.toArray⟩,.int .i64 (d:Int)] w fun e w'=>e=.panicked [{v:=fu (20),recovered:=false}]∧Bw w w':=by
 have b1:=alb w Ze 40;have kh:=gG S (by omega) (w.alloc (.cells Ze 40));unfold BZ at kh;obtain⟨n,m,c,hh⟩:∃n m c,bt S=(n,m,c):=⟨_,_,_,rfl⟩;have hb:=jL S;rw[hh] at hc hs hb;simp only at hc hs hb;subst hc;have f1:decide ((d:Int)≥20)=false:=an (by omega);have f2:decide ((20:Int)≤(d:Int))=false:=an (by omega);have hwn:IntKind.i64.wrap ((n:Int)+(m:Int))=(n:Int)+(m:Int):=by rw[aK];omega
 have f3:decide ((S.length:Int)<(n:Int)+(m:Int))=true:=aC (by omega);rw[hh] at kh;simp only at kh;have HH:=hid hh;clear hh;unfold fu
 go_enter Tryz.func114,Tryz.ntmps114
 go_wp2_with fail
 refine ag kh ?_;rintro e w2 ⟨rfl,q,rfl⟩;have b2:=fU b1 q;clear kh b1;generalize(w.alloc (.cells Ze 40)).drewN q=w2 at b2⊢
 go_wp2_with fail
 exact⟨rfl,rfl,b2⟩
theorem rI(S:List UInt8)(n m:Nat)(hh:bt S=(n,m,0))(hl:n+m≤S.length):
  ∃b0 r0 c rest,S=(b0::r0)++(c++rest)∧r0.length+1=n∧c.length=m∧c=(S.drop n).take m∧rest=S.drop (n+m)∧S.headD 0=b0:=by
 have h2:=mh S (by rw[hh]);rw[hh] at h2;simp only at h2;cases S with
 |nil=>simp[bt] at hh
 |cons b0 t=>
  obtain⟨n,rfl⟩:∃k,n=k+1:=⟨n -1,by omega⟩;simp only[aG] at hl;refine⟨b0,t.take n,(t.drop n).take m,t.drop (n+m),?_,by simp;omega,by simp;omega,by simp,?_,rfl⟩
  ·rw[List.cons_append]
   congr 1
   rw[←List.drop_drop,List.take_append_drop,List.take_append_drop]
  ·rw[show n+1+m=(n+m)+1 by omega,List.drop_succ_cons]
theorem gn:∀(k:Nat),k≤20→∀(b:List UInt8) (w:World),b.length≤1000000→Calls Tryz.prog 114 #[.string ⟨b.toArray⟩,.int .i64 ((20 -k:Nat):Int)] w (RdP w k b)
 |0,_,b,w,hl=>by
  unfold RdP
  by_cases h0:(bt b).2.2=0
  ·have e:bP 0 b=.error 23:=by unfold bP;rw[if_pos h0]
   rw[e];exact Ai b hl w h0
  ·have e:bP 0 b=.error (bt b).2.2:=by unfold bP;rw[if_neg h0]
   rw[e];exact lh b hl w 20 _ rfl h0
 |k+1,hk,b,w,hl=>by
  unfold RdP;have hd:20 -(k+1)=19 -k:=by omega
  rw[hd]
  by_cases h0:(bt b).2.2=0
  ·by_cases h1:b.length<(bt b).1+(bt b).2.1
   ·have e:bP (k+1) b=.error 20:=by unfold bP;rw[if_pos h0,if_pos h1]
    rw[e];exact ny b hl w (19 -k) (by omega) h0 h1
   ·obtain⟨n,m,c,hh⟩:∃n m c,bt b=(n,m,c):=⟨_,_,_,rfl⟩
    have hb:=jL b;have hb6:=pW b;have e:bP (k+1) b=(if(b.headD 0).toNat/32% 2=0 then .ok (.mk (((b.headD 0).toNat/64:Nat):Int) (((b.headD 0).toNat% 32:Nat):Int) false ((b.drop n).take m) [],b.drop (n+m))
      else match dC (bP k) ((b.drop n).take m).length ((b.drop n).take m) with
       | .error e=>.error e
       | .ok ks=>.ok (.mk (((b.headD 0).toNat/64:Nat):Int) (((b.headD 0).toNat% 32:Nat):Int) true [] ks,b.drop (n+m))):=by
     rw[hh] at h0 h1;simp only at h0 h1;unfold bP;rw[hh];simp only[h0,h1,if_true,if_false]
     try rfl
    rw[hh] at h0 h1 hb hb6;simp only at h0 h1 hb hb6;subst h0;obtain⟨b0,r0,cc,rest,hS,hn,hm,hc,hr,h8⟩:=rI b n m hh (by omega);have hrl:rest.length≤900000000:=by rw[hr];simp;omega
    rw[e,←hc,←hr,h8]
    by_cases hp:b0.toNat/32% 2=0
    ·rw[if_pos hp]
     refine(nu n m b0 r0 cc rest b hS hn hm hh (by omega) (by omega) hp hrl (19 -k) (by omega) w).mono ?_;rintro e w' ⟨rfl,hb'⟩;exact⟨⟨_,rfl,bf.nil _ _⟩,hb'⟩
    ·rw[if_neg hp]
     exact Fy k (fun b w hl=>by
      have h:=gn k (by omega) b w hl;exact h) (by omega) n m b0 r0 cc rest b hS hn hm hh (by omega) (by omega) (by omega) hrl w _ rfl
  ·have e:bP (k+1) b=.error (bt b).2.2:=by unfold bP;rw[if_neg h0]
   rw[e];exact lh b hl w (19 -k) _ rfl h0
theorem kP(b:List UInt8)(el:El)(h:bP 20 b=.ok (el,[]))(hl:b.length≤1000000)(w:World):
  Calls Tryz.prog 96 #[.string ⟨b.toArray⟩] w fun e w'=>(∃u,e=.returned (.tuple #[.agg (elA el u),I0])∧bf (fun g=>w.heap.size≤g) w' u el.kids)∧Bw w w':=by
 have hmf:∀(fn:Fn) (first cap:Array Value) (w:World),(Instr.makeFunc fn first cap).run Tryz.prog w=.ok (.func fn first cap) w:=fun _ _ _ _=>rfl
 obtain⟨PR,hPR⟩:∃PR:Ending→World→Prop,PR=fun e w'=>(∃u,e=.returned (.tuple #[.agg (elA el u),I0])∧bf (fun g=>w.heap.size≤g) w' u el.kids)∧Bw w w':=⟨_,rfl⟩
 rw[←hPR];have HP:=hid hPR;clear hPR;have bA:Bw w ((w.alloc (.cells Ze 40)).alloc (.cells #[I0] 33)):=((aA _ _).alloc (ah _) _).alloc (by simp) _;have rA:Hc ((w.alloc (.cells Ze 40)).alloc (.cells #[I0] 33)) w.heap.size Ze 40:=(alloc_old _ _ _ (by simp)).trans (fb _ _ _ rfl);have nA:Hc ((w.alloc (.cells Ze 40)).alloc (.cells #[I0] 33)) (w.heap.size+1) #[I0] 33:=fb _ _ _ (by simp);have kr:∀w,Calls Tryz.prog 114 #[.string ⟨b.toArray⟩,I0] w fun e w'=>(∃u,e=.returned (.tuple #[.agg (elA el u),Es])∧bf (fun g=>w.heap.size≤g) w' u el.kids)∧Bw w w':=fun w=>by
  have h9:=gn 20 (ah _) b w hl;unfold RdP RdQ at h9;rw[h] at h9;exact h9
 clear h hl
 go_enter_defers Tryz.func96,Tryz.ntmps96
 go_wp2_with fail
 generalize(w.alloc (.cells Ze 40)).alloc (.cells #[I0] 33)=wA at bA rA nA⊢;refine ag (show Calls _ _ _ _ _ from kr wA) ?_;rintro e w1 ⟨⟨u,rfl,hu⟩,hb1⟩;obtain⟨a2,c2,hf2⟩:=hu.shape;subst hf2;have r1:=bkk hb1 rA;have n1:=bkk hb1 nA;have b1:=btt bA hb1;clear kr hb1 bA rA;have m1:=alb w1 (Er el a2 c2) 40;have hltn:=(gl n1);have r2:=bkk m1 r1;have n2:=(m1.block _ hltn).trans n1;have b2:=btt b1 m1;have hA2:w.heap.size+2≤wA.heap.size:=(gl nA);have r3:=setRow_heap (w1.alloc (.cells (Er el a2 c2) 40)) w.heap.size _ (Er el a2 c2) _ _ r2;have n3:=(setRow_other (w1.alloc (.cells (Er el a2 c2) 40)) w.heap.size (w.heap.size+1) (Er el a2 c2) (by omega)).trans n2;have b3:=xo b2 (g:=w.heap.size) (ah _) (Er el a2 c2);have u3:bf (fun g=>w.heap.size+2≤g) ((w1.alloc (.cells (Er el a2 c2) 40)).setRow w.heap.size (Er el a2 c2)) (.slice a2 el.kids.length c2) el.kids:=(hu.below m1).kept fun g hg _=>⟨setRow_other _ _ _ _ (by omega),by omega⟩
 obtain⟨HU,HR,HN,HB⟩:=Ci u3 r3 n3 b3;clear hu r1 n1 b1 m1 n2 b2 r3 n3 b3 u3 nA;unfold elA
 go_wp2_with (refine stE (.tmp 2) (.tmp 15) (Er el a2 c2) r2 rfl (by simp[Value.oneCell']) ?_;clear r2;generalize(w1.alloc (.cells (Er el a2 c2) 40)).setRow w.heap.size (Er el a2 c2)=w3 at HU HR HN HB⊢;have q3:=cval HN.out 0 I0;have z3:=aj HN.out 0)
 have f1:Hc (w3.setCell ⟨w.heap.size+1,0,none⟩ (I0)) w.heap.size (Er el a2 c2) 40:=(aX w3 ⟨w.heap.size+1,0,none⟩ (I0) w.heap.size (by show w.heap.size≠w.heap.size+1;omega)).trans HR.out;have f2:(w3.setCell ⟨w.heap.size+1,0,none⟩ (I0)).cell? ⟨w.heap.size+1,0,none⟩=some (I0):=(aq (show Hc (w3.setCell ⟨w.heap.size+1,0,none⟩ (I0)) (w.heap.size+1) #[I0] 33 from cq (i:=0) (u:=I0) HN.out) 0).trans rfl;have bF:=HB.out.setCell (p:=⟨w.heap.size+1,0,none⟩) (by show w.heap.size≤w.heap.size+1;omega) (I0);have uF:bf (fun g=>w.heap.size≤g) (w3.setCell ⟨w.heap.size+1,0,none⟩ (I0)) (.slice a2 el.kids.length c2) el.kids:=HU.out.kept fun g hg _=>⟨aX w3 ⟨w.heap.size+1,0,none⟩ _ g (by show g≠w.heap.size+1;omega),by omega⟩
 clear HU HR HN HB;generalize w3.setCell ⟨w.heap.size+1,0,none⟩ (I0)=wF at f1 f2 bF uF⊢;refine leaves_cons (f:=113) (args:=#[.pointer (some ⟨w.heap.size,0,none⟩),.pointer (some ⟨w.heap.size+1,0,none⟩)]) (by simp) (by simp[go_sem]) ?_;refine(AO w.heap.size (w.heap.size+1) wF).mono ?_;rintro e u' w3 ⟨rfl,rfl,hw3⟩;rw[hw3];have c0:=cval f1 0 (.int .i64 el.cls);have c1:=cval f1 1 (.int .i64 el.tag);have c2':=cval f1 2 (.bool el.cons);have c3:=cval f1 3 (.string ⟨el.bytes.toArray⟩);have c4:=cval f1 4 (.slice a2 el.kids.length c2)
 simp[Leaves,settle,results,Tryz.results96,go_sem,c0,c1,c2',c3,c4,f2]
 rw[HP.out];exact⟨⟨_,rfl,uF⟩,bF⟩
theorem oT(c:Int)(po pe:Nat)(y:Value)(w:World)(hne:po≠pe)(h1:Hc w po Ze 40)(h3:w.cell? ⟨pe,0,none⟩=some y)(h4:w.frozen? ⟨pe,0,none⟩=false):
  CallsD Tryz.prog 113 #[.pointer (some ⟨po,0,none⟩),.pointer (some ⟨pe,0,none⟩)] (.panicking ({v:=fu c,recovered:=false}::[])) w fun e u' w'=>
   e=.returned (.tuple #[])∧u'=.panicking ({v:=fu c,recovered:=true}::[])∧w'=(w.setRow po Ze).setCell ⟨pe,0,none⟩ (.int .i64 c):=by
 have hta:∀w,(Instr.typeAssert (.iface 33 (.int .i64 c)) 20 33 true).run Tryz.prog w=.ok (.tuple #[.int .i64 c,.bool true]) w:=fun w=>by kernel_rfl
 have h5:(w.setRow po Ze).cell? ⟨pe,0,none⟩=some y:=(World.cell?_of_block (w:=w) (setRow_other w po pe _ (Ne.symm hne))).trans h3;have h6:(w.setRow po Ze).frozen? ⟨pe,0,none⟩=false:=(World.frozen?_of_block (w:=w) (setRow_other w po pe _ (Ne.symm hne))).trans h4;have H1:=hid h1;refine callsD_of_wpS Tryz.func113 rfl fun c₀ cs hu=>?_
 apply wpS_seq;apply wpS_region
 simp[wpOpsS,go_sem,recoverD,hu,Tryz.ntmps113,Exit.thenS]
 unfold fu;refine wpS_of_wp ?_;simp only[Array.replicate,List.replicate,List.setIfInBounds_toArray,List.set];clear h1
 go_wp2_with (refine stE (.tmp 0) (.tmp 16) Ze H1.out rfl (by simp[Value.oneCell']) ?_)
 refine⟨rfl,_,rfl,_,results_none rfl _ _ _,rfl,rfl,rfl⟩
theorem nB(b:List UInt8)(c:Int)(h:bP 20 b=.error c)(hl:b.length≤1000000)(w:World):
  Calls Tryz.prog 96 #[.string ⟨b.toArray⟩] w fun e w'=>e=.returned (.tuple #[.agg Ze,.int .i64 c])∧Bw w w':=by
 have hmf:∀(fn:Fn) (first cap:Array Value) (w:World),(Instr.makeFunc fn first cap).run Tryz.prog w=.ok (.func fn first cap) w:=fun _ _ _ _=>rfl
 obtain⟨PR,hPR⟩:∃PR:Ending→World→Prop,PR=fun e w'=>e=.returned (.tuple #[.agg Ze,.int .i64 c])∧Bw w w':=⟨_,rfl⟩
 rw[←hPR];have HP:=hid hPR;clear hPR;have bA:Bw w ((w.alloc (.cells Ze 40)).alloc (.cells #[.int .i64 0] 33)):=((aA _ _).alloc (ah _) _).alloc (by simp) _;have rA:Hc ((w.alloc (.cells Ze 40)).alloc (.cells #[.int .i64 0] 33)) w.heap.size Ze 40:=(alloc_old _ _ _ (by simp)).trans (fb _ _ _ rfl);have nA:Hc ((w.alloc (.cells Ze 40)).alloc (.cells #[.int .i64 0] 33)) (w.heap.size+1) #[.int .i64 0] 33:=fb _ _ _ (by simp);have kr:=gn 20 (ah _) b ((w.alloc (.cells Ze 40)).alloc (.cells #[.int .i64 0] 33)) hl;unfold RdP RdQ at kr;rw[h] at kr;simp only at kr;clear h
 go_enter_defers Tryz.func96,Tryz.ntmps96
 go_wp2_with fail
 generalize(w.alloc (.cells Ze 40)).alloc (.cells #[.int .i64 0] 33)=wA at bA rA nA kr⊢;refine ag kr ?_;rintro e w1 ⟨rfl,hb1⟩;have r1:=bkk hb1 rA;have n1:=bkk hb1 nA;have b1:=btt bA hb1;clear kr hb1 bA rA nA
 go_wp2
 refine leaves_cons (f:=113) (args:=#[.pointer (some ⟨w.heap.size,0,none⟩),.pointer (some ⟨w.heap.size+1,0,none⟩)]) (by simp) (by simp[go_sem]) ?_;refine(oT c w.heap.size (w.heap.size+1) (.int .i64 0) w1 (by omega) r1 (by rw[aq n1];rfl) (aj n1 0)).mono ?_;rintro e u' w2 ⟨rfl,rfl,rfl⟩;have r2:=setRow_heap w1 w.heap.size _ Ze _ _ r1;have n2:=(setRow_other w1 w.heap.size (w.heap.size+1) Ze (by omega)).trans n1;have b2:=xo b1 (g:=w.heap.size) (ah _) Ze;have f1:=(aX (w1.setRow w.heap.size Ze) ⟨w.heap.size+1,0,none⟩ (.int .i64 c) w.heap.size (by show w.heap.size≠w.heap.size+1;omega)).trans r2;have f2:((w1.setRow w.heap.size Ze).setCell ⟨w.heap.size+1,0,none⟩ (.int .i64 c)).cell? ⟨w.heap.size+1,0,none⟩=some (.int .i64 c):=(aq (show Hc ((w1.setRow w.heap.size Ze).setCell ⟨w.heap.size+1,0,none⟩ (.int .i64 c)) (w.heap.size+1) #[.int .i64 c] 33 from cq (i:=0) (u:=.int .i64 c) n2) 0).trans rfl;have bF:=b2.setCell (p:=⟨w.heap.size+1,0,none⟩) (by show w.heap.size≤w.heap.size+1;omega) (.int .i64 c);generalize(w1.setRow w.heap.size Ze).setCell ⟨w.heap.size+1,0,none⟩ (.int .i64 c)=wF at f1 f2 bF⊢;have c0:=cval f1 0 (.int .i64 0);have c1:=cval f1 1 (.int .i64 0);have c2:=cval f1 2 (.bool false);have c3:=cval f1 3 Es;have c4:=cval f1 4 (.slice none 0 0);clear r1 n1 b1 r2 n2 b2 f1
 simp[Leaves,settle,results,Tryz.results96,go_sem,c0,c1,c2,c3,c4,f2]
 rw[HP.out];exact⟨rfl,bF⟩
theorem CS(b:List UInt8)(hl:b.length≤1000000000)(w:World):
  Cr 56 #[.string ⟨b.toArray⟩] w (.tuple #[.int .i64 ((eA b).1:Int),.int .i64 (eA b).2]):=by
 have kh:=gG b (by omega) w;have hb:=jL b;unfold BZ at kh;unfold eA;obtain⟨n,m,c,hh⟩:∃n m c,bt b=(n,m,c):=⟨_,_,_,rfl⟩;rw[hh] at kh hb⊢;simp only at kh hb⊢;have hw:IntKind.i64.wrap ((n:Int)+(m:Int))=((n+m:Nat):Int):=by rw[aK];omega
 clear hh
 go_enter Tryz.func56,Tryz.ntmps56
 go_wp2_with fail
 refine ag kh ?_;rintro e w2 ⟨rfl,q,rfl⟩;have b2:=fU (aA w.heap.size w) q;clear kh;generalize w.drewN q=w2 at b2⊢
 go_wp2_with fail
 go_ret2
 exact⟨by first|rfl|exact congrArg _ (by simp),b2⟩
structure Lft (X:List Nat) (B:Nat) (w w':World):Prop where
 os:w'.os=w.os
 tape:w'.tape=w.tape
 output:w'.output=w.output
 size:w.heap.size≤w'.heap.size
 block:∀j,j<B→j∉X→w'.heap[j]?=w.heap[j]?
theorem Lft.of{X:List Nat}{B:Nat}{w w':World}(h:Below B w w'):Lft X B w w':=⟨h.os,h.tape,h.output,h.size,fun j hj _=>h.block j hj⟩
theorem Lft.refl{X:List Nat}{B:Nat}(w:World):Lft X B w w:=⟨rfl,rfl,rfl,ah _,fun _ _ _=>rfl⟩
theorem Lft.trans{X:List Nat}{B:Nat}{a b c:World}(h:Lft X B a b)(k:Lft X b.heap.size b c)(hB:B≤a.heap.size):Lft X B a c:=
 ⟨k.os.trans h.os,k.tape.trans h.tape,k.output.trans h.output,Nat.le_trans h.size k.size,fun j hj hne=>(k.block j (by have:=h.size;omega) hne).trans (h.block j hj hne)⟩
theorem Lft.mono{X Y:List Nat}{B B':Nat}{w w':World}(h:Lft X B w w')(hB:B'≤B)(hX:∀j,j<B'→j∈X→j∈Y):Lft Y B' w w':=⟨h.os,h.tape,h.output,h.size,fun j hj hne=>h.block j (by omega) fun hm=>hne (hX j hj hm)⟩
theorem Lft.below{X:List Nat}{B:Nat}{w w':World}(h:Lft X B w w')(hX:∀j,j<B→j∉X):Below B w w':=⟨h.os,h.tape,h.output,h.size,fun j hj=>h.block j hj (hX j hj)⟩
theorem Lft.below1{b B:Nat}{w w':World}(h:Lft [b] w.heap.size w w')(hb:B≤b)(hB:B≤w.heap.size):Below B w w':=(h.mono (Y:=[b]) hB fun _ _ k=>k).below fun j hj hm=>by simp at hm;omega
theorem Lft.set{X:List Nat}{B:Nat}{w w':World}(h:Lft X B w w')(b i:Nat)(v:Value)(hb:b∈X):Lft X B w (w'.setCell ⟨b,i,none⟩ v):=
 ⟨h.os,h.tape,h.output,by simpa using h.size,fun j hj hne=>(aX w' ⟨b,i,none⟩ v j (by show j≠b;rintro rfl;exact hne hb)).trans (h.block j hj hne)⟩
theorem Lft.row{X:List Nat}{B:Nat}{w w':World}(h:Lft X B w w')(b:Nat)(x:Array Value)(hb:b∈X):Lft X B w (w'.setRow b x):=
 ⟨h.os,h.tape,h.output,by simpa[World.setRow] using h.size,fun j hj hne=>(setRow_other w' b j x (by rintro rfl;exact hne hb)).trans (h.block j hj hne)⟩
theorem Lft.at{X:List Nat}{w w':World}{g:Nat}{x:Obj}(h:Lft X w.heap.size w w')(hx:w.heap[g]?=some x)(hX:g∉X):w'.heap[g]?=some x:=(h.block g (gl hx) hX).trans hx
theorem bk{w w':World}{g:Nat}{x:Obj}(h:Bw w w')(hx:w.heap[g]?=some x):w'.heap[g]?=some x:=(h.block g (gl hx)).trans hx
def Out{α:Type}(o:Option α)(R:α→Value→World→Prop)(e:Ending)(w':World):Prop:=
 match o with
 |some x=>∃v,e=.returned v∧R x v w'
 |none=>e=Pn
theorem Out.mono{α:Type}{o:Option α}{R S:α→Value→World→Prop}{e:Ending}{w':World}(h:Out o R e w')(k:∀x v,R x v w'→S x v w'):Out o S e w':=by
 cases o with
 |none=>exact h
 |some x=>obtain⟨v,hv,hr⟩:=h;exact⟨v,hv,k x v hr⟩
structure RowA (P:Nat→Prop) (b:Nat) (l:List El) (w:World):Prop where
 row:∃v,Hc w b #[v] 160∧bf P w v l
 sm:SmL l
 len:l.length≤1000000000
 ne:∀g,P g→g≠b
theorem RowA.lt{P:Nat→Prop}{b:Nat}{l:List El}{w:World}(h:RowA P b l w):b<w.heap.size:=by
 obtain⟨v,h1,_⟩:=h.row;exact(gl h1)
theorem RowA.keep{P:Nat→Prop}{b:Nat}{l:List El}{w w':World}(h:RowA P b l w){X:List Nat}(k:Lft X w.heap.size w w')(hb:b∉X)(hP:∀g,P g→g<w.heap.size→g∉X):RowA P b l w':=by
 obtain⟨⟨v,h1,h2⟩,hs,hl,hn⟩:=h;have hlt:=(gl h1);exact⟨⟨v,(k.block b hlt hb).trans h1,h2.kept fun g hg hlg=>⟨k.block g hlg (hP g hg hlg),hg⟩⟩,hs,hl,hn⟩
theorem RowA.below{P:Nat→Prop}{b:Nat}{l:List El}{w w':World}(h:RowA P b l w)(k:Bw w w'):RowA P b l w':=
 h.keep (X:=[]) (.of k) (by simp) (by simp)
theorem RowA.tail{P:Nat→Prop}{b:Nat}{e:El}{r:List El}{w:World}(h:RowA P b (e::r) w):SmE e∧SmL r∧r.length≤1000000000:=by
 have h1:=h.sm;have h2:=h.len;simp only[SmL,aG] at h1 h2;exact⟨h1.1,h1.2,by omega⟩
theorem cN(ok:Bool)(w:World):Calls Tryz.prog 121 #[.bool ok] w fun e w'=>Out (if ok then some () else none) (fun _ v _=>v=.tuple #[]) e w'∧w'=w:=by
 cases ok with
 |true=>
  go_enter Tryz.func121,Tryz.ntmps121
  go_wp2_with fail
  go_end0
  exact⟨⟨_,rfl,rfl⟩,rfl⟩
 |false=>
  show Calls _ _ _ _ fun e w'=>e=.panicked [{v:=fu 70,recovered:=false}]∧w'=w
  unfold fu
  go_enter Tryz.func121,Tryz.ntmps121
  go_wp2_with fail
  exact⟨rfl,rfl,rfl⟩
theorem gC(el:El)(u:Value)(cl t:Int)(w:World)(h:bf (fun _=>True) w u el.kids):
  Calls Tryz.prog 125 #[.agg (elA el u),.int .i64 cl,.int .i64 t] w fun e w'=>Out (dK el cl t) (fun s v _=>v=.string ⟨s.toArray⟩) e w'∧Bw w w':=by
 obtain⟨a,c,hf⟩:=h.shape;subst hf;have b1:=alb w (Er el a c) 40;have r1:=alz w (Er el a c) 40;have k:=pg el _ cl t _ (h.below b1);obtain⟨B,hB⟩:=nmm (isE el cl t false);unfold dK;rw[hB] at k⊢;unfold elA at k⊢;clear h hB
 go_enter Tryz.func125,Tryz.ntmps125
 refine wp_seq ?_;refine aQ ?_;refine aB rfl (kkn ?_);generalize w.alloc (.cells (Er el a c) 40)=w1 at b1 r1 k⊢
 go_wp2_with (refine ldE (.tmp 3) r1 rfl ?_)
 refine ag k ?_;rintro e w2 ⟨rfl,hb2⟩;have b2:=btt b1 hb2;clear k r1 hb2 b1;cases B with
 |true=>
  have kw:=cN true w2;simp only[if_true] at kw⊢
  go_wp2_with fail
  refine ag kw ?_;rintro e w3 ⟨⟨_,rfl,rfl⟩,rfl⟩
  go_wp2_with fail
  go_ret
  exact⟨⟨_,rfl,rfl⟩,b2⟩
 |false=>
  have kw:=cN false w2;simp only[aW,if_false] at kw⊢
  go_wp2_with fail
  refine ag kw ?_;rintro e w3 ⟨rfl,rfl⟩;exact⟨rfl,rfl,b2⟩
theorem dk(el:El)(u:Value)(cl t:Int)(w:World)(h:bf (fun _=>True) w u el.kids)(hs:SmE el):
  Calls Tryz.prog 101 #[.agg (elA el u),.int .i64 cl,.int .i64 t] w fun e w'=>Out (ci el cl t) (fun ks v w'=>∃b,v=.pointer (some ⟨b,0,none⟩)∧w.heap.size≤b∧RowA (fun g=>w.heap.size≤g∧g≠b) b ks w') e w'∧Bw w w':=by
 obtain⟨a,c,hf⟩:=h.shape;subst hf;have b1:=alb w (Er el a c) 40;have r1:=alz w (Er el a c) 40;have k:=nH el _ cl t _ (h.below b1) hs;obtain⟨_,sl,sk⟩:=dV hs;obtain⟨B,hB⟩:=nmm (isE el cl t true);unfold ci;rw[hB] at k⊢;unfold elA at k⊢;clear h hB
 go_enter Tryz.func101,Tryz.ntmps101
 refine wp_seq ?_;refine aQ ?_;refine aB rfl (kkn ?_);generalize w.alloc (.cells (Er el a c) 40)=w1 at b1 r1 k⊢
 go_wp2_with (refine ldE (.tmp 3) r1 rfl ?_)
 refine ag k ?_;rintro e w2 ⟨⟨v,rfl,hv⟩,hb2⟩;have hs1:=b1.size;have b2:=btt b1 hb2;clear k r1 hb2 b1;cases B with
 |true=>
  simp only[if_true] at hv⊢;obtain⟨a2,c2,hf2⟩:=hv.shape;subst hf2;have kw:=cN true w2;simp only[if_true] at kw
  go_wp2_with fail
  refine ag kw ?_;rintro e w3 ⟨⟨_,rfl,rfl⟩,hw⟩;have hw':=hw.symm;subst hw';clear hw;have m3:=alb w2 #[.slice a2 el.kids.length c2] 160;have r3:=alz w2 #[.slice a2 el.kids.length c2] 160;have v3:bf (fun g=>w.heap.size≤g∧g≠w2.heap.size) (w2.alloc (.cells #[.slice a2 el.kids.length c2] 160)) (.slice a2 el.kids.length c2) el.kids:=hv.kept fun g hg hl=>⟨m3.block g hl,by omega,by omega⟩
  have b3:=btt b2 m3;have hs2:=b2.size;have HV:=hid v3;clear hv v3 kw m3
  go_wp2_with fail
  go_ret
  exact⟨⟨_,rfl,_,rfl,hs2,⟨_,r3,HV.out⟩,sk,sl,fun g hg=>hg.2⟩,b3⟩
 |false=>
  have kw:=cN false w2;simp only[aW,if_false] at kw⊢;clear hv
  go_wp2_with fail
  refine ag kw ?_;rintro e w3 ⟨rfl,rfl⟩;exact⟨rfl,rfl,b2⟩
theorem qj(P:Nat→Prop)(b:Nat)(v:Value)(e:El)(r:List El)(w:World)(hb:Hc w b #[v] 160)(hk:bf P w v (e::r))(hP:∀g,P g→g≠b)(hr:r.length≤1000000000)(hr1:SmL r)(hse:SmE e):
  Calls Tryz.prog 117 #[.pointer (some ⟨b,0,none⟩)] w fun x w'=>Out (ch (e::r)) (fun y v w'=>∃u,v=.agg (elA y.1 u)∧SmE y.1∧bf P w' u y.1.kids∧RowA P b y.2 w') x w'∧Lft [b] w.heap.size w w':=by
 have HKK:=hid hk;obtain⟨a,cap,rfl,hc,hk1⟩:=hk;obtain⟨g,o,rfl,hp,hs⟩:=hk1 (by simp);simp only[cE] at hs;obtain⟨p0,p1,p2,p3,u,p4,hu⟩:=hs.1.cells;have HS:=hid hs.2;obtain⟨au,cu,hfu⟩:=hu.shape;subst hfu;have hblt:=(gl hb);have hglt:=bj p0;have hgb:=hP g hp;simp only[aG] at hc;obtain⟨HB,HU,HP⟩:=Ch hb hu hP;have qb:w.cell? ⟨b,0,none⟩=some (.slice (some ⟨g,o,none⟩) (r.length+1) cap):=(aq hb 0).trans (by simp);have zb:=aj hb 0;have kw:=cN true (w.alloc (.cells Ze 40));have i1:decide ((0:Int)<(r.length:Int)+1)=true:=aC (by omega);have fin:∀v',bf P w v' r→(bf P (((w.setCell ⟨b,0,none⟩ v').alloc (.cells (Er e au cu) 40)).alloc (.cells (Er e au cu) 40)) (.slice au e.kids.length cu) e.kids∧
   Hc (((w.setCell ⟨b,0,none⟩ v').alloc (.cells (Er e au cu) 40)).alloc (.cells (Er e au cu) 40)) b #[v'] 160∧bf P (((w.setCell ⟨b,0,none⟩ v').alloc (.cells (Er e au cu) 40)).alloc (.cells (Er e au cu) 40)) v' r∧
   Lft [b] w.heap.size w (((w.setCell ⟨b,0,none⟩ v').alloc (.cells (Er e au cu) 40)).alloc (.cells (Er e au cu) 40))∧Hc (((w.setCell ⟨b,0,none⟩ v').alloc (.cells (Er e au cu) 40)).alloc (.cells (Er e au cu) 40)) w.heap.size (Er e au cu) 40):=by
  intro v' hv';have hsz:(w.setCell ⟨b,0,none⟩ v').heap.size=w.heap.size:=by simp[World.setCell]
  have m:Below w.heap.size (w.setCell ⟨b,0,none⟩ v') (((w.setCell ⟨b,0,none⟩ v').alloc (.cells (Er e au cu) 40)).alloc (.cells (Er e au cu) 40)):=((aA _ _).alloc (Nat.le_of_eq hsz.symm) _).alloc (by simp[hsz]) _;have hkept:∀g',P g'→g'<w.heap.size→(((w.setCell ⟨b,0,none⟩ v').alloc (.cells (Er e au cu) 40)).alloc (.cells (Er e au cu) 40)).heap[g']?=w.heap[g']?∧P g':=fun g' hg' hl=>⟨(m.block g' hl).trans (aX w ⟨b,0,none⟩ v' g' (HP.out g' hg')),hg'⟩
  exact⟨HU.out.kept hkept,(m.block b hblt).trans (cq (i:=0) (u:=v') HB.out),hv'.kept hkept,((Lft.refl w).set b 0 v' (by simp)).trans (.of (m.mono (by rw[hsz];exact ah _))) (ah _),
   (alloc_old _ _ _ (by simp[hsz])).trans (fb _ _ _ hsz.symm)⟩
 have FIN:=hid fin;clear hs hk1 hu hb hP fin
 by_cases hcap:cap=1
 ·subst hcap
  obtain rfl:r=[]:=List.length_eq_zero_iff.1 (by omega);obtain⟨f1,f2,f3,f4,f5⟩:=FIN.out (.slice (some ⟨g,o,none⟩) 0 0) ⟨_,_,rfl,ah _,fun h=>absurd rfl h⟩;obtain⟨G1,G2,G3,G4,G5⟩:=Cj f1 f2 f3 f4 f5;clear f1 f2 f3 f4 f5 FIN
  go_enter Tryz.func117,Tryz.ntmps117
  go_wp2_with fail
  refine ag kw ?_;rintro x w1 ⟨⟨_,rfl,rfl⟩,rfl⟩
  go_wp2_with fail
  refine aH (v:=.agg (Er e au cu)) ?_ rfl ⟨⟨_,rfl,_,rfl,hse,G1.out,⟨_,G2.out,G3.out⟩,hr1,hr,HP.out⟩,G4.out⟩;have hr:=rlE G5.out rfl
  simp[results,Tryz.f117]
  exact hr
 ·have hc1:¬(cap≤1):=by omega
  have hc2:1≤cap:=by omega
  obtain⟨f1,f2,f3,f4,f5⟩:=FIN.out (.slice (some ⟨g,o+5,none⟩) r.length (cap -1)) ⟨_,_,rfl,by omega,fun _=>⟨g,o+5,rfl,hp,HS.out⟩⟩;obtain⟨G1,G2,G3,G4,G5⟩:=Cj f1 f2 f3 f4 f5;clear f1 f2 f3 f4 f5 FIN
  go_enter Tryz.func117,Tryz.ntmps117
  go_wp2_with fail
  refine ag kw ?_;rintro x w1 ⟨⟨_,rfl,rfl⟩,rfl⟩
  go_wp2_with fail
  refine aH (v:=.agg (Er e au cu)) ?_ rfl ⟨⟨_,rfl,_,rfl,hse,G1.out,⟨_,G2.out,G3.out⟩,hr1,hr,HP.out⟩,G4.out⟩;have hr:=rlE G5.out rfl
  simp[results,Tryz.f117]
  exact hr
theorem cG(P:Nat→Prop)(b:Nat)(l:List El)(w:World)(h:RowA P b l w):
  Calls Tryz.prog 117 #[.pointer (some ⟨b,0,none⟩)] w fun x w'=>Out (ch l) (fun y v w'=>∃u,v=.agg (elA y.1 u)∧SmE y.1∧bf P w' u y.1.kids∧RowA P b y.2 w') x w'∧Lft [b] w.heap.size w w':=by
 have ht:=fun e r (hl:l=e::r)=>(hl▸h:RowA P b (e::r) w).tail
 obtain⟨⟨v,hb,hk⟩,hs,hl,hP⟩:=h;cases l with
 |cons e r=>exact qj P b v e r w hb hk hP (ht e r rfl).2.2 (ht e r rfl).2.1 (ht e r rfl).1
 |nil=>
  show Calls _ _ _ _ fun x w'=>x=Pn∧Lft [b] w.heap.size w w'
  obtain⟨a,c,hf⟩:=hk.shape;subst hf;simp only[aU] at hb;have qb:w.cell? ⟨b,0,none⟩=some (.slice a 0 c):=(aq hb 0).trans (by simp);have hblt:=(gl hb);have b1:=alb w Ze 40;have kw:=cN false (w.alloc (.cells Ze 40));simp only[aW,if_false] at kw;clear hk hb hP ht
  go_enter Tryz.func117,Tryz.ntmps117
  go_wp2_with fail
  refine ag kw ?_;rintro x w1 ⟨rfl,rfl⟩;exact⟨rfl,rfl,.of b1⟩
theorem cX(P:Nat→Prop)(b:Nat)(l:List El)(w:World)(h:RowA P b l w):
  Calls Tryz.prog 103 #[.pointer (some ⟨b,0,none⟩)] w fun x w'=>Out (bN () l) (fun _ v _=>v=.tuple #[]) x w'∧Bw w w':=by
 obtain⟨⟨v,hb,hk⟩,hs,hl,hP⟩:=h;obtain⟨a,c,hf⟩:=hk.shape;subst hf;have qb:w.cell? ⟨b,0,none⟩=some (.slice a l.length c):=(aq hb 0).trans (by simp);clear hk hb hP hs
 by_cases h0:l=[]
 ·subst h0
  simp only[aU] at qb;have kw:=cN true w;simp only[if_true] at kw;clear hl
  go_enter Tryz.func103,Tryz.ntmps103
  go_wp2_with fail
  refine ag kw ?_;rintro x w3 ⟨⟨_,rfl,rfl⟩,rfl⟩
  go_wp2_with fail
  go_end0
  exact⟨⟨_,rfl,rfl⟩,aA _ _⟩
 ·have hn:l.length≠0:=fun h=>h0 (List.length_eq_zero_iff.1 h)
  unfold bN;rw[if_neg h0];have kw:=cN false w;simp only[aW,if_false] at kw;generalize l.length=n at qb hn hl;have g1:((n:Int)==0)=false:=aE (by omega);clear h0
  go_enter Tryz.func103,Tryz.ntmps103
  go_wp2_with fail
  refine ag kw ?_;rintro x w3 ⟨rfl,rfl⟩;exact⟨rfl,rfl,aA _ _⟩
def gH(el:El)(cl t:Int):Bool×Int:=if isE el cl t false&&decide (el.bytes.length=1) then(decide (el.bytes.headD 0≠0),0) else(false,24)
theorem nD(el:El)(u:Value)(cl t:Int)(w:World)(h:bf (fun _=>True) w u el.kids)(hl:el.bytes.length≤1000000000):
  Calls Tryz.prog 156 #[.agg (elA el u),.int .i64 cl,.int .i64 t] w fun e w'=>e=.returned (.tuple #[.bool (gH el cl t).1,.int .i64 (gH el cl t).2])∧Bw w w':=by
 obtain⟨a,c,hf⟩:=h.shape
 subst hf
 have b1:Bw w (w.alloc (.cells #[.int .i64 el.cls,.int .i64 el.tag,.bool el.cons,.string ⟨el.bytes.toArray⟩,.slice a el.kids.length c] 40)):=(aA _ _).alloc (ah _) _
 have r1:Hc (w.alloc (.cells #[.int .i64 el.cls,.int .i64 el.tag,.bool el.cons,.string ⟨el.bytes.toArray⟩,.slice a el.kids.length c] 40)) w.heap.size #[.int .i64 el.cls,.int .i64 el.tag,.bool el.cons,.string ⟨el.bytes.toArray⟩,.slice a el.kids.length c] 40:=fb _ _ _ rfl
 have k:=kz el _ cl t false _ (h.below b1)
 obtain⟨R,hR⟩:=nmm (isE el cl t false)
 unfold gH
 rw[hR] at k⊢
 unfold elA at k⊢
 generalize el.bytes=bs at hl b1 r1 k⊢
 clear h hR
 cases R with
 |false=>
  simp only[Bool.false_and,aW,if_false]
  go_enter Tryz.func156,Tryz.ntmps156
  refine wp_seq ?_
  refine aQ ?_
  refine aB rfl (kkn ?_)
  generalize w.alloc (.cells #[.int .i64 el.cls,.int .i64 el.tag,.bool el.cons,.string ⟨bs.toArray⟩,.slice a el.kids.length c] 40)=w1 at b1 r1 k⊢
  go_wp2_with (refine ldE (.tmp 3) r1 rfl ?_)
  refine ag k ?_
  rintro e w2 ⟨rfl,hb2⟩
  have r2:=(hb2.block _ (Array.getElem?_eq_some_iff.1 r1).1).trans r1
  have q3:=cval r2 3 (.string ⟨bs.toArray⟩)
  have b2:=btt b1 hb2
  clear k r1 r2 hb2 b1
  go_wp2_with fail
  go_ret2
  exact⟨rfl,b2⟩
 |true=>
  by_cases h1:bs.length=1
  ·obtain⟨x,rfl⟩:=List.length_eq_one_iff.1 h1
   have e0:=dP [x] 0 x rfl (by rw[Lib.size_mk];simp)
   obtain⟨X,hX⟩:=nmm (decide ([x].headD 0≠0):Bool)
   have g1:((x.toNat:Int)==0)=!X:=by
    rw[←hX]
    by_cases hx:x=0
    ·subst hx;rfl
    ·have:x.toNat≠0:=fun h=>hx (UInt8.toNat_inj.1 h)
     simp[hx,this]
   simp only[Bool.true_and,List.length_singleton,decide_true,if_true,hX]
   clear hX h1 hl
   go_enter Tryz.func156,Tryz.ntmps156
   refine wp_seq ?_
   refine aQ ?_
   refine aB rfl (kkn ?_)
   generalize w.alloc (.cells #[.int .i64 el.cls,.int .i64 el.tag,.bool el.cons,.string ⟨[x].toArray⟩,.slice a el.kids.length c] 40)=w1 at b1 r1 k⊢
   go_wp2_with (refine ldE (.tmp 3) r1 rfl ?_)
   refine ag k ?_
   rintro e w2 ⟨rfl,hb2⟩
   have r2:=(hb2.block _ (Array.getElem?_eq_some_iff.1 r1).1).trans r1
   have q3:=cval r2 3 (.string ⟨[x].toArray⟩)
   have b2:=btt b1 hb2
   clear k r1 r2 hb2 b1
   go_wp2_with fail
   go_ret2
   exact⟨by simp[bne,g1],b2⟩
  ·have hd:decide (bs.length=1)=false:=an h1
   simp only[Bool.true_and,hd,aW,if_false]
   have g1:((bs.length:Int)==1)=false:=aE (by omega)
   clear h1 hd
   go_enter Tryz.func156,Tryz.ntmps156
   refine wp_seq ?_
   refine aQ ?_
   refine aB rfl (kkn ?_)
   generalize w.alloc (.cells #[.int .i64 el.cls,.int .i64 el.tag,.bool el.cons,.string ⟨bs.toArray⟩,.slice a el.kids.length c] 40)=w1 at b1 r1 k⊢
   go_wp2_with (refine ldE (.tmp 3) r1 rfl ?_)
   refine ag k ?_
   rintro e w2 ⟨rfl,hb2⟩
   have r2:=(hb2.block _ (Array.getElem?_eq_some_iff.1 r1).1).trans r1
   have q3:=cval r2 3 (.string ⟨bs.toArray⟩)
   have b2:=btt b1 hb2
   clear k r1 r2 hb2 b1
   go_wp2_with fail
   go_ret2
   exact⟨rfl,b2⟩
theorem iq(P:Nat→Prop)(b:Nat)(l:List El)(cl t:Int)(w:World)(h:RowA P b l w):
  Calls Tryz.prog 118 #[.pointer (some ⟨b,0,none⟩),.int .i64 cl,.int .i64 t] w fun x w'=>x=.returned (.bool (da cl t l))∧Bw w w':=by
 obtain⟨⟨v,hb,hk⟩,hs,hl,hP⟩:=h;obtain⟨a,c,hv,hc,hk1⟩:=hk;subst hv;have qb:w.cell? ⟨b,0,none⟩=some (.slice a l.length c):=(aq hb 0).trans (by simp);cases l with
 |nil=>
  simp only[aU] at qb;show Calls _ _ _ _ fun x w'=>x=.returned (Bf)∧Bw w w'
  clear hb hk1 hs hl hP hc
  go_enter Tryz.func118,Tryz.ntmps118
  go_wp2_with fail
  go_ret
  exact⟨rfl,aA _ _⟩
 |cons e r=>
  obtain⟨g,o,rfl,hp,hs1⟩:=hk1 (by simp);simp only[cE] at hs1;obtain⟨p0,p1,-,-,-⟩:=hs1.1.cells;simp only[aG] at qb hl hc;show Calls _ _ _ _ fun x w'=>x=.returned (.bool (decide (e.cls=cl)&&decide (e.tag=t)))∧Bw w w'
  generalize e.cls=k at p0⊢;generalize e.tag=j at p1⊢;have i1:decide ((0:Int)<(r.length:Int)+1)=true:=aC (by omega);clear hb hk1 hs hP hs1 hp
  by_cases h1:k=cl
  ·subst h1
   by_cases h2:j=t
   ·subst h2
    go_enter Tryz.func118,Tryz.ntmps118
    go_wp2_with fail
    go_ret
    exact⟨by simp,aA _ _⟩
   ·have i3:(j==t)=false:=aE h2
    have i4:decide (j=t)=false:=an h2
    go_enter Tryz.func118,Tryz.ntmps118
    go_wp2_with fail
    go_ret
    exact⟨by simp[h2],aA _ _⟩
  ·have i3:(k==cl)=false:=aE h1
   have i4:decide (k=cl)=false:=an h1
   go_enter Tryz.func118,Tryz.ntmps118
   go_wp2_with fail
   go_ret
   exact⟨by simp[h1],aA _ _⟩
theorem cQ(P:Nat→Prop)(b:Nat)(l:List El)(w:World)(h:RowA P b l w):
  Calls Tryz.prog 131 #[.pointer (some ⟨b,0,none⟩)] w fun x w'=>Out (cg l) (fun y v w'=>v=.string ⟨y.1.toArray⟩∧RowA P b y.2 w') x w'∧Lft [b] w.heap.size w w':=by
 have kn:=cG P b l w h;generalize hO:cg l=O;unfold cg bS at hO;have HO:=hid hO;clear hO;clear h
 go_enter Tryz.func131,Tryz.ntmps131
 go_wp2_with fail
 refine ag kn ?_;rintro x w1 ⟨ho,hbe⟩;clear kn;rcases l with _|⟨e,r⟩
 ·have ho':x=Pn:=ho
  subst ho';have hO:=HO.out;simp only[ch,be] at hO;subst hO;exact⟨rfl,rfl,hbe⟩
 obtain⟨v,rfl,u,rfl,hse,hu,hr⟩:=ho;simp only at hse;have hO:=HO.out;simp only[ch,ai] at hO;clear HO;obtain⟨a,c,hf⟩:=hu.shape;subst hf;simp only at hu hr;have HO:=hid hO;clear hO;have kt:=gC e _ 0 4 w1 (hu.mono fun _ _ _=>trivial)
 go_wp2_with fail
 refine ag kt ?_;rintro x w2 ⟨ho,hb2⟩;clear kt;have hL:=hbe.trans (.of hb2) (ah _);have hr2:=hr.below hb2;have hO:=HO.out;clear HO;generalize dK e 0 4=E at ho hO;rcases E with _|s
 ·have ho':x=Pn:=ho
  subst ho';simp only[bn] at hO;subst hO;exact⟨rfl,rfl,hL⟩
 obtain⟨v,rfl,rfl⟩:=ho;simp only[aw] at hO;obtain⟨HR,HO⟩:=Cg hr2 hO;clear hr hr2 hbe hb2 hu hO
 go_wp2_with fail
 go_ret
 have hO:=HO.out;subst hO;exact⟨⟨_,rfl,rfl,HR.out⟩,hL⟩
theorem fd(P:Nat→Prop)(b:Nat)(l:List El)(t:Int)(w:World)(h:RowA P b l w):
  Calls Tryz.prog 102 #[.pointer (some ⟨b,0,none⟩),.int .i64 t] w fun x w'=>Out (eR t l) (fun y v w'=>v=.int .i64 y.1∧RowA P b y.2 w') x w'∧Lft [b] w.heap.size w w':=by
 have kn:=cG P b l w h;generalize hO:eR t l=O;unfold eR bS fW at hO;have HO:=hid hO;clear hO;clear h
 go_enter Tryz.func102,Tryz.ntmps102
 go_wp2_with fail
 refine ag kn ?_;rintro x w1 ⟨ho,hbe⟩;clear kn;rcases l with _|⟨e,r⟩
 ·have ho':x=Pn:=ho
  subst ho';have hO:=HO.out;simp only[ch,be] at hO;subst hO;exact⟨rfl,rfl,hbe⟩
 obtain⟨v,rfl,u,rfl,hse,hu,hr⟩:=ho;simp only at hse;have hO:=HO.out;simp only[ch,ai] at hO;clear HO;obtain⟨a,c,hf⟩:=hu.shape;subst hf;simp only at hu hr;have kt:=jY e _ 0 t w1 (hu.mono fun _ _ _=>trivial) (dV hse).1;have h24:(gA e 0 t).2=0∨(gA e 0 t).2=24:=by
  unfold gA
  split<;>simp
 obtain⟨n,hn⟩:=nmm ((gA e 0 t).1);obtain⟨z,hz⟩:=nmm ((gA e 0 t).2);rw[hn,hz] at kt;rw[hz] at h24;simp only[hn,hz] at hO;clear hn hz;have HO:=hid hO;clear hO
 go_wp2_with fail
 refine ag kt ?_;rintro x w2 ⟨rfl,hb2⟩;clear kt;have hL:=hbe.trans (.of hb2) (ah _);have hr2:=hr.below hb2;have HR:=hid hr2;clear hr hr2 hbe hb2 hu;rcases h24 with rfl|rfl
 ·have kw:=cN true w2
  simp only[if_true] at kw
  go_wp2_with fail
  refine ag kw ?_;rintro e w3 ⟨⟨_,rfl,rfl⟩,rfl⟩
  go_wp2_with fail
  go_ret
  have hO:=HO.out;simp only[if_true,aw] at hO;subst hO;exact⟨⟨_,rfl,rfl,HR.out⟩,hL⟩
 ·have kw:=cN false w2
  simp only[aW,if_false] at kw
  go_wp2_with fail
  refine ag kw ?_;rintro e w3 ⟨rfl,rfl⟩;have hO:=HO.out;rw[if_neg (by decide),bn] at hO;subst hO;exact⟨rfl,rfl,hL⟩
theorem nF(P:Nat→Prop)(b:Nat)(l:List El)(w:World)(h:RowA P b l w):
  Calls Tryz.prog 144 #[.pointer (some ⟨b,0,none⟩)] w fun x w'=>Out (fm l) (fun y v w'=>v=.bool y.1∧RowA P b y.2 w') x w'∧Lft [b] w.heap.size w w':=by
 have kn:=cG P b l w h;generalize hO:fm l=O;unfold fm bS at hO;have HO:=hid hO;clear hO;clear h
 go_enter Tryz.func144,Tryz.ntmps144
 go_wp2_with fail
 refine ag kn ?_;rintro x w1 ⟨ho,hbe⟩;clear kn;rcases l with _|⟨e,r⟩
 ·have ho':x=Pn:=ho
  subst ho';have hO:=HO.out;simp only[ch,be] at hO;subst hO;exact⟨rfl,rfl,hbe⟩
 obtain⟨v,rfl,u,rfl,hse,hu,hr⟩:=ho;simp only at hse;have hO:=HO.out;simp only[ch,ai] at hO;clear HO;obtain⟨a,c,hf⟩:=hu.shape;subst hf;simp only at hu hr;have kt:=nD e _ 0 1 w1 (hu.mono fun _ _ _=>trivial) (dV hse).1;have hob:gT e=if(gH e 0 1).2=0 then some (gH e 0 1).1 else none:=by
  unfold gT gH
  split
  ·simp
  ·simp
 rw[hob] at hO;clear hob;have h24:(gH e 0 1).2=0∨(gH e 0 1).2=24:=by
  unfold gH
  split<;>simp
 obtain⟨n,hn⟩:=nmm ((gH e 0 1).1);obtain⟨z,hz⟩:=nmm ((gH e 0 1).2);rw[hn,hz] at kt;rw[hz] at h24;simp only[hn,hz] at hO;clear hn hz;have HO:=hid hO;clear hO
 go_wp2_with fail
 refine ag kt ?_;rintro x w2 ⟨rfl,hb2⟩;clear kt;have hL:=hbe.trans (.of hb2) (ah _);have hr2:=hr.below hb2;have HR:=hid hr2;clear hr hr2 hbe hb2 hu;rcases h24 with rfl|rfl
 ·have kw:=cN true w2
  simp only[if_true] at kw
  go_wp2_with fail
  refine ag kw ?_;rintro e w3 ⟨⟨_,rfl,rfl⟩,rfl⟩
  go_wp2_with fail
  go_ret
  have hO:=HO.out;simp only[if_true,aw] at hO;subst hO;exact⟨⟨_,rfl,rfl,HR.out⟩,hL⟩
 ·have kw:=cN false w2
  simp only[aW,if_false] at kw
  go_wp2_with fail
  refine ag kw ?_;rintro e w3 ⟨rfl,rfl⟩;have hO:=HO.out;rw[if_neg (by decide),bn] at hO;subst hO;exact⟨rfl,rfl,hL⟩
theorem gw(P:Nat→Prop)(b:Nat)(l:List El)(t:Int)(w:World)(h:RowA P b l w):
  Calls Tryz.prog 152 #[.pointer (some ⟨b,0,none⟩),.int .i64 t] w fun x w'=>Out (eS t l) (fun y v w'=>v=.tuple #[.string ⟨y.1.1.toArray⟩,.bool y.1.2]∧RowA P b y.2 w') x w'∧Lft [b] w.heap.size w w':=by
 have ka:=iq P b l 2 t w h;generalize hO:eS t l=O;unfold eS bS at hO;obtain⟨B,hB⟩:=nmm (da 2 t l);rw[hB] at ka hO;clear hB;have HO:=hid hO;clear hO;have H:=hid h;clear h
 go_enter Tryz.func152,Tryz.ntmps152
 go_wp2_with fail
 refine ag ka ?_;rintro x w1 ⟨rfl,hb1⟩;clear ka;have h1:=H.out.below hb1;cases B with
 |false=>
  have H1:=hid h1;clear h1 H
  go_wp2_with fail
  go_ret2
  have hO:=HO.out;simp only[aW,if_false] at hO;subst hO;exact⟨⟨_,rfl,rfl,H1.out⟩,.of hb1⟩
 |true=>
  have kn:=cG P b l w1 h1;clear h1 H
  go_wp2_with fail
  refine ag kn ?_;rintro x w2 ⟨ho,hb2⟩;clear kn;have hL:=(Lft.of (X:=[b]) hb1).trans hb2 (ah _);clear hb1 hb2;rcases l with _|⟨e,r⟩
  ·have ho':x=Pn:=ho
   subst ho';have hO:=HO.out;simp only[if_true,ch,be,bn] at hO;subst hO;exact⟨rfl,rfl,hL⟩
  obtain⟨v,rfl,u,rfl,-,hu,hr⟩:=ho;obtain⟨a,c,hf⟩:=hu.shape;subst hf;simp only at hu hr;have kt:=gC e _ 2 t w2 (hu.mono fun _ _ _=>trivial)
  go_wp2_with fail
  refine ag kt ?_;rintro x w3 ⟨ho,hb3⟩;clear kt;have hL3:=hL.trans (.of hb3) (ah _);have hr3:=hr.below hb3;have hO:=HO.out;simp only[if_true,ch,ai] at hO;clear HO;generalize dK e 2 t=E at ho hO;rcases E with _|s
  ·have ho':x=Pn:=ho
   subst ho';simp only[bn] at hO;subst hO;exact⟨rfl,rfl,hL3⟩
  obtain⟨v,rfl,rfl⟩:=ho;simp only[aw] at hO;obtain⟨HO,HR⟩:=Cg hO hr3;clear hr hr3 hL hb3 hu hO
  go_wp2_with fail
  go_ret2
  have hO:=HO.out;subst hO;exact⟨⟨_,rfl,rfl,HR.out⟩,hL3⟩
end Go.Proofs.YtfhghdcbofbceaaGreatDoor
