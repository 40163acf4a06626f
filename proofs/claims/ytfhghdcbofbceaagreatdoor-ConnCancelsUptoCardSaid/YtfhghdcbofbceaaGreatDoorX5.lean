/- ElB, ElC, ElD, FlM, ElE, ElF. -/
import Derived.Test.YtfhghdcbofbceaaGreatDoorX4
namespace Go.Proofs.YtfhghdcbofbceaaGreatDoor
open Go.RowKit Go.Lib
set_option maxRecDepth 100000
set_option maxHeartbeats 16000000
def ct(w:World)(v:Value)(ls:List (List UInt8)):Prop:=
 ∃a cap,v=.slice a ls.length cap∧ls.length≤cap∧(ls≠[]→∃g o,a=some ⟨g,o,none⟩∧∀(j:Nat) (x:List UInt8),ls[j]?=some x→w.cell? ⟨g,o+j,none⟩=some (.string ⟨x.toArray⟩))
theorem ct.below{w w':World}{v:Value}{ls:List (List UInt8)}(h:ct w v ls)(hb:Bw w w'):ct w' v ls:=by
 obtain⟨a,cap,hv,hc,hr⟩:=h;refine⟨a,cap,hv,hc,fun h0=>?_⟩;obtain⟨g,o,ha,hcell⟩:=hr h0;exact⟨g,o,ha,fun j x hj=>(hb.cell (bj (hcell j x hj))).trans (hcell j x hj)⟩
def eG(w:World)(v:Value)(al:List (List UInt8×List (List UInt8))):Prop:=
 ∃a cap,v=.slice a al.length cap∧al.length≤cap∧(al≠[]→∃g o,a=some ⟨g,o,none⟩∧∀(j:Nat) (x:List UInt8×List (List UInt8)),al[j]?=some x→w.cell? ⟨g,o+j*2,none⟩=some (.string ⟨x.1.toArray⟩)∧∃u,w.cell? ⟨g,o+j*2+1,none⟩=some u∧ct w u x.2)
theorem eG.below{w w':World}{v:Value}{al:List (List UInt8×List (List UInt8))}(h:eG w v al)(hb:Bw w w'):eG w' v al:=by
 obtain⟨a,cap,hv,hc,hr⟩:=h;refine⟨a,cap,hv,hc,fun h0=>?_⟩;obtain⟨g,o,ha,hcell⟩:=hr h0;refine⟨g,o,ha,fun j x hj=>?_⟩;obtain⟨h1,u,h2,h3⟩:=hcell j x hj;exact⟨(hb.cell (bj h1)).trans h1,u,(hb.cell (bj h2)).trans h2,h3.below hb⟩
def cP(s:List UInt8):El:=.mk 0 4 false s []
def bI(x:List UInt8×List (List UInt8)):El:=.mk 0 16 true [] [cP x.1,.mk 0 17 true [] (x.2.map cP)]
def vI(w:World)(ls:List (List UInt8))(v i:Value)(wr:World):Prop:=
 ∃k:Nat,i=.int .i64 (k:Int)∧k≤ls.length∧bJ w.heap.size wr v ((ls.take k).map cP)∧Bw w wr
theorem lN(vs:Value)(ls:List (List UInt8))(w:World)(h:ct w vs ls)(hl:ls.length≤100000000):
  Calls Tryz.prog 81 #[vs] w fun e w'=>(∃v,e=.returned v∧bJ w.heap.size w' v (ls.map cP))∧Bw w w':=by
 obtain⟨a,cap,rfl,hcap,hcells⟩:=h;have HC:=hid hcells;clear hcells
 go_enter Tryz.func81,Tryz.ntmps81
 go_wp2_with fail
 go_loopw [3,5,8] (fun v _ i wr=>vI w ls v i wr) (fun _ _ i _=>ls.length -(RowKit.intOf i).toNat)
 case atStart=>exact⟨0,rfl,Nat.zero_le _,bJ.nil _ _,aA _ _⟩
 case round=>
  obtain⟨k,rfl,hk,hown,hbe⟩:=hrel;obtain⟨av,cv,hsh⟩:=hown.shape;subst hsh;have hlen:((ls.take k).map cP).length=k:=by simp;omega
  rw[hlen] at hown⊢
  by_cases hkl:k<ls.length
  ·obtain⟨s,hs⟩:∃s,ls[k]?=some s:=⟨_,by simp[hkl];rfl⟩
   obtain⟨g,o,ha,hc⟩:=HC.out (by intro h0;rw[h0] at hkl;simp at hkl);subst ha;have q0:=(hbe.cell (bj (hc k s hs))).trans (hc k s hs);have i1:decide ((k:Int)<(ls.length:Int))=true:=aC (by omega);have i2:(k:Int)<(ls.length:Int):=by omega
   obtain⟨HO,HS⟩:=Cg hown hs;have hszr:=hbe.size;have kc:=bz s wr;clear hc hs hown
   go_wp2_with fail
   refine ag kc ?_;rintro e w2 ⟨rfl,hb2⟩;clear q0 kc;have o2:=HO.out.below hb2;have b2:=hbe.trans (hb2.mono hszr);simp only[elA,El.cls,El.tag,El.cons,El.bytes];have g3:=alb w2 #[I0,.int .i64 4,Bf,.string ⟨s.toArray⟩,Sn] 40;have x3:Hc (w2.alloc (.cells #[I0,.int .i64 4,Bf,.string ⟨s.toArray⟩,Sn] 40)) w2.heap.size (elA (cP s) (Sn)) 40:=fb _ _ _ rfl;have o3:=o2.below g3;have b3:=btt b2 g3;have hs3:=b3.size;obtain⟨O3,X3,B3⟩:=Ch o3 x3 b3;clear o2 b2 g3 o3 x3 b3 hb2 hbe
   go_wp2_with (at_builtin;refine bO rfl (.tmp 12) (.tmp 15) rfl w.heap.size (.slice av k cv) ((ls.take k).map cP) rfl O3.out (cP s) none 0 0 w2.heap.size rfl X3.out (bf.nil _ _) (by omega) hs3 ?_;rw[hlen];intro a' c' w5 ho5 hg5)
   have hts:(ls.take (k+1)).map cP=(ls.take k).map cP++[cP s]:=by rw[List.take_add_one,HS.out];simp
   have b5:=B3.out.grown hg5 hs3 (fun b hb=>(O3.out.lt hb).1);exact⟨⟨k+1,by go_num,by omega,by rw[hts];exact ho5,b5⟩,by simp[RowKit.intOf];omega⟩
  ·obtain rfl:k=ls.length:=by omega
   rw[List.take_of_length_le (ah _)] at hown;have HO:=hid hown;clear hown
   go_wp2_with fail
   go_ret
   exact⟨⟨_,rfl,HO.out⟩,hbe⟩
theorem gB(ls:List (List UInt8))(h:∀s∈ls,s.length≤1000000000):SmL (ls.map cP):=by
 induction ls with
 |nil=>simp only[List.map_nil,SmL]
 |cons s r ih=>
  simp only[List.map_cons,SmL,cP,SmE];exact⟨⟨h s (by simp),by simp,trivial⟩,ih fun x hx=>h x (by simp[hx])⟩
theorem mS(t:List UInt8)(vs:Value)(ls:List (List UInt8))(w:World)(h:ct w vs ls)(hl:ls.length≤100000000)(ht:t.length≤1000000000)(hs:∀s∈ls,s.length≤1000000000):
  Calls Tryz.prog 109 #[.string ⟨t.toArray⟩,vs] w fun e w'=>(∃u,e=.returned (.agg (elA (bI (t,ls)) u))∧bf (fun g=>w.heap.size≤g) w' u (bI (t,ls)).kids)∧Bw w w':=by
 have b1:=alb w Ze 40;have t1:=alz w Ze 40;have h1:=h.below b1;obtain⟨HS,HT⟩:=Cg hs ht;clear h hs ht
 go_enter Tryz.func109,Tryz.ntmps109
 go_wp2_with fail
 generalize w.alloc (.cells Ze 40)=w1 at b1 t1 h1⊢;have k1:=bz t w1;refine ag k1 ?_;rintro e w2 ⟨rfl,hb⟩;have h2:=h1.below hb;have t2:=bkk hb t1;have b2:=btt b1 hb;clear k1 hb h1 t1 b1;have k2:=lN vs ls w2 h2 hl
 go_wp2_with fail
 refine ag k2 ?_;rintro e w3 ⟨⟨v3,rfl,o3⟩,hb⟩;have t3:=bkk hb t2;have b3:=btt b2 hb;clear k2 hb h2 t2 b2;have k3:=cH (ls.map cP) v3 w3 o3.kids (gB ls HS.out) (by simp;omega);clear o3
 go_wp2_with fail
 refine ag k3 ?_;rintro e w4 ⟨⟨u4,rfl,hu4⟩,hb⟩;have t4:=bkk hb t3;have b4:=btt b3 hb;clear k3 hb t3 b3;have hsm:SmE (.mk 0 16 true [] (ls.map cP)):=by
  simp only[SmE];exact⟨by simp,by simp;omega,gB ls HS.out⟩
 have k4:=jV (.mk 0 16 true [] (ls.map cP)) u4 0 17 w4 (hu4.mono fun _ _ _=>trivial) hsm;clear hu4 hsm
 go_wp2_with fail
 refine ag k4 ?_;rintro e w5 ⟨⟨u5,rfl,hu5⟩,hb⟩;have t5:=bkk hb t4;have b5:=btt b4 hb;clear k4 hb t4 b4;obtain⟨a5,c5,hsh⟩:=hu5.shape;subst hsh;have hk6:=f9 (e1:=cP t) (e2:=.mk 0 17 true [] (ls.map cP)) (bf.nil _ w5) (hu5.mono fun _ _ _=>trivial);have g6:=alb w5 #[.int .i64 (cP t).cls,.int .i64 (cP t).tag,.bool (cP t).cons,.string ⟨(cP t).bytes.toArray⟩,Sn,.int .i64 (El.mk 0 17 true [] (ls.map cP)).cls,.int .i64 (El.mk 0 17 true [] (ls.map cP)).tag,.bool (El.mk 0 17 true [] (ls.map cP)).cons,.string ⟨(El.mk 0 17 true [] (ls.map cP)).bytes.toArray⟩,.slice a5 (El.mk 0 17 true [] (ls.map cP)).kids.length c5] 40;have t6:=bkk g6 t5;have b6:=btt b5 g6;simp only[elA,cP,El.cls,El.tag,El.cons,El.bytes,El.kids,List.length_map] at hk6 t6 b6⊢;obtain⟨K6,T6,B6⟩:=Ch hk6 t6 b6;clear g6 hk6 t6 b6 t5 b5 hu5
 go_wp2_with fail
 generalize w5.alloc (.cells #[I0,.int .i64 4,Bf,.string ⟨t.toArray⟩,Sn,I0,.int .i64 17,.bool true,Es,.slice a5 ls.length c5] 40)=w6 at K6 T6 B6⊢;have k6:=cH [cP t,.mk 0 17 true [] (ls.map cP)] _ w6 K6.out (by simp only[SmL,cP,SmE];exact⟨⟨HT.out,by simp,trivial⟩,⟨by simp,by simp;omega,gB ls HS.out⟩,trivial⟩) (by simp);refine ag k6 ?_;rintro e w7 ⟨⟨u,rfl,hu⟩,hb⟩;have t7:=(hb.block _ (gl T6.out)).trans T6.out;have b7:=B6.out.trans (hb.mono B6.out.size);have hs6:=(gl T6.out);clear k6 hb K6 T6 B6;obtain⟨E,hE⟩:=nmm (elA (El.mk 0 16 true [] [cP t,.mk 0 17 true [] (ls.map cP)]) u);have hE1:E.all (·.oneCell')=true:=by
  obtain⟨a,c,hsl⟩:=hu.shape;subst hsl;rw[←hE];simp[elA,Value.oneCell']
 have hE2:E.size=5:=by rw[←hE];rfl
 rw[hE];have hsz:=(gl t7);have bF:=xo b7 (g:=w.heap.size) (ah _) E;have tF:=setRow_heap w7 w.heap.size _ E _ _ t7;have uF:bf (fun g=>w.heap.size≤g) (w7.setRow w.heap.size E) u (El.mk 0 16 true [] [cP t,.mk 0 17 true [] (ls.map cP)]).kids:=hu.kept fun g hg hl=>⟨setRow_other w7 w.heap.size g E (by omega),by omega⟩
 obtain⟨HE,HE1,HE2,UF⟩:=Ci hE hE1 hE2 uF;clear hu hE hE1 hE2 uF b7
 go_wp2_with (refine stE (.tmp 4) (.tmp 12) E t7 HE2.out HE1.out ?_)
 refine aH (v:=.agg E) ?_ rfl ⟨⟨u,by rw[←HE.out]<;>rfl,UF.out⟩,bF⟩;have hr:=rlE tF HE2.out
 simp[results,Tryz.f109]
 exact hr
def vJ(w:World)(al:List (List UInt8×List (List UInt8)))(v i:Value)(wr:World):Prop:=
 ∃k:Nat,i=.int .i64 (k:Int)∧k≤al.length∧bJ w.heap.size wr v ((al.take k).map bI)∧Bw w wr
def pD(al:List (List UInt8×List (List UInt8))):Prop:=al.length≤100000000∧∀x∈al,x.1.length≤1000000000∧x.2.length≤100000000∧∀s∈x.2,s.length≤1000000000
theorem oB(x:List UInt8×List (List UInt8))(h:x.1.length≤1000000000∧x.2.length≤100000000∧∀s∈x.2,s.length≤1000000000):SmE (bI x):=by
 simp only[bI,SmE,SmL,cP];exact⟨by simp,by simp,⟨h.1,by simp,trivial⟩,⟨by simp,by simp;omega,gB x.2 h.2.2⟩,trivial⟩
theorem mT(al:List (List UInt8×List (List UInt8)))(h:∀x∈al,x.1.length≤1000000000∧x.2.length≤100000000∧∀s∈x.2,s.length≤1000000000):SmL (al.map bI):=by
 induction al with
 |nil=>simp only[List.map_nil,SmL]
 |cons x r ih=>
  simp only[List.map_cons,SmL];exact⟨oB x (h x (by simp)),ih fun y hy=>h y (by simp[hy])⟩
theorem pE(vs:Value)(al:List (List UInt8×List (List UInt8)))(w:World)(h:eG w vs al)(hok:pD al):
  Calls Tryz.prog 83 #[vs] w fun e w'=>(∃u,e=.returned (.agg (elA (.mk 0 16 true [] (al.map bI)) u))∧bf (fun g=>w.heap.size≤g) w' u (al.map bI))∧Bw w w':=by
 obtain⟨hl,hb⟩:=hok;have HB:=hid hb;have b1:=alb w Ze 40;have t1:=alz w Ze 40;have h1:=h.below b1;clear h hb;obtain⟨a,cap,hvs,hcap,hcells⟩:=h1;subst hvs;have HC:=hid hcells;clear hcells
 go_enter Tryz.func83,Tryz.ntmps83
 go_wp2_with fail
 generalize w.alloc (.cells Ze 40)=w1 at b1 t1 HC⊢
 go_loopw [3,5,8] (fun v _ i wr=>vJ w1 al v i wr) (fun _ _ i _=>al.length -(RowKit.intOf i).toNat)
 case atStart=>exact⟨0,rfl,Nat.zero_le _,bJ.nil _ _,aA _ _⟩
 case round=>
  obtain⟨k,rfl,hk,hown,hbe⟩:=hrel;obtain⟨av,cv,hsh⟩:=hown.shape;subst hsh;have hlen:((al.take k).map bI).length=k:=by simp;omega
  rw[hlen] at hown⊢
  by_cases hkl:k<al.length
  ·obtain⟨x,hx⟩:∃x,al[k]?=some x:=⟨_,by simp[hkl];rfl⟩
   obtain⟨g,o,ha,hc⟩:=HC.out (by intro h0;rw[h0] at hkl;simp at hkl);subst ha;obtain⟨p0,u,p1,hu⟩:=hc k x hx;have q0:=(hbe.cell (bj p0)).trans p0;have q1:=(hbe.cell (bj p1)).trans p1;have hu':=hu.below hbe;obtain⟨au,cu,hus,hcu,hru⟩:=id hu';subst hus;clear hru;have i1:decide ((k:Int)<(al.length:Int))=true:=aC (by omega);have i2:(k:Int)<(al.length:Int):=by omega
   have hbx:=HB.out x (List.mem_of_getElem? hx);obtain⟨HO,HX,HU,HBX⟩:=Ci hown hx hu' hbx;have hszr:=hbe.size;have n1:=alb wr #[.string ⟨x.1.toArray⟩,.slice au x.2.length cu] 143;have n2:=alz wr #[.string ⟨x.1.toArray⟩,.slice au x.2.length cu] 143;have kc:=mS x.1 _ x.2 _ (hu'.below n1) hbx.2.1 hbx.1 hbx.2.2;clear hc hx hown hu hu' hbx p0 p1 n2
   go_wp2_with fail
   refine ag kc ?_;rintro e w2 ⟨⟨u2,rfl,hu2⟩,hb2⟩;have hb3:Bw wr w2:=btt n1 hb2;have o2:=HO.out.below hb3;have b2:=hbe.trans (hb3.mono hszr);have hke2:bf (fun g=>(.slice av k cv:Value).ownBlock≠some g) w2 u2 (bI x).kids:=hu2.mono fun g hg _ h=>by
    have:=(HO.out.lt h).2;have:=n1.size
    omega
   obtain⟨a2,c2,hs2⟩:=hu2.shape;subst hs2;clear kc hb2 q0 q1 hu2 n1 hb3;simp only[elA,bI,cP,El.cls,El.tag,El.cons,El.bytes,El.kids,aG,aU] at hke2⊢;have g3:=alb w2 #[I0,.int .i64 16,.bool true,Es,.slice a2 2 c2] 40;have x3:Hc (w2.alloc (.cells #[I0,.int .i64 16,.bool true,Es,.slice a2 2 c2] 40)) w2.heap.size (elA (bI x) (.slice a2 2 c2)) 40:=fb _ _ _ rfl;have o3:=o2.below g3;have b3:=btt b2 g3;have k3:=hke2.below g3;have hs3:=b3.size;obtain⟨O3,X3,B3,K3⟩:=Ci o3 x3 b3 k3;clear o2 b2 g3 o3 x3 b3 hke2 k3 hbe
   go_wp2_with (at_builtin;refine bO rfl (.tmp 12) (.tmp 18) rfl w1.heap.size (.slice av k cv) ((al.take k).map bI) rfl O3.out (bI x) a2 2 c2 w2.heap.size rfl X3.out K3.out (by omega) hs3 ?_;rw[hlen];intro a' c' w5 ho5 hg5)
   have hts:(al.take (k+1)).map bI=(al.take k).map bI++[bI x]:=by rw[List.take_add_one,HX.out];simp
   have b5:=B3.out.grown hg5 hs3 (fun b hb=>(O3.out.lt hb).1);exact⟨⟨k+1,by go_num,by omega,by rw[hts];exact ho5,b5⟩,by simp[RowKit.intOf];omega⟩
  ·obtain rfl:k=al.length:=by omega
   rw[List.take_of_length_le (ah _)] at hown;have ks:=cH (al.map bI) _ wr hown.kids (mT al HB.out) (by simp;omega);have t2:=bkk hbe t1;have b2:=btt b1 hbe;obtain⟨KS,T2⟩:=Cg ks t2;clear ks hown t2 t1 hbe b1
   go_wp2_with fail
   refine ag (show Calls _ _ _ _ _ from KS.out) ?_;rintro e w7 ⟨⟨u,rfl,hu⟩,hb⟩;have t7:=(hb.block _ (gl T2.out)).trans T2.out;have b7:=btt b2 hb;have hs6:=(gl T2.out);clear KS hb T2 b2;obtain⟨E,hE⟩:=nmm (elA (El.mk 0 16 true [] (al.map bI)) u);have hE1:E.all (·.oneCell')=true:=by
    obtain⟨a,c,hsl⟩:=hu.shape;subst hsl;rw[←hE];simp[elA,Value.oneCell']
   have hE2:E.size=5:=by rw[←hE];rfl
   rw[hE];have hsz:=(gl t7);have bF:=xo b7 (g:=w.heap.size) (ah _) E;have tF:=setRow_heap w7 w.heap.size _ E _ _ t7;have uF:bf (fun g=>w.heap.size≤g) (w7.setRow w.heap.size E) u (El.mk 0 16 true [] (al.map bI)).kids:=hu.kept fun g hg hl=>⟨setRow_other w7 w.heap.size g E (by omega),by omega⟩
   obtain⟨HE,HE1,HE2,UF⟩:=Ci hE hE1 hE2 uF;clear hu hE hE1 hE2 uF b7
   go_wp2_with (refine stE (.tmp 2) (.tmp 22) E t7 HE2.out HE1.out ?_)
   refine aH (v:=.agg E) ?_ rfl ⟨⟨u,by rw[←HE.out]<;>rfl,UF.out⟩,bF⟩;have hr:=rlE tF HE2.out
   simp[results,Tryz.f83]
   exact hr
abbrev Mo:=Nat×List UInt8×List (List UInt8)
def kK(w:World)(v:Value)(ml:List Mo):Prop:=
 ∃a cap,v=.slice a ml.length cap∧ml.length≤cap∧(ml≠[]→∃g o,a=some ⟨g,o,none⟩∧∀(j:Nat) (x:Mo),ml[j]?=some x→w.cell? ⟨g,o+j*3,none⟩=some (.int .i64 (x.1:Int))∧w.cell? ⟨g,o+j*3+1,none⟩=some (.string ⟨x.2.1.toArray⟩)∧∃u,w.cell? ⟨g,o+j*3+2,none⟩=some u∧ct w u x.2.2)
theorem kK.below{w w':World}{v:Value}{ml:List Mo}(h:kK w v ml)(hb:Bw w w'):kK w' v ml:=by
 obtain⟨a,cap,hv,hc,hr⟩:=h;refine⟨a,cap,hv,hc,fun h0=>?_⟩;obtain⟨g,o,ha,hcell⟩:=hr h0;refine⟨g,o,ha,fun j x hj=>?_⟩;obtain⟨h0,h1,u,h2,h3⟩:=hcell j x hj;exact⟨(hb.cell (bj h0)).trans h0,(hb.cell (bj h1)).trans h1,u,(hb.cell (bj h2)).trans h2,h3.below hb⟩
def du(x:Mo):El:=.mk 0 16 true [] [.mk 0 10 false (sgB x.1) [],bI x.2]
def sG(ml:List Mo):Prop:=ml.length≤100000000∧∀x∈ml,x.1≤2147483647∧x.2.1.length≤1000000000∧x.2.2.length≤100000000∧∀s∈x.2.2,s.length≤1000000000
theorem qY(x:Mo)(h:x.1≤2147483647∧x.2.1.length≤1000000000∧x.2.2.length≤100000000∧∀s∈x.2.2,s.length≤1000000000):SmE (du x):=by
 have:=eg x.1;simp only[du,SmE,SmL];exact⟨by simp,by simp,⟨by omega,by simp,trivial⟩,oB x.2 h.2,trivial⟩
theorem zR(ml:List Mo)(h:∀x∈ml,x.1≤2147483647∧x.2.1.length≤1000000000∧x.2.2.length≤100000000∧∀s∈x.2.2,s.length≤1000000000):SmL (ml.map du):=by
 induction ml with
 |nil=>simp only[List.map_nil,SmL]
 |cons x r ih=>
  simp only[List.map_cons,SmL];exact⟨qY x (h x (by simp)),ih fun y hy=>h y (by simp[hy])⟩
def sH(w:World)(ml:List Mo)(v i:Value)(wr:World):Prop:=
 ∃k:Nat,i=.int .i64 (k:Int)∧k≤ml.length∧bJ w.heap.size wr v ((ml.take k).map du)∧Bw w wr
theorem qZ(vs:Value)(ml:List Mo)(w:World)(h:kK w vs ml)(hok:sG ml):
  Calls Tryz.prog 82 #[vs] w fun e w'=>(∃u,e=.returned (.agg (elA (.mk 0 16 true [] (ml.map du)) u))∧bf (fun g=>w.heap.size≤g) w' u (ml.map du))∧Bw w w':=by
 obtain⟨hl,hb⟩:=hok;have HB:=hid hb;have b1:=alb w Ze 40;have t1:=alz w Ze 40;have h1:=h.below b1;clear h hb;obtain⟨a,cap,hvs,hcap,hcells⟩:=h1;subst hvs;have HC:=hid hcells;clear hcells
 go_enter Tryz.func82,Tryz.ntmps82
 go_wp2_with fail
 generalize w.alloc (.cells Ze 40)=w1 at b1 t1 HC⊢
 go_loopw [3,5,8] (fun v _ i wr=>sH w1 ml v i wr) (fun _ _ i _=>ml.length -(RowKit.intOf i).toNat)
 case atStart=>exact⟨0,rfl,Nat.zero_le _,bJ.nil _ _,aA _ _⟩
 case round=>
  obtain⟨k,rfl,hk,hown,hbe⟩:=hrel;obtain⟨av,cv,hsh⟩:=hown.shape;subst hsh;have hlen:((ml.take k).map du).length=k:=by simp;omega
  rw[hlen] at hown⊢
  by_cases hkl:k<ml.length
  ·obtain⟨x,hx⟩:∃x,ml[k]?=some x:=⟨_,by simp[hkl];rfl⟩
   obtain⟨g,o,ha,hc⟩:=HC.out (by intro h0;rw[h0] at hkl;simp at hkl);subst ha;obtain⟨p0,p1,u,p2,hu⟩:=hc k x hx;have q0:=(hbe.cell (bj p0)).trans p0;have q1:=(hbe.cell (bj p1)).trans p1;have q2:=(hbe.cell (bj p2)).trans p2;have hu':=hu.below hbe;obtain⟨au,cu,hus,hcu,hru⟩:=id hu';subst hus;clear hru;have i1:decide ((k:Int)<(ml.length:Int))=true:=aC (by omega);have i2:(k:Int)<(ml.length:Int):=by omega
   have hbx:=HB.out x (List.mem_of_getElem? hx);obtain⟨HO,HX,HBX⟩:=Ch hown hx hbx;have hszr:=hbe.size;have n1:=alb wr #[.int .i64 (x.1:Int),.string ⟨x.2.1.toArray⟩,.slice au x.2.2.length cu] 112;have n2:=alz wr #[.int .i64 (x.1:Int),.string ⟨x.2.1.toArray⟩,.slice au x.2.2.length cu] 112;have hu1:=hu'.below n1;obtain⟨N2,HU⟩:=Cg n2 hu1;clear hc hx hown hu hu' hu1 hbx p0 p1 p2 n2
   go_upto_region 5 with fail
   have o1:=HO.out.below n1;generalize wr.alloc (.cells #[.int .i64 (x.1:Int),.string ⟨x.2.1.toArray⟩,.slice au x.2.2.length cu] 112)=w2 at n1 N2 HU o1⊢;have hn1:=n1.size;generalize hF:wr.heap.size=F at N2⊢;have HF:=hid hF;have bb:Bw w1 w2:=hbe.trans (n1.mono hszr);have hol:=fun g (h:(Value.slice av k cv).ownBlock=some g)=>(HO.out.lt h).2
   clear hF;refine aR (S:=fun w'=>Hc w' F #[.int .i64 (x.1:Int),.string ⟨x.2.1.toArray⟩,.slice au x.2.2.length cu] 112) (by kernel_rfl) ?_;have T:Hc w2.drew F #[.int .i64 (x.1:Int),.string ⟨x.2.1.toArray⟩,.slice au x.2.2.length cu] 112:=N2.out;have D:=bb.drew;have U:=HU.out.below (aA w2.heap.size w2).drew;have O2:=o1.below (aA w2.heap.size w2).drew
   change wpAnyH _ _ _ _ _ _ _ _ w2.drew
   have hsd:wr.heap.size≤w2.drew.heap.size:=hn1;clear N2 HU o1 q0 q1 q2 n1 bb hbe;generalize w2.drew=w3 at T D U O2 hsd⊢;refine tn 0 (.slice av k cv) rfl (fun w' hS=>by go_simp) T ?_;refine tp 1 ⟨F,0,none⟩ rfl T ?_;refine tn 2 (.int .i64 (x.1:Int)) rfl (fun w' hS=>by have q:=(aq hS 0).trans (show _=some _ from rfl);go_simp) T ?_;refine tp 4 ⟨F,1,none⟩ rfl T ?_;refine tn 5 (.string ⟨x.2.1.toArray⟩) rfl (fun w' hS=>by have q:=(aq hS 1).trans (show _=some _ from rfl);go_simp) T ?_;refine tp 6 ⟨F,2,none⟩ rfl T ?_;refine tn 7 (.slice au x.2.2.length cu) rfl (fun w' hS=>by have q:=(aq hS 2).trans (show _=some _ from rfl);go_simp) T ?_;have kc:=eO 10 x.1 HBX.out.1 w3;refine ao 3 rfl (fun K hK=>?_);go_simp;go_wp2_with fail
   refine ag kc ?_;rintro e w4 ⟨rfl,hb⟩;have T4:=bkk hb T;have D4:=btt D hb;have U4:=U.below hb;have O4:=O2.below hb;have hsd4:=Nat.le_trans hsd hb.size;clear kc hb T D U O2 hsd;refine hK _ _ T4 ?_;clear hK K
   have kc:=mS x.2.1 _ x.2.2 w4 U4 HBX.out.2.2.1 HBX.out.2.1 HBX.out.2.2.2;refine ao 8 rfl (fun K hK=>?_);go_simp;go_wp2_with fail
   refine ag kc ?_;rintro e w5 ⟨⟨u5,rfl,hu5⟩,hb⟩;have T5:=bkk hb T4;have D5:=btt D4 hb;have O5:=O4.below hb;have hsd5:=Nat.le_trans hsd4 hb.size;clear kc hb T4 D4 U4 O4;refine hK _ _ T5 ?_;clear hK K
   obtain⟨a5,c5,rfl⟩:=hu5.shape;have hk6:=f9 (e1:=.mk 0 10 false (sgB x.1) []) (e2:=bI x.2) (bf.nil _ w5) (hu5.mono fun _ _ _=>trivial);refine ao 9 rfl (fun K hK=>?_);refine jS (fZ (e1:=.mk 0 10 false (sgB x.1) []) (e2:=bI x.2) rfl rfl rfl) ?_;have g6:=alb w5 #[.int .i64 (El.mk 0 10 false (sgB x.1) []).cls,.int .i64 (El.mk 0 10 false (sgB x.1) []).tag,.bool (El.mk 0 10 false (sgB x.1) []).cons,.string ⟨(El.mk 0 10 false (sgB x.1) []).bytes.toArray⟩,Sn,.int .i64 (bI x.2).cls,.int .i64 (bI x.2).tag,.bool (bI x.2).cons,.string ⟨(bI x.2).bytes.toArray⟩,.slice a5 (bI x.2).kids.length c5] 40;have T6:=bkk g6 T5;have D6:=btt D5 g6;have O6:=O5.below g6;have hsd6:=Nat.le_trans hsd5 g6.size;refine hK _ _ T6 ?_;clear hK K
   generalize w5.alloc (.cells #[.int .i64 (El.mk 0 10 false (sgB x.1) []).cls,.int .i64 (El.mk 0 10 false (sgB x.1) []).tag,.bool (El.mk 0 10 false (sgB x.1) []).cons,.string ⟨(El.mk 0 10 false (sgB x.1) []).bytes.toArray⟩,Sn,.int .i64 (bI x.2).cls,.int .i64 (bI x.2).tag,.bool (bI x.2).cons,.string ⟨(bI x.2).bytes.toArray⟩,.slice a5 (bI x.2).kids.length c5] 40)=w6 at hk6 T6 D6 O6 hsd6⊢;clear g6 T5 D5 O5 hu5;have kc:=cH [.mk 0 10 false (sgB x.1) [],bI x.2] _ w6 hk6 (by have:=qY x HBX.out;simp only[du,SmE] at this;exact this.2.2) (by simp);refine ao 10 rfl (fun K hK=>?_);go_simp;go_wp2_with fail
   refine ag kc ?_;rintro e w7 ⟨⟨u7,rfl,hu7⟩,hb⟩;have T7:=bkk hb T6;have D7:=btt D6 hb;have O7:=O6.below hb;have hke:bf (fun g=>(.slice av k cv:Value).ownBlock≠some g) w7 u7 (du x).kids:=hu7.mono fun g hg _ h=>by
    have:=hol g h
    omega
   clear kc hb T6 D6 O6 hk6 hu7;refine hK _ _ T7 ?_;clear hK K
   have hs7:∃a c,u7=.slice a 2 c:=hke.shape;obtain⟨a7,c7,rfl⟩:=hs7;have g8:=alb w7 #[I0,.int .i64 16,.bool true,Es,.slice a7 2 c7] 40;have x8:Hc (w7.alloc (.cells #[I0,.int .i64 16,.bool true,Es,.slice a7 2 c7] 40)) w7.heap.size (elA (du x) (.slice a7 2 c7)) 40:=fb _ _ _ rfl;have T8:=bkk g8 T7;have D8:=btt D7 g8;have O8:=O7.below g8;have K8:=hke.below g8;have hs8:=D8.size;simp only[elA,El.cls,El.tag,El.cons,El.bytes,aG,aU];refine ao 11 rfl (kks T8 ?_);generalize hw8:w7.alloc (.cells #[I0,.int .i64 16,.bool true,Es,.slice a7 2 c7] 40)=w8 at g8 x8 T8 D8 O8 K8 hs8⊢;clear hw8 g8 T7 D7 O7 hke;refine ao 12 rfl (fun K hK=>?_);refine jt (.tmp 12) (.tmp 23) rfl w1.heap.size (.slice av k cv) ((ml.take k).map du) rfl O8 (du x) a7 2 c7 w7.heap.size rfl x8 K8 (by omega) hs8 ?_;rw[hlen];intro a' c' w9 ho9 hg9;have T9:Hc w9 F #[.int .i64 (x.1:Int),.string ⟨x.2.1.toArray⟩,.slice au x.2.2.length cu] 112:=(hg9.block F (gl T8) (fun h=>by have:=hol F h.symm;have:=HF.out;omega)).trans T8;have b9:=D8.grown hg9 hs8 (fun b hb=>(O8.lt hb).1);refine hK _ _ T9 ?_;clear hK K
   have hts:(ml.take (k+1)).map du=(ml.take k).map du++[du x]:=by rw[List.take_add_one,HX.out];simp
   have REST:sH w1 ml (.slice a' (k+1) c') (.int .i64 ((k+1:Nat):Int)) w9:=⟨k+1,rfl,by omega,by rw[hts];exact ho9,b9⟩;clear x8 K8 hs8 T8 D8 O8 ho9 hg9 b9 hts hol;refine ao 13 rfl (kks T9 ?_);refine xk (by kernel_rfl) ?_ _;simp only[Exit.inBlock,Exit.then];refine‹∀(a:Act) (w:World),Code.wp _ _ _ a w→_› _ _ ?_
   go_wp2_with fail
   exact⟨(show((k:Int)+1)=((k+1:Nat):Int) by omega)▸REST,by simp[RowKit.intOf];omega⟩
  ·obtain rfl:k=ml.length:=by omega
   rw[List.take_of_length_le (ah _)] at hown;have ks:=cH (ml.map du) _ wr hown.kids (zR ml HB.out) (by simp;omega);have t2:=bkk hbe t1;have b2:=btt b1 hbe;obtain⟨KS,T2⟩:=Cg ks t2;clear ks hown t2 t1 hbe b1
   go_wp2_with fail
   refine ag (show Calls _ _ _ _ _ from KS.out) ?_;rintro e w7 ⟨⟨u,rfl,hu⟩,hb⟩;have t7:=(hb.block _ (gl T2.out)).trans T2.out;have b7:=btt b2 hb;have hs6:=(gl T2.out);clear KS hb T2 b2;obtain⟨E,hE⟩:=nmm (elA (El.mk 0 16 true [] (ml.map du)) u);have hE1:E.all (·.oneCell')=true:=by
    obtain⟨a,c,hsl⟩:=hu.shape;subst hsl;rw[←hE];simp[elA,Value.oneCell']
   have hE2:E.size=5:=by rw[←hE];rfl
   rw[hE];have hsz:=(gl t7);have bF:=xo b7 (g:=w.heap.size) (ah _) E;have tF:=setRow_heap w7 w.heap.size _ E _ _ t7;have uF:bf (fun g=>w.heap.size≤g) (w7.setRow w.heap.size E) u (El.mk 0 16 true [] (ml.map du)).kids:=hu.kept fun g hg hl=>⟨setRow_other w7 w.heap.size g E (by omega),by omega⟩
   obtain⟨HE,HE1,HE2,UF⟩:=Ci hE hE1 hE2 uF;clear hu hE hE1 hE2 uF b7
   go_wp2_with (refine stE (.tmp 2) (.tmp 27) E t7 HE2.out HE1.out ?_)
   refine aH (v:=.agg E) ?_ rfl ⟨⟨u,by rw[←HE.out]<;>rfl,UF.out⟩,bF⟩;have hr:=rlE tF HE2.out
   simp[results,Tryz.f82]
   exact hr
def mU(w:World)(g o:Nat)(p:Fl):Prop:=
 w.cell? ⟨g,o,none⟩=some (.int .i64 p.op)∧w.cell? ⟨g,o+1,none⟩=some (.int .i64 p.n)∧w.cell? ⟨g,o+2,none⟩=some (.string ⟨p.typ.toArray⟩)∧w.cell? ⟨g,o+3,none⟩=some (.string ⟨p.value.toArray⟩)∧
  w.cell? ⟨g,o+4,none⟩=some (.string ⟨p.init.toArray⟩)∧w.cell? ⟨g,o+5,none⟩=some (.string ⟨p.final.toArray⟩)∧∃u,w.cell? ⟨g,o+6,none⟩=some u∧ct w u p.any
def de(w:World)(v:Value)(f:List Fl):Prop:=
 ∃a cap,v=.slice a f.length cap∧f.length≤cap∧(f≠[]→∃g o,a=some ⟨g,o,none⟩∧∀(j:Nat) (p:Fl),f[j]?=some p→mU w g (o+j*7) p)
theorem mU.below{w w':World}{g o:Nat}{p:Fl}(h:mU w g o p)(hb:Bw w w'):mU w' g o p:=by
 obtain⟨h0,h1,h2,h3,h4,h5,u,h6,h7⟩:=h;exact⟨(hb.cell (bj h0)).trans h0,(hb.cell (bj h1)).trans h1,(hb.cell (bj h2)).trans h2,(hb.cell (bj h3)).trans h3,(hb.cell (bj h4)).trans h4,(hb.cell (bj h5)).trans h5,u,(hb.cell (bj h6)).trans h6,h7.below hb⟩
theorem de.below{w w':World}{v:Value}{f:List Fl}(h:de w v f)(hb:Bw w w'):de w' v f:=by
 obtain⟨a,cap,hv,hc,hr⟩:=h;refine⟨a,cap,hv,hc,fun h0=>?_⟩;obtain⟨g,o,ha,hcell⟩:=hr h0;exact⟨g,o,ha,fun j p hj=>(hcell j p hj).below hb⟩
def eH:Value→Value
 | .slice (some ⟨g,o,q⟩) n cap=>if cap=1 then .slice (some ⟨g,o,q⟩) 0 0 else .slice (some ⟨g,o+7,q⟩) (n -1) (cap -1)
 |v=>v
theorem de.drop{w:World}{v:Value}{p:Fl}{f:List Fl}(h:de w v (p::f)):de w (eH v) f:=by
 obtain⟨a,cap,rfl,hc,hr⟩:=h;obtain⟨g,o,rfl,hcell⟩:=hr (by simp);simp only[aG] at hc;unfold eH
 by_cases h1:cap=1
 ·obtain rfl:f=[]:=List.length_eq_zero_iff.1 (by omega)
  simp only[h1,if_true];exact⟨_,_,rfl,ah _,fun h=>absurd rfl h⟩
 ·simp only[h1,if_false]
  refine⟨_,_,rfl,by omega,fun _=>⟨g,o+7,rfl,fun j q hj=>?_⟩⟩;have:=hcell (j+1) q (by simpa using hj);rw[show o+7+j*7=o+(j+1)*7 by omega];exact this
theorem de.shape{w:World}{v:Value}{f:List Fl}(h:de w v f):∃a c,v=.slice a f.length c:=by
 obtain⟨a,cap,rfl,_,_⟩:=h;exact⟨a,cap,rfl⟩
theorem de.first{w:World}{v:Value}{p:Fl}{f:List Fl}(h:de w v (p::f)):∃g o cap,v=.slice (some ⟨g,o,none⟩) (f.length+1) cap∧f.length+1≤cap∧mU w g o p:=by
 obtain⟨a,cap,rfl,hc,hr⟩:=h;obtain⟨g,o,rfl,hcell⟩:=hr (by simp);have:=hcell 0 p (by simp);exact⟨g,o,cap,by simp,by simpa using hc,by simpa using this⟩
def blB(b:Bool):List UInt8:=if b then[255] else[0]
theorem ra(t:Int)(w:World):
  Calls Tryz.prog 50 #[.int .i64 t,.bool true] w fun e w'=>(∃u,e=.returned (.agg (elA (El.mk 0 t false [255] []) u))∧bf (fun g=>w.heap.size≤g) w' u [])∧Bw w w':=by
 have b1:=alb w Ze 40;have t1:=alz w Ze 40;have ks:=i9 t [255] (w.alloc (.cells Ze 40))
 go_enter Tryz.func50,Tryz.ntmps50
 go_wp2_with fail
 generalize w.alloc (.cells Ze 40)=w1 at b1 t1 ks⊢;refine ag ks ?_;rintro e w2 ⟨rfl,hb2⟩;have t2:=bkk hb2 t1;have b2:=btt b1 hb2;clear ks t1 b1 hb2;generalize hu0:Value.slice none 0 0=u;have hu:bf (fun g=>w.heap.size+1≤g) w2 u []:=hu0▸bf.nil _ _;clear hu0;obtain⟨E,hE⟩:=nmm (elA (El.mk 0 t false [255] []) u);have hE1:E.all (·.oneCell')=true:=by
  obtain⟨a,c,hsl⟩:=hu.shape;subst hsl;rw[←hE];simp[elA,Value.oneCell']
 have hE2:E.size=5:=by rw[←hE];rfl
 rw[hE];have hsz:=(gl t2);have bF:=xo b2 (g:=w.heap.size) (ah _) E;have tF:=setRow_heap w2 w.heap.size _ E _ _ t2;have uF:bf (fun g=>w.heap.size≤g) (w2.setRow w.heap.size E) u (El.mk 0 t false [255] []).kids:=hu.kept fun g hg hl=>⟨setRow_other w2 w.heap.size g E (by omega),by omega⟩
 obtain⟨HE,HE1,HE2,UF⟩:=Ci hE hE1 hE2 uF;clear hu hE hE1 hE2 uF b2
 go_wp2_with (refine stE (.tmp 4) (.tmp 7) E t2 HE2.out HE1.out ?_)
 refine aH (v:=.agg E) ?_ rfl ⟨⟨u,by rw[←HE.out]<;>rfl,UF.out⟩,bF⟩;have hr:=rlE tF HE2.out
 simp[results,Tryz.f50]
 exact hr
theorem pF(t:Int)(w:World):
  Calls Tryz.prog 50 #[.int .i64 t,Bf] w fun e w'=>(∃u,e=.returned (.agg (elA (El.mk 0 t false [0] []) u))∧bf (fun g=>w.heap.size≤g) w' u [])∧Bw w w':=by
 have b1:=alb w Ze 40;have t1:=alz w Ze 40;have ks:=i9 t [0] (w.alloc (.cells Ze 40))
 go_enter Tryz.func50,Tryz.ntmps50
 go_wp2_with fail
 generalize w.alloc (.cells Ze 40)=w1 at b1 t1 ks⊢;refine ag ks ?_;rintro e w2 ⟨rfl,hb2⟩;have t2:=bkk hb2 t1;have b2:=btt b1 hb2;clear ks t1 b1 hb2;generalize hu0:Value.slice none 0 0=u;have hu:bf (fun g=>w.heap.size+1≤g) w2 u []:=hu0▸bf.nil _ _;clear hu0;obtain⟨E,hE⟩:=nmm (elA (El.mk 0 t false [0] []) u);have hE1:E.all (·.oneCell')=true:=by
  obtain⟨a,c,hsl⟩:=hu.shape;subst hsl;rw[←hE];simp[elA,Value.oneCell']
 have hE2:E.size=5:=by rw[←hE];rfl
 rw[hE];have hsz:=(gl t2);have bF:=xo b2 (g:=w.heap.size) (ah _) E;have tF:=setRow_heap w2 w.heap.size _ E _ _ t2;have uF:bf (fun g=>w.heap.size≤g) (w2.setRow w.heap.size E) u (El.mk 0 t false [0] []).kids:=hu.kept fun g hg hl=>⟨setRow_other w2 w.heap.size g E (by omega),by omega⟩
 obtain⟨HE,HE1,HE2,UF⟩:=Ci hE hE1 hE2 uF;clear hu hE hE1 hE2 uF b2
 go_wp2_with (refine stE (.tmp 4) (.tmp 9) E t2 HE2.out HE1.out ?_)
 refine aH (v:=.agg E) ?_ rfl ⟨⟨u,by rw[←HE.out]<;>rfl,UF.out⟩,bF⟩;have hr:=rlE tF HE2.out
 simp[results,Tryz.f50]
 exact hr
theorem iS(t:Int)(b:Bool)(w:World):Calls Tryz.prog 50 #[.int .i64 t,.bool b] w fun e w'=>(∃u,e=.returned (.agg (elA (.mk 0 t false (blB b) []) u))∧bf (fun g=>w.heap.size≤g) w' u [])∧Bw w w':=by
 cases b
 ·exact pF t w
 ·exact ra t w
theorem mV(w:World):
  Calls Tryz.prog 78 #[] w fun e w'=>(∃u,e=.returned (.agg (elA (El.mk 0 4 false [] []) u))∧bf (fun g=>w.heap.size≤g) w' u [])∧Bw w w':=by
 have b1:=alb w Ze 40;have t1:=alz w Ze 40;have ks:=bz [] (w.alloc (.cells Ze 40))
 go_enter Tryz.func78,Tryz.ntmps78
 go_wp2_with fail
 generalize w.alloc (.cells Ze 40)=w1 at b1 t1 ks⊢;refine ag ks ?_;rintro e w2 ⟨rfl,hb2⟩;have t2:=bkk hb2 t1;have b2:=btt b1 hb2;clear ks t1 b1 hb2;generalize hu0:Value.slice none 0 0=u;have hu:bf (fun g=>w.heap.size+1≤g) w2 u []:=hu0▸bf.nil _ _;clear hu0;obtain⟨E,hE⟩:=nmm (elA (El.mk 0 4 false [] []) u);have hE1:E.all (·.oneCell')=true:=by
  obtain⟨a,c,hsl⟩:=hu.shape;subst hsl;rw[←hE];simp[elA,Value.oneCell']
 have hE2:E.size=5:=by rw[←hE];rfl
 rw[hE];have hsz:=(gl t2);have bF:=xo b2 (g:=w.heap.size) (ah _) E;have tF:=setRow_heap w2 w.heap.size _ E _ _ t2;have uF:bf (fun g=>w.heap.size≤g) (w2.setRow w.heap.size E) u (El.mk 0 4 false [] []).kids:=hu.kept fun g hg hl=>⟨setRow_other w2 w.heap.size g E (by omega),by omega⟩
 obtain⟨HE,HE1,HE2,UF⟩:=Ci hE hE1 hE2 uF;clear hu hE hE1 hE2 uF b2
 go_wp2_with (refine stE (.tmp 0) (.tmp 1) E t2 HE2.out HE1.out ?_)
 refine aH (v:=.agg E) ?_ rfl ⟨⟨u,by rw[←HE.out]<;>rfl,UF.out⟩,bF⟩;have hr:=rlE tF HE2.out
 simp[results,Tryz.f78]
 exact hr
theorem lW(b n:Nat)(A:Array Value)(w:World)(hb:Hc w b A 32)(h23:A[23]?=some (.int .i64 (n:Int)))(hn:n≤2147483647):
  Calls Tryz.prog 86 #[.pointer (some ⟨b,0,none⟩)] w fun e w'=>(∃u,e=.returned (.agg (elA (El.mk 0 2 false (sgB n) []) u))∧bf (fun g=>w.heap.size≤g) w' u [])∧Bw w w':=by
 have b1:=alb w Ze 40;have t1:=alz w Ze 40;have m1:=bkk b1 hb;have q2:=(aq m1 23).trans h23;have ks:=eO 2 n hn (w.alloc (.cells Ze 40));clear hb h23 m1
 go_enter Tryz.func86,Tryz.ntmps86
 go_wp2_with fail
 clear q2;generalize w.alloc (.cells Ze 40)=w1 at b1 t1 ks⊢;refine ag ks ?_;rintro e w2 ⟨rfl,hb2⟩;have t2:=bkk hb2 t1;have b2:=btt b1 hb2;clear ks t1 b1 hb2;generalize hu0:Value.slice none 0 0=u;have hu:bf (fun g=>w.heap.size+1≤g) w2 u []:=hu0▸bf.nil _ _;clear hu0;obtain⟨E,hE⟩:=nmm (elA (El.mk 0 2 false (sgB n) []) u);have hE1:E.all (·.oneCell')=true:=by
  obtain⟨a,c,hsl⟩:=hu.shape;subst hsl;rw[←hE];simp[elA,Value.oneCell']
 have hE2:E.size=5:=by rw[←hE];rfl
 rw[hE];have hsz:=(gl t2);have bF:=xo b2 (g:=w.heap.size) (ah _) E;have tF:=setRow_heap w2 w.heap.size _ E _ _ t2;have uF:bf (fun g=>w.heap.size≤g) (w2.setRow w.heap.size E) u (El.mk 0 2 false (sgB n) []).kids:=hu.kept fun g hg hl=>⟨setRow_other w2 w.heap.size g E (by omega),by omega⟩
 obtain⟨HE,HE1,HE2,UF⟩:=Ci hE hE1 hE2 uF;clear hu hE hE1 hE2 uF b2
 go_wp2_with (refine stE (.tmp 1) (.tmp 4) E t2 HE2.out HE1.out ?_)
 refine aH (v:=.agg E) ?_ rfl ⟨⟨u,by rw[←HE.out]<;>rfl,UF.out⟩,bF⟩;have hr:=rlE tF HE2.out
 simp[results,Tryz.f86]
 exact hr
theorem pG(b:Nat)(A:Array Value)(oid:List UInt8)(w:World)(h0:Hc w b A 32)(h21:A[21]?=some (.string ⟨oid.toArray⟩))(h22:A[22]?=some (.bool false))(ho:oid.length≤1000000000):
  Calls Tryz.prog 87 #[.pointer (some ⟨b,0,none⟩)] w fun e w'=>(∃u,e=.returned (.agg (elA (.mk 0 16 true [] [.mk 2 0 false oid []]) u))∧bf (fun g=>w.heap.size≤g) w' u [.mk 2 0 false oid []])∧Bw w w':=by
 have b1:=alb w Ze 40;have t1:=alz w Ze 40;have m1:=bkk b1 h0;obtain⟨G21,G22⟩:=Cg h21 h22;clear h0 h21 h22
 go_enter Tryz.func87,Tryz.ntmps87
 go_upto_region 1 with fail
 generalize w.alloc (.cells Ze 40)=w1 at b1 t1 m1⊢;have q:=(aq m1 21).trans G21.out;have kc:=bz oid w1
 go_wp2_with fail
 refine ag kc ?_;rintro e w2 ⟨rfl,hb⟩;clear kc q;have t2:=bkk hb t1;have m2:=bkk hb m1;have b2:=btt b1 hb;clear hb t1 m1 b1;have kc:=BY (.mk 0 4 false oid []) (Sn) 0 w2 (bf.nil _ _) (by simp[SmE,SmL];exact ho)
 go_wp2_with fail
 refine ag kc ?_;rintro e w3 ⟨⟨u3,rfl,hu3⟩,hb⟩;obtain⟨a3,c3,rfl⟩:=hu3.empty;clear kc hu3;have t3:=bkk hb t2;have m3:=bkk hb m2;have b3:=btt b2 hb;clear hb t2 m2 b2;simp only[elA,El.cls,El.tag,El.cons,El.bytes];have hb:=alb w3 #[.int .i64 2,I0,Bf,.string ⟨oid.toArray⟩,.slice a3 0 c3] 40;have x4:=alz w3 #[.int .i64 2,I0,Bf,.string ⟨oid.toArray⟩,.slice a3 0 c3] 40;have z4:w.heap.size+1≤w3.heap.size:=(gl t3);have o4:bJ (w.heap.size+1) (w3.alloc (.cells #[.int .i64 2,I0,Bf,.string ⟨oid.toArray⟩,.slice a3 0 c3] 40)) (.slice (some ⟨w3.heap.size,0,none⟩) 1 1) [.mk 2 0 false oid []]:=
  bJ.flat (l:=[.mk 2 0 false oid []]) (us:=[.slice a3 0 c3]) x4 (by simp[cx,El.cls,El.tag,El.cons,El.bytes]) rfl z4 (by simp) (fun j e u q1 q2=>by
   have h3:j=0:=by have h9:=(List.getElem?_eq_some_iff.1 q1).1;simp at h9;omega
   subst h3
   simp at q1 q2
   subst q1;subst q2;exact bf.no _ _ _ _)
 have t4:=bkk hb t3;have m4:=bkk hb m3;have b4:=btt b3 hb;clear hb t3 m3 b3 x4 z4
 go_upto_region 2 with fail
 generalize w3.alloc (.cells #[.int .i64 2,I0,Bf,.string ⟨oid.toArray⟩,.slice a3 0 c3] 40)=w4 at t4 m4 b4 o4⊢;generalize w3.heap.size=x3 at o4⊢;have q:=(aq m4 22).trans G22.out;have kc:=cH [.mk 2 0 false oid []] _ w4 o4.kids (by simp[SmE,SmL];exact ho) (by simp);clear o4
 go_wp2_with fail
 refine ag kc ?_;rintro e w5 ⟨⟨u,rfl,hu⟩,hb⟩;have z:=(gl t4);clear kc q;have t5:=bkk hb t4;have m5:=bkk hb m4;have b5:=btt b4 hb;clear hb t4 m4 b4;obtain⟨E,hE⟩:=nmm (elA (El.mk 0 16 true [] [.mk 2 0 false oid []]) u);have hE1:E.all (·.oneCell')=true:=by
  obtain⟨a,c,hsl⟩:=hu.shape;subst hsl;rw[←hE];simp[elA,Value.oneCell']
 have hE2:E.size=5:=by rw[←hE];rfl
 rw[hE];have hsz:=(gl t5);have bF:=xo b5 (g:=w.heap.size) (ah _) E;have tF:=setRow_heap w5 w.heap.size _ E _ _ t5;have uF:bf (fun g=>w.heap.size≤g) (w5.setRow w.heap.size E) u (El.mk 0 16 true [] [.mk 2 0 false oid []]).kids:=hu.kept fun g hg hl=>⟨setRow_other w5 w.heap.size g E (by omega),by omega⟩
 obtain⟨HE,HE1,HE2,UF⟩:=Ci hE hE1 hE2 uF;clear hu hE hE1 hE2 uF b5
 go_wp2_with (refine stE (.tmp 1) (.tmp 18) E t5 HE2.out HE1.out ?_)
 refine aH (v:=.agg E) ?_ rfl ⟨⟨u,by rw[←HE.out]<;>rfl,UF.out⟩,bF⟩;have hr:=rlE tF HE2.out
 simp[results,Tryz.f87]
 exact hr
theorem pH(b:Nat)(A:Array Value)(oid val:List UInt8)(w:World)(h0:Hc w b A 32)(h21:A[21]?=some (.string ⟨oid.toArray⟩))(h22:A[22]?=some (.bool true))(h20:A[20]?=some (.string ⟨val.toArray⟩))(ho:oid.length≤1000000000)(hv:val.length≤1000000000):
  Calls Tryz.prog 87 #[.pointer (some ⟨b,0,none⟩)] w fun e w'=>(∃u,e=.returned (.agg (elA (.mk 0 16 true [] [.mk 2 0 false oid [],.mk 2 1 false val []]) u))∧bf (fun g=>w.heap.size≤g) w' u [.mk 2 0 false oid [],.mk 2 1 false val []])∧Bw w w':=by
 have b1:=alb w Ze 40;have t1:=alz w Ze 40;have m1:=bkk b1 h0;obtain⟨G21,G22,G20⟩:=Ch h21 h22 h20;clear h0 h21 h22 h20
 go_enter Tryz.func87,Tryz.ntmps87
 go_upto_region 1 with fail
 generalize w.alloc (.cells Ze 40)=w1 at b1 t1 m1⊢;have q:=(aq m1 21).trans G21.out;have kc:=bz oid w1
 go_wp2_with fail
 refine ag kc ?_;rintro e w2 ⟨rfl,hb⟩;clear kc q;have t2:=bkk hb t1;have m2:=bkk hb m1;have b2:=btt b1 hb;clear hb t1 m1 b1;have kc:=BY (.mk 0 4 false oid []) (Sn) 0 w2 (bf.nil _ _) (by simp[SmE,SmL];exact ho)
 go_wp2_with fail
 refine ag kc ?_;rintro e w3 ⟨⟨u3,rfl,hu3⟩,hb⟩;obtain⟨a3,c3,rfl⟩:=hu3.empty;clear kc hu3;have t3:=bkk hb t2;have m3:=bkk hb m2;have b3:=btt b2 hb;clear hb t2 m2 b2;simp only[elA,El.cls,El.tag,El.cons,El.bytes];have hb:=alb w3 #[.int .i64 2,I0,Bf,.string ⟨oid.toArray⟩,.slice a3 0 c3] 40;have x4:=alz w3 #[.int .i64 2,I0,Bf,.string ⟨oid.toArray⟩,.slice a3 0 c3] 40;have z4:w.heap.size+1≤w3.heap.size:=(gl t3);have o4:bJ (w.heap.size+1) (w3.alloc (.cells #[.int .i64 2,I0,Bf,.string ⟨oid.toArray⟩,.slice a3 0 c3] 40)) (.slice (some ⟨w3.heap.size,0,none⟩) 1 1) [.mk 2 0 false oid []]:=
  bJ.flat (l:=[.mk 2 0 false oid []]) (us:=[.slice a3 0 c3]) x4 (by simp[cx,El.cls,El.tag,El.cons,El.bytes]) rfl z4 (by simp) (fun j e u q1 q2=>by
   have h3:j=0:=by have h9:=(List.getElem?_eq_some_iff.1 q1).1;simp at h9;omega
   subst h3
   simp at q1 q2
   subst q1;subst q2;exact bf.no _ _ _ _)
 have t4:=bkk hb t3;have m4:=bkk hb m3;have b4:=btt b3 hb;clear hb t3 m3 b3 x4 z4
 go_upto_region 2 with fail
 generalize w3.alloc (.cells #[.int .i64 2,I0,Bf,.string ⟨oid.toArray⟩,.slice a3 0 c3] 40)=w4 at t4 m4 b4 o4⊢;generalize w3.heap.size=x3 at o4⊢;have q:=(aq m4 22).trans G22.out
 go_upto_region 3 with fail
 clear q;have q:=(aq m4 20).trans G20.out;have kc:=bz val w4
 go_wp2_with fail
 refine ag kc ?_;rintro e w5 ⟨rfl,hb⟩;clear kc q;have t5:=bkk hb t4;have b5:=btt b4 hb;have o5:=o4.below hb;clear hb t4 b4 o4;have kc:=BY (.mk 0 4 false val []) (Sn) 1 w5 (bf.nil _ _) (by simp[SmE,SmL];exact hv)
 go_wp2_with fail
 refine ag kc ?_;rintro e w6 ⟨⟨u6,rfl,hu6⟩,hb⟩;obtain⟨a6,c6,rfl⟩:=hu6.empty;clear kc hu6;have t6:=bkk hb t5;have b6:=btt b5 hb;have o6:=o5.below hb;clear hb t5 b5 o5;simp only[elA,El.cls,El.tag,El.cons,El.bytes];have hb:=alb w6 #[.int .i64 2,.int .i64 1,Bf,.string ⟨val.toArray⟩,.slice a6 0 c6] 40;have x7:Hc (w6.alloc (.cells #[.int .i64 2,.int .i64 1,Bf,.string ⟨val.toArray⟩,.slice a6 0 c6] 40)) w6.heap.size (elA (.mk 2 1 false val []) (.slice a6 0 c6)) 40:=fb _ _ _ rfl;have t7:=bkk hb t6;have b7:=btt b6 hb;have o7:=o6.below hb;clear hb t6 b6 o6;have hs7:=b7.size;have z7:=(gl t7);obtain⟨O7,X7,T7,B7⟩:=Ci o7 x7 t7 b7;clear o7 x7 t7 b7
 go_wp2_with (at_builtin;refine bO rfl (.tmp 10) (.tmp 15) rfl (w.heap.size+1) (.slice (some ⟨x3,0,none⟩) 1 1) [.mk 2 0 false oid []] rfl O7.out (.mk 2 1 false val []) a6 0 c6 w6.heap.size rfl X7.out (bf.no _ _ _ _) (by simp) z7 ?_;intro a8 c8 w8 o8 g8)
 have t8:=(g8.block w.heap.size z7 (fun h=>by have:=(O7.out.lt h.symm).1;omega)).trans T7.out;have b8:=B7.out.grown g8 hs7 (fun b hb=>by have:=(O7.out.lt hb).1;omega);clear g8 hs7 z7 O7 X7 T7 B7;have kc:=cH [.mk 2 0 false oid [],.mk 2 1 false val []] _ w8 o8.kids (by simp[SmE,SmL];exact⟨ho,hv⟩) (by simp);clear o8
 go_wp2_with fail
 refine ag kc ?_;rintro e w9 ⟨⟨u,rfl,hu⟩,hb⟩;have z:=(gl t8);clear kc;have t9:=bkk hb t8;have b9:=btt b8 hb;clear hb t8 b8;obtain⟨E,hE⟩:=nmm (elA (El.mk 0 16 true [] [.mk 2 0 false oid [],.mk 2 1 false val []]) u);have hE1:E.all (·.oneCell')=true:=by
  obtain⟨a,c,hsl⟩:=hu.shape;subst hsl;rw[←hE];simp[elA,Value.oneCell']
 have hE2:E.size=5:=by rw[←hE];rfl
 rw[hE];have hsz:=(gl t9);have bF:=xo b9 (g:=w.heap.size) (ah _) E;have tF:=setRow_heap w9 w.heap.size _ E _ _ t9;have uF:bf (fun g=>w.heap.size≤g) (w9.setRow w.heap.size E) u (El.mk 0 16 true [] [.mk 2 0 false oid [],.mk 2 1 false val []]).kids:=hu.kept fun g hg hl=>⟨setRow_other w9 w.heap.size g E (by omega),by omega⟩
 obtain⟨HE,HE1,HE2,UF⟩:=Ci hE hE1 hE2 uF;clear hu hE hE1 hE2 uF b9
 go_wp2_with (refine stE (.tmp 1) (.tmp 18) E t9 HE2.out HE1.out ?_)
 refine aH (v:=.agg E) ?_ rfl ⟨⟨u,by rw[←HE.out]<;>rfl,UF.out⟩,bF⟩;have hr:=rlE tF HE2.out
 simp[results,Tryz.f87]
 exact hr
end Go.Proofs.YtfhghdcbofbceaaGreatDoor
