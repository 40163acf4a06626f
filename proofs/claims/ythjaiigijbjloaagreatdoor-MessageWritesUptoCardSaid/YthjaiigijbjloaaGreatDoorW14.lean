/- R9P, R9Q. -/
import Derived.Test.YthjaiigijbjloaaGreatDoorW13
namespace Go.Proofs.YthjaiigijbjloaaGreatDoor
open Go.RowKit Go.Lib
set_option maxRecDepth 100000
set_option maxHeartbeats 16000000
def mdE(x:Md):El:=du (x.1.toNat,x.2)
theorem AS{P:Nat→Prop}{w:World}{b:Nat}{L:List El}{us:List Value}{cs:Array Value}(hb:w.heap[b]?=some (.cells cs 45 (0,0)))(hcs:cs.toList=cx L us)(hl:us.length=L.length)(hk:xN P w L us)(hP:P b):bf P w (.slice (some ⟨b,0,none⟩) L.length L.length) L:=by
 refine⟨some ⟨b,0,none⟩,L.length,rfl,ah _,fun _=>⟨b,0,rfl,hP,cE.of L b 0 fun j e hj=>?_⟩⟩;obtain⟨u,hu⟩:∃u,us[j]?=some u:=⟨us[j]'(by rw[hl];exact(List.getElem?_eq_some_iff.1 hj).1),bp _⟩;obtain⟨q0,q1,q2,q3,q4⟩:=iZ L us j e u hj hu;have hc:∀i v,(cx L us)[i]?=some v→w.cell? ⟨b,i,none⟩=some v:=fun i v h=>by rw[ap hb i,←Array.getElem?_toList,hcs];exact h
 rw[Nat.zero_add];exact ElC.mk (hc _ _ q0) (hc _ _ q1) (hc _ _ q2) (hc _ _ q3) (hc _ _ q4) (xN.get L us hk j e u hj hu)
theorem AU(ml:List Md):(dR ml).map du=ml.map mdE:=by simp[dR,mdE]
theorem zW(m:Mg)(l:Ls)(w:World)(hm:MgM w m l)(hk:LsOk m l)(hr:∀x∈l.mods,0≤x.1∧x.1≤2)(hop:m.op=6):Calls Tryz.prog 34 #[.agg m.row] w (FoP w (.mk 1 6 true [] [.mk 0 4 false m.dn [],.mk 0 16 true [] (l.mods.map mdE)])):=by
 obtain⟨HM,HR⟩:=Cg hm.mods hr;have hml:l.mods.length≤100000000:=hk.mods;have HMS:=hid hk.modss;obtain⟨mA,mC,hmods,hmc,hmcell⟩:=id hm.mods;have HMC:=hid hmcell;clear hm hk hr hmcell;obtain⟨b0,m0,x0⟩:=B0 w m.row
 go_enter Tryz.func34,Tryz.ntmps34
 go_upto_region 1 with fail
 generalize(w.alloc (.cells m.row 28)).alloc (.cells Ze 45)=w1 at b0 m0 x0⊢;have kc:=dd none 0 0 w1
 go_wp2_with fail
 refine ag kc ?_;rintro e wx ⟨rfl,hb⟩;have OX:=Ca b0 m0 x0 hb;clear kc hb b0 m0 x0
 go_upto_region 2 with fail
 have S:EaS wx.heap.size #[.int .i64 0,.int .i64 16,.bool true,Es,Sn] wx (Sn) [] (wx.alloc (.cells #[.int .i64 0,.int .i64 16,.bool true,Es,Sn] 45)):=EaS.nil (bi _ _ _ rfl) ((ar _ _).alloc (ah _) _) (ah _);generalize wx.alloc (.cells #[.int .i64 0,.int .i64 16,.bool true,Es,Sn] 45)=w2 at S⊢;have o1:w2.cell? ⟨w.heap.size,1,none⟩=some (.int .i64 6):=OX.c S 1 (by rw[←hop];rfl)
 go_wp2_with fail
 clear o1;have HS:=hid S;clear S
 go_loopw [4,5] (fun v i wr=>∃k:Nat,i=.int .i64 (k:Int)∧k≤l.mods.length∧EaS wx.heap.size #[.int .i64 0,.int .i64 16,.bool true,Es,Sn] wx v ((l.mods.take k).map mdE) wr) (fun _ i _=>l.mods.length -(RowKit.intOf i).toNat)
 case atStart=>exact⟨0,rfl,Nat.zero_le _,HS.out⟩
 case round=>
  clear HS;obtain⟨k,rfl,hk,S⟩:=hrel;obtain⟨av,cv,hsh⟩:=S.shape;subst hsh;have hlen:((l.mods.take k).map mdE).length=k:=by simp;omega
  rw[hlen] at S⊢;have c13:wr.cell? ⟨w.heap.size,13,none⟩=some (.slice mA l.mods.length mC):=(ap (OX.m S.bel) 13).trans (show m.row[13]?=some (.slice mA l.mods.length mC:Value) by rw[←hmods];rfl)
  by_cases hkl:k<l.mods.length
  ·obtain⟨x,hx⟩:∃x,l.mods[k]?=some x:=⟨_,by simp[hkl];rfl⟩
   obtain⟨g,o,ha,hc⟩:=HMC.out (by intro h0;rw[h0] at hkl;simp at hkl);subst ha;obtain⟨q0,q1,u,q2,hu⟩:=hc k x hx;have hxm:=List.mem_of_getElem? hx;obtain⟨hx0,hx2⟩:=HR.out x hxm;obtain⟨n,hn⟩:=nmm x.1.toNat;have hxn:x.1=(n:Int):=by omega
   have hn2:n≤2147483647:=by omega
   rw[hxn] at q0;obtain⟨au,cu,hfu,_,_⟩:=id hu;subst hfu;have hwb:=OX.b S.bel;have HQ:=hid (show w.cell? ⟨g,o+k*3,none⟩=some (.int .i64 (n:Int))∧w.cell? ⟨g,o+k*3+1,none⟩=some (.string ⟨x.2.1.toArray⟩)∧w.cell? ⟨g,o+k*3+2,none⟩=some (.slice au x.2.2.length cu) from⟨q0,q1,q2⟩);have hul:=(HMS.out x hxm).2.1;have i1:decide ((k:Int)<(l.mods.length:Int))=true:=aL (by omega);have i2:(k:Int)<(l.mods.length:Int):=by omega
   have hts:(l.mods.take (k+1)).map mdE=(l.mods.take k).map mdE++[.mk 0 16 true [] [.mk 0 10 false (sgB n) [],bI x.2]]:=by rw[List.take_add_one,hx,←hn];simp[mdE,du]
   obtain⟨HTS,HU,HS⟩:=Ch hts (fun W (h:Below w.heap.size w W)=>yx x.2.1 (.slice au x.2.2.length cu) x.2.2 W (hu.below h) hul) S;clear hx hc q0 q1 q2 hn hxn hx0 hx2 hts hu hxm S hul hwb
   go_wp2_with fail
   refine aR (S:=fun w'=>w'.heap[w.heap.size]?=some (.cells m.row 28 (0,0))∧w'.cell? ⟨g,o+k*3,none⟩=some (.int .i64 (n:Int))∧w'.cell? ⟨g,o+k*3+1,none⟩=some (.string ⟨x.2.1.toArray⟩)∧w'.cell? ⟨g,o+k*3+2,none⟩=some (.slice au x.2.2.length cu)) (by kernel_rfl) ?_
   change wpAnyH _ _ _ _ _ _ _ _ wr.drew
   have S:=HS.out.below (ar wr.heap.size wr).drew;clear HS c13;generalize wr.drew=w2 at S⊢;have TT:∀W,Below wx.heap.size wx W→W.heap[w.heap.size]?=some (.cells m.row 28 (0,0))∧W.cell? ⟨g,o+k*3,none⟩=some (.int .i64 (n:Int))∧W.cell? ⟨g,o+k*3+1,none⟩=some (.string ⟨x.2.1.toArray⟩)∧W.cell? ⟨g,o+k*3+2,none⟩=some (.slice au x.2.2.length cu):=fun W hW=>by
    have hb:=OX.b hW;obtain⟨z0,z1,z2⟩:=HQ.out;exact⟨OX.m hW,(hb.cell (bj z0)).trans z0,(hb.cell (bj z1)).trans z1,(hb.cell (bj z2)).trans z2⟩
   have HTT:=hid TT;have T:=TT w2 S.bel;clear TT;refine tn 0 (.slice av k cv) rfl (fun w' hS=>by go_simp) T ?_;refine tp 1 ⟨w.heap.size,13,none⟩ rfl T ?_;refine tp 8 ⟨w.heap.size,13,none⟩ rfl T ?_;refine tp 14 ⟨w.heap.size,13,none⟩ rfl T ?_;refine tn 3 (.int .i64 (k:Int)) rfl (fun w' hS=>by go_simp) T ?_;refine tn 10 (.int .i64 (k:Int)) rfl (fun w' hS=>by go_simp) T ?_;refine tn 16 (.int .i64 (k:Int)) rfl (fun w' hS=>by go_simp) T ?_;refine tn 2 (.slice (some ⟨g,o,none⟩) l.mods.length mC) rfl (fun w' hS=>by have q:=(ap hS.1 13).trans (show m.row[13]?=some (.slice (some ⟨g,o,none⟩) l.mods.length mC:Value) by rw[←hmods];rfl);go_simp) T ?_;refine tn 9 (.slice (some ⟨g,o,none⟩) l.mods.length mC) rfl (fun w' hS=>by have q:=(ap hS.1 13).trans (show m.row[13]?=some (.slice (some ⟨g,o,none⟩) l.mods.length mC:Value) by rw[←hmods];rfl);go_simp) T ?_;refine tn 15 (.slice (some ⟨g,o,none⟩) l.mods.length mC) rfl (fun w' hS=>by have q:=(ap hS.1 13).trans (show m.row[13]?=some (.slice (some ⟨g,o,none⟩) l.mods.length mC:Value) by rw[←hmods];rfl);go_simp) T ?_;refine tp 4 ⟨g,o+k*3,none⟩ rfl T ?_;refine tp 11 ⟨g,o+k*3,none⟩ rfl T ?_;refine tp 17 ⟨g,o+k*3,none⟩ rfl T ?_;refine tp 5 ⟨g,o+k*3,none⟩ rfl T ?_;refine tp 12 ⟨g,o+k*3+1,none⟩ rfl T ?_;refine tp 18 ⟨g,o+k*3+2,none⟩ rfl T ?_;refine tn 6 (.int .i64 (n:Int)) rfl (fun w' hS=>by have q:=hS.2.1;go_simp) T ?_;refine tn 13 (.string ⟨x.2.1.toArray⟩) rfl (fun w' hS=>by have q:=hS.2.2.1;go_simp) T ?_;refine tn 19 (.slice au x.2.2.length cu) rfl (fun w' hS=>by have q:=hS.2.2.2;go_simp) T ?_;have kc:=sf n hn2 w2;refine ao 7 rfl (fun K hK=>?_);go_simp;go_wp2_with fail
   refine ag kc ?_;rintro e w3 ⟨rfl,hb⟩;replace S:=S.below hb;clear kc hb;generalize w3=w2 at S⊢;replace T:=HTT.out w2 S.bel;refine hK _ _ T ?_;clear hK K
   have kc:=HU.out w2 (OX.b S.bel);refine ao 20 rfl (fun K hK=>?_);go_simp;go_wp2_with fail
   refine ag kc ?_;rintro e w3 ⟨⟨u3,rfl,hu3⟩,hb⟩;obtain⟨a3,c3,hs3⟩:=hu3.shape;subst hs3;have hke:=S.fresh hu3;replace S:=S.below hb;clear kc hb hu3;generalize w3=w2 at S hke⊢;replace T:=HTT.out w2 S.bel;refine hK _ _ T ?_;clear hK K
   simp only[elA,bI,El.cls,El.tag,El.cons,El.bytes,El.kids,aG,aU] at hke⊢;have hG:=S.glt;have hav:(.slice av k cv:Value).ownBlock≠some w2.heap.size:=fun q=>by have:=(S.lt q).2;omega
   have hal:=alb w2 #[.int .i64 0,.int .i64 10,Bf,.string ⟨(sgB n).toArray⟩,Sn,.int .i64 0,.int .i64 16,.bool true,Es,.slice a3 2 c3] 45;have S2:EaS wx.heap.size #[.int .i64 0,.int .i64 16,.bool true,Es,Sn] wx (.slice (some ⟨w2.heap.size,0,none⟩) 2 2) [.mk 0 10 false (sgB n) [],bI x.2] (w2.alloc (.cells #[.int .i64 0,.int .i64 10,Bf,.string ⟨(sgB n).toArray⟩,Sn,.int .i64 0,.int .i64 16,.bool true,Es,.slice a3 2 c3] 45)):=
    EaS.row (L:=[.mk 0 10 false (sgB n) [],bI x.2]) (us:=[Sn,.slice a3 2 c3]) (S.below hal).box (S.below hal).bel S.lo (bi _ _ _ rfl) S.glt rfl rfl (by simp) ⟨bf.nil _ _,(hke.mono fun k hk hl=>⟨hk.1,hl⟩).below hal,trivial⟩
   replace S:=S.below hal;have hkL:bf (fun k'=>wx.heap.size<k'∧(.slice av k cv:Value).ownBlock≠some k') (w2.alloc (.cells #[.int .i64 0,.int .i64 10,Bf,.string ⟨(sgB n).toArray⟩,Sn,.int .i64 0,.int .i64 16,.bool true,Es,.slice a3 2 c3] 45)) (.slice (some ⟨w2.heap.size,0,none⟩) 2 2) [.mk 0 10 false (sgB n) [],bI x.2]:=
    AS (L:=[.mk 0 10 false (sgB n) [],bI x.2]) (us:=[Sn,.slice a3 2 c3]) (bi _ _ _ rfl) rfl rfl ⟨bf.nil _ _,hke.below hal,trivial⟩ ⟨hG,hav⟩
   refine ao 21 rfl (kks (HTT.out _ S2.bel) ?_);have kc:=dd (some ⟨w2.heap.size,0,none⟩) 2 2 (w2.alloc (.cells #[.int .i64 0,.int .i64 10,Bf,.string ⟨(sgB n).toArray⟩,Sn,.int .i64 0,.int .i64 16,.bool true,Es,.slice a3 2 c3] 45));clear hal S2 hke T hG hav;refine ao 22 rfl (fun K hK=>?_);go_simp;go_wp2_with fail
   refine ag kc ?_;rintro e w3 ⟨rfl,hb⟩;replace S:=S.below hb;replace hkL:=hkL.below hb;clear kc hb;refine hK _ _ (HTT.out _ S.bel) ?_;clear hK K
   have hal:=alb w3 #[.int .i64 0,.int .i64 16,.bool true,Es,.slice (some ⟨w2.heap.size,0,none⟩) 2 2] 45;refine ao 23 rfl (fun K hK=>?_);go_simp;refine hK _ _ (HTT.out _ (S.below hal).bel) ?_;clear hK K hal
   refine ao 24 rfl (fun K hK=>?_);refine wU S (.mk 0 16 true [] [.mk 0 10 false (sgB n) [],bI x.2]) (some ⟨w2.heap.size,0,none⟩) 2 2 (.tmp 123) (.tmp 146) rfl rfl rfl hkL (by omega) ?_;rw[hlen];intro a' c' w5 S5;rw[←HTS.out] at S5;have HS5:=hid S5;clear S hkL;refine hK _ _ (HTT.out _ S5.bel) ?_;clear hK K
   refine ao 25 rfl (fun K hK=>?_);go_simp;refine hK _ _ (HTT.out _ S5.bel) ?_;clear hK K S5
   refine bE (by kernel_rfl) ?_ _;simp only[Exit.inBlock,Exit.then];refine‹∀(a:Act) (w:World),Code.wp _ _ _ a w→_› _ _ ?_
   go_wp2_with fail
   exact⟨⟨k+1,by go_num,by omega,HS5.out⟩,by simp[RowKit.intOf];omega⟩
  ·obtain rfl:k=l.mods.length:=by omega
   rw[List.take_of_length_le (ah _)] at S;have i1:decide ((l.mods.length:Int)<(l.mods.length:Int))=false:=an (by omega);have q2:wr.cell? ⟨w.heap.size,2,none⟩=some (.string ⟨m.dn.toArray⟩):=cval (OX.m S.bel) 2 (.string ⟨m.dn.toArray⟩);have kc:=dr m.dn wr;have HLEN:=hid hlen;clear hlen
   go_wp2_with fail
   refine ag kc ?_;rintro e w2 ⟨rfl,hb⟩;replace S:=S.below hb;clear kc hb q2 c13;have kc:=dd av l.mods.length cv w2
   go_wp2_with fail
   refine ag kc ?_;rintro e w2b ⟨rfl,hb⟩;replace S:=S.below hb;clear kc hb;have hal:=alb w2b #[.int .i64 0,.int .i64 4,Bf,.string ⟨m.dn.toArray⟩,Sn,.int .i64 0,.int .i64 16,.bool true,Es,.slice av l.mods.length cv] 45;have S2:EaS wx.heap.size #[.int .i64 0,.int .i64 16,.bool true,Es,Sn] wx (.slice (some ⟨w2b.heap.size,0,none⟩) 2 2) [.mk 0 4 false m.dn [],.mk 0 16 true [] (l.mods.map mdE)] (w2b.alloc (.cells #[.int .i64 0,.int .i64 4,Bf,.string ⟨m.dn.toArray⟩,Sn,.int .i64 0,.int .i64 16,.bool true,Es,.slice av l.mods.length cv] 45)):=
    EaS.row (L:=[.mk 0 4 false m.dn [],.mk 0 16 true [] (l.mods.map mdE)]) (us:=[Sn,.slice av l.mods.length cv]) (S.below hal).box (S.below hal).bel S.lo (bi _ _ _ rfl) S.glt rfl rfl (by simp) ⟨bf.nil _ _,(S.kids.mono fun k hk hl=>⟨hk,hl⟩).below hal,trivial⟩
   have kc:=dd (some ⟨w2b.heap.size,0,none⟩) 2 2 (w2b.alloc (.cells #[.int .i64 0,.int .i64 4,Bf,.string ⟨m.dn.toArray⟩,Sn,.int .i64 0,.int .i64 16,.bool true,Es,.slice av l.mods.length cv] 45));clear S hal
   go_wp2_with fail
   refine ag kc ?_;rintro e w2c ⟨rfl,hb⟩;have S3:=S2.below hb;have S9:=S3.put #[.int .i64 0,.int .i64 16,.bool true,Es,.slice (some ⟨w2b.heap.size,0,none⟩) 2 2];clear kc hb S2
   go_wp2_with (first
    |(refine bh rfl 45 (.tmp 3) (.tmp 154) rfl wx.heap.size 45 _ #[.int .i64 0,.int .i64 16,.bool true,Es,.slice (some ⟨w2b.heap.size,0,none⟩) 2 2] (by rfl) (by rfl) S3.box (by rfl) (by rfl) (by simp[Value.oneCell']) ?_;clear S3;generalize w2c.setRow wx.heap.size #[.int .i64 0,.int .i64 16,.bool true,Es,.slice (some ⟨w2b.heap.size,0,none⟩) 2 2]=w3 at S9⊢;have d1:w3.cell? ⟨w.heap.size,1,none⟩=some (.int .i64 6):=OX.c S9 1 (by rw[←hop];rfl))
    |(refine bg rfl 45 (.tmp 3) rfl wx.heap.size 45 _ (0,0) (by rfl) S9.box _ Tryz.underlying45 rfl (by rfl) ?_))
   have kc:=l9 0 16 true [] (some ⟨w2b.heap.size,0,none⟩) 2 2 1 6 w3;refine ag kc ?_;rintro e w4 ⟨rfl,hb⟩;obtain⟨x4,hq,hk4,hbq⟩:=B8 OX S9 hb #[.int .i64 1,.int .i64 6,.bool true,Es,.slice (some ⟨w2b.heap.size,0,none⟩) 2 2];clear kc hb S9 d1
   go_wp2_with (refine bh rfl 45 (.tmp 2) (.tmp 237) rfl (w.heap.size+1) 45 _ #[.int .i64 1,.int .i64 6,.bool true,Es,.slice (some ⟨w2b.heap.size,0,none⟩) 2 2] (by rfl) (by rfl) x4 (by rfl) (by rfl) (by simp[Value.oneCell']) ?_)
   all_goals exact le (s:=2) (g:=w.heap.size+1) rfl rfl rfl hq rfl ⟨⟨_,rfl,hk4⟩,hbq⟩
theorem xq(m:Mg)(_:Ls)(w:World)(rcode:0≤m.code∧m.code≤2147483647)(ho:m.oid.isEmpty=true)(hs:m.has=false)(hop:m.op=24):Calls Tryz.prog 34 #[.agg m.row] w (FoP w (.mk 1 24 true [] [.mk 0 10 false (sgB m.code.toNat) [],.mk 0 4 false m.matched [],.mk 0 4 false m.text []])):=by
 obtain⟨ncode,ecode⟩:=nmm m.code.toNat;have hcode:m.code=(ncode:Int):=by omega
 have bcode:ncode≤2147483647:=by omega
 rw[ecode];clear rcode ecode;obtain⟨b0,m0,x0⟩:=B0 w m.row
 go_enter Tryz.func34,Tryz.ntmps34
 go_upto_region 1 with fail
 generalize(w.alloc (.cells m.row 28)).alloc (.cells Ze 45)=w1 at b0 m0 x0⊢;have kc:=dd none 0 0 w1
 go_wp2_with fail
 refine ag kc ?_;rintro e wx ⟨rfl,hb⟩;have OX:=Ca b0 m0 x0 hb;clear kc hb b0 m0 x0
 go_upto_region 2 with fail
 have S:EaS wx.heap.size #[.int .i64 0,.int .i64 16,.bool true,Es,Sn] wx (Sn) [] (wx.alloc (.cells #[.int .i64 0,.int .i64 16,.bool true,Es,Sn] 45)):=EaS.nil (bi _ _ _ rfl) ((ar _ _).alloc (ah _) _) (ah _);generalize wx.alloc (.cells #[.int .i64 0,.int .i64 16,.bool true,Es,Sn] 45)=w2 at S⊢;have o1:w2.cell? ⟨w.heap.size,1,none⟩=some (.int .i64 24):=OX.c S 1 (by rw[←hop];rfl);obtain⟨HO,HS⟩:=Cg ho hs;clear ho hs
 go_upto_region 3 with fail
 clear o1;refine rg OX S fun w2 hb S=>?_
 clear hb;refine dp OX S 0 24 rfl ?_;refine dp OX S 3 25 rfl ?_;refine dp OX S 6 26 rfl ?_;refine dl OX S 1 24 (.int .i64 (ncode:Int)) rfl ?_ (hv:=by rw[←hcode];rfl);refine dl OX S 4 25 (.string ⟨m.matched.toArray⟩) rfl ?_;refine dl OX S 7 26 (.string ⟨m.text.toArray⟩) rfl ?_;refine dc OX S 2 (sf ncode bcode w2) rfl fun w2 S hb=>?_
 clear hb;refine dc OX S 5 (dr m.matched w2) rfl fun w2 S hb=>?_
 clear hb;refine dc OX S 8 (dr m.text w2) rfl fun w2 S hb=>?_
 clear hb;refine ds OX S 9 [.mk 0 10 false (sgB ncode) [],.mk 0 4 false m.matched [],.mk 0 4 false m.text []] [Sn,Sn,Sn] 3 rfl rfl rfl ⟨bf.nil _ _,bf.nil _ _,bf.nil _ _,trivial⟩ fun bq0 w2 hb S S0_=>?_
 clear hb;refine dc OX S 10 (dd (some ⟨bq0,0,none⟩) 3 3 w2) rfl fun w2 S hb=>?_
 replace S0_:=S0_.below hb;clear hb;refine dw OX S0_ 11 #[.int .i64 0,.int .i64 16,.bool true,Es,.slice (some ⟨bq0,0,none⟩) 3 3] rfl fun w3 S9=>?_
 simp only[Exit.then];refine‹∀(a:Act) (w:World),Code.wp _ _ _ a w→_› _ _ ?_;clear S;clear S0_;have o1:w3.cell? ⟨w.heap.size,1,none⟩=some (.int .i64 24):=(ap (OX.m S9.bel) 1).trans (show m.row[1]?=some (.int .i64 24:Value) by rw[←hop];rfl);have o21:w3.cell? ⟨w.heap.size,21,none⟩=some (.string ⟨m.oid.toArray⟩):=cval (OX.m S9.bel) 21 (.string ⟨m.oid.toArray⟩);have ho:=HO.out;have o22:w3.cell? ⟨w.heap.size,22,none⟩=some (Bf):=(ap (OX.m S9.bel) 22).trans (show m.row[22]?=some (.bool false:Value) by rw[←HS.out];rfl);have d1:w3.cell? ⟨w.heap.size,1,none⟩=some (.int .i64 24):=OX.c S9 1 (by rw[←hop];rfl);have kc:=l9 0 16 true [] (some ⟨bq0,0,none⟩) 3 3 1 24 w3
 go_wp2_with (refine bg rfl 45 (.tmp 3) rfl wx.heap.size 45 _ (0,0) (by rfl) S9.box _ Tryz.underlying45 rfl (by rfl) ?_)
 refine ag kc ?_;rintro e w4 ⟨rfl,hb⟩;obtain⟨x4,hq,hk4,hbq⟩:=B8 OX S9 hb #[.int .i64 1,.int .i64 24,.bool true,Es,.slice (some ⟨bq0,0,none⟩) 3 3];clear kc hb S9 d1
 go_wp2_with (refine bh rfl 45 (.tmp 2) (.tmp 237) rfl (w.heap.size+1) 45 _ #[.int .i64 1,.int .i64 24,.bool true,Es,.slice (some ⟨bq0,0,none⟩) 3 3] (by rfl) (by rfl) x4 (by rfl) (by rfl) (by simp[Value.oneCell']) ?_)
 all_goals exact le (s:=2) (g:=w.heap.size+1) rfl rfl rfl hq rfl ⟨⟨_,rfl,hk4⟩,hbq⟩
theorem xz(m:Mg)(_:Ls)(w:World)(rcode:0≤m.code∧m.code≤2147483647)(ho:m.oid.isEmpty=true)(hs:m.has=true)(hop:m.op=24):Calls Tryz.prog 34 #[.agg m.row] w (FoP w (.mk 1 24 true [] [.mk 0 10 false (sgB m.code.toNat) [],.mk 0 4 false m.matched [],.mk 0 4 false m.text [],.mk 2 11 false m.value []])):=by
 obtain⟨ncode,ecode⟩:=nmm m.code.toNat;have hcode:m.code=(ncode:Int):=by omega
 have bcode:ncode≤2147483647:=by omega
 rw[ecode];clear rcode ecode;obtain⟨b0,m0,x0⟩:=B0 w m.row
 go_enter Tryz.func34,Tryz.ntmps34
 go_upto_region 1 with fail
 generalize(w.alloc (.cells m.row 28)).alloc (.cells Ze 45)=w1 at b0 m0 x0⊢;have kc:=dd none 0 0 w1
 go_wp2_with fail
 refine ag kc ?_;rintro e wx ⟨rfl,hb⟩;have OX:=Ca b0 m0 x0 hb;clear kc hb b0 m0 x0
 go_upto_region 2 with fail
 have S:EaS wx.heap.size #[.int .i64 0,.int .i64 16,.bool true,Es,Sn] wx (Sn) [] (wx.alloc (.cells #[.int .i64 0,.int .i64 16,.bool true,Es,Sn] 45)):=EaS.nil (bi _ _ _ rfl) ((ar _ _).alloc (ah _) _) (ah _);generalize wx.alloc (.cells #[.int .i64 0,.int .i64 16,.bool true,Es,Sn] 45)=w2 at S⊢;have o1:w2.cell? ⟨w.heap.size,1,none⟩=some (.int .i64 24):=OX.c S 1 (by rw[←hop];rfl);obtain⟨HO,HS⟩:=Cg ho hs;clear ho hs
 go_upto_region 3 with fail
 clear o1;refine rg OX S fun w2 hb S=>?_
 clear hb;refine dp OX S 0 24 rfl ?_;refine dp OX S 3 25 rfl ?_;refine dp OX S 6 26 rfl ?_;refine dl OX S 1 24 (.int .i64 (ncode:Int)) rfl ?_ (hv:=by rw[←hcode];rfl);refine dl OX S 4 25 (.string ⟨m.matched.toArray⟩) rfl ?_;refine dl OX S 7 26 (.string ⟨m.text.toArray⟩) rfl ?_;refine dc OX S 2 (sf ncode bcode w2) rfl fun w2 S hb=>?_
 clear hb;refine dc OX S 5 (dr m.matched w2) rfl fun w2 S hb=>?_
 clear hb;refine dc OX S 8 (dr m.text w2) rfl fun w2 S hb=>?_
 clear hb;refine ds OX S 9 [.mk 0 10 false (sgB ncode) [],.mk 0 4 false m.matched [],.mk 0 4 false m.text []] [Sn,Sn,Sn] 3 rfl rfl rfl ⟨bf.nil _ _,bf.nil _ _,bf.nil _ _,trivial⟩ fun bq0 w2 hb S S0_=>?_
 clear hb;refine dc OX S 10 (dd (some ⟨bq0,0,none⟩) 3 3 w2) rfl fun w2 S hb=>?_
 replace S0_:=S0_.below hb;clear hb;refine dw OX S0_ 11 #[.int .i64 0,.int .i64 16,.bool true,Es,.slice (some ⟨bq0,0,none⟩) 3 3] rfl fun w3 S9=>?_
 simp only[Exit.then];refine‹∀(a:Act) (w:World),Code.wp _ _ _ a w→_› _ _ ?_;clear S;clear S0_;have o1:w3.cell? ⟨w.heap.size,1,none⟩=some (.int .i64 24):=(ap (OX.m S9.bel) 1).trans (show m.row[1]?=some (.int .i64 24:Value) by rw[←hop];rfl);have o21:w3.cell? ⟨w.heap.size,21,none⟩=some (.string ⟨m.oid.toArray⟩):=cval (OX.m S9.bel) 21 (.string ⟨m.oid.toArray⟩);have ho:=HO.out;have o22:w3.cell? ⟨w.heap.size,22,none⟩=some (.bool true):=(ap (OX.m S9.bel) 22).trans (show m.row[22]?=some (.bool true:Value) by rw[←HS.out];rfl)
 go_upto_region 7 with fail
 clear o1 o22 o21 ho;have s0:=cval S9.box 4 (.slice (some ⟨bq0,0,none⟩) 3 3);refine lx (S:=fun w'=>w'.heap[w.heap.size]?=some (.cells m.row 28 (0,0))∧w'.cell? ⟨wx.heap.size,4,none⟩=some (.slice (some ⟨bq0,0,none⟩) 3 3)) (st:=9) (by kernel_rfl) ?_;clear s0;replace S9:=S9.below (ar w3.heap.size w3).drew;generalize w3.drew=w3 at S9⊢;have T:w3.heap[w.heap.size]?=some (.cells m.row 28 (0,0))∧w3.cell? ⟨wx.heap.size,4,none⟩=some (.slice (some ⟨bq0,0,none⟩) 3 3):=⟨OX.m S9.bel,(ap S9.box 4).trans rfl⟩;refine d9 0 (.pointer (some ⟨wx.heap.size,4,none⟩)) rfl (by decide) (by kernel_rfl) (by kernel_rfl) (by kernel_rfl) (fun _ _ _ h=>h) (by rfl) (fun w'=>by go_simp) (.inr T) (kkn ?_);refine d9 2 (.pointer (some ⟨w.heap.size,20,none⟩)) rfl (by decide) (by kernel_rfl) (by kernel_rfl) (by kernel_rfl) (fun _ _ _ h=>h) (by rfl) (fun w'=>by go_simp) (.inr T) (kkn ?_);refine it 1 (.slice (some ⟨bq0,0,none⟩) 3 3) rfl (by decide) rfl (by kernel_rfl) (by kernel_rfl) (by kernel_rfl) (by kernel_rfl) (fun _ _ _ h=>h) (by rfl) (fun w' hS=>by have q:=hS.2;go_simp) (by rfl) T (kkn ?_);refine it 3 (.string ⟨m.value.toArray⟩) rfl (by decide) rfl (by kernel_rfl) (by kernel_rfl) (by kernel_rfl) (by kernel_rfl) (fun _ _ _ h=>h) (by rfl) (fun w' hS=>by have q:=cval hS.1 20 (.string ⟨m.value.toArray⟩);go_simp) (by rfl) T (kkn ?_);have kc:=dr m.value w3;refine cr 4 (by kernel_rfl) rfl (by rfl) (fun K hK=>?_);go_simp;go_wp2_with fail
 refine ag kc ?_;rintro e w4 ⟨rfl,hb⟩;replace S9:=S9.below hb;clear kc hb;generalize w4=w3 at S9⊢;replace T:w3.heap[w.heap.size]?=some (.cells m.row 28 (0,0))∧w3.cell? ⟨wx.heap.size,4,none⟩=some (.slice (some ⟨bq0,0,none⟩) 3 3):=⟨OX.m S9.bel,(ap S9.box 4).trans rfl⟩;refine hK _ _ (.inr T) ?_;clear hK K
 have kc:=l7 11 0 4 false m.value none 0 0 w3;refine cr 5 (by kernel_rfl) rfl (by rfl) (fun K hK=>?_);go_simp;go_wp2_with fail
 refine ag kc ?_;rintro e w4 ⟨rfl,hb⟩;replace S9:=S9.below hb;clear kc hb;generalize w4=w3 at S9⊢;replace T:w3.heap[w.heap.size]?=some (.cells m.row 28 (0,0))∧w3.cell? ⟨wx.heap.size,4,none⟩=some (.slice (some ⟨bq0,0,none⟩) 3 3):=⟨OX.m S9.bel,(ap S9.box 4).trans rfl⟩;refine hK _ _ (.inr T) ?_;clear hK K
 have hal:=alb w3 #[.int .i64 2,.int .i64 11,Bf,.string ⟨m.value.toArray⟩,Sn] 45;refine cr 6 (by kernel_rfl) rfl (by rfl) (fun K hK=>?_);go_simp;refine hK _ _ (.inr ⟨OX.m (S9.below hal).bel,(ap (S9.below hal).box 4).trans rfl⟩) ?_;clear hK K hal T
 refine cr 7 (by kernel_rfl) rfl (by rfl) (fun K hK=>?_);refine wU S9 (.mk 2 11 false m.value []) none 0 0 (.tmp 45) (.tmp 50) rfl rfl rfl (bf.nil _ _) (by simp) ?_;intro a2 c2 w4 S10;clear S9;have T:w4.heap[w.heap.size]?=some (.cells m.row 28 (0,0))∧w4.cell? ⟨wx.heap.size,4,none⟩=some (.slice (some ⟨bq0,0,none⟩) 3 3):=⟨OX.m S10.bel,(ap S10.box 4).trans rfl⟩;refine hK _ _ (.inr T) ?_;clear hK K
 refine cr 8 (by kernel_rfl) rfl (by rfl) (kks (.inr T) ?_);have z:=aj S10.box 4;have s4:=T.2;refine cr 9 (by kernel_rfl) rfl (by rfl) (kks (.inl (by rfl)) ?_);have S9:EaS wx.heap.size #[.int .i64 0,.int .i64 16,.bool true,Es,.slice a2 4 c2] wx (.slice a2 4 c2) [.mk 0 10 false (sgB ncode) [],.mk 0 4 false m.matched [],.mk 0 4 false m.text [],.mk 2 11 false m.value []] (w4.setCell ⟨wx.heap.size,4,none⟩ (.slice a2 4 c2)):=S10.set 4 (.slice a2 4 c2);generalize w4.setCell ⟨wx.heap.size,4,none⟩ (.slice a2 4 c2)=w3 at S9⊢;clear S10 T z s4;refine nP (by kernel_rfl) ?_ _;simp only[Exit.inBlock,Exit.then];refine‹∀(a:Act) (w:World),Code.wp _ _ _ a w→_› _ _ ?_;have d1:w3.cell? ⟨w.heap.size,1,none⟩=some (.int .i64 24):=OX.c S9 1 (by rw[←hop];rfl);have kc:=l9 0 16 true [] a2 4 c2 1 24 w3
 go_wp2_with (refine bg rfl 45 (.tmp 3) rfl wx.heap.size 45 _ (0,0) (by rfl) S9.box _ Tryz.underlying45 rfl (by rfl) ?_)
 refine ag kc ?_;rintro e w4 ⟨rfl,hb⟩;obtain⟨x4,hq,hk4,hbq⟩:=B8 OX S9 hb #[.int .i64 1,.int .i64 24,.bool true,Es,.slice a2 4 c2];clear kc hb S9 d1
 go_wp2_with (refine bh rfl 45 (.tmp 2) (.tmp 237) rfl (w.heap.size+1) 45 _ #[.int .i64 1,.int .i64 24,.bool true,Es,.slice a2 4 c2] (by rfl) (by rfl) x4 (by rfl) (by rfl) (by simp[Value.oneCell']) ?_)
 all_goals exact le (s:=2) (g:=w.heap.size+1) rfl rfl rfl hq rfl ⟨⟨_,rfl,hk4⟩,hbq⟩
theorem xA(m:Mg)(_:Ls)(w:World)(rcode:0≤m.code∧m.code≤2147483647)(ho:m.oid.isEmpty=false)(hs:m.has=false)(hop:m.op=24):Calls Tryz.prog 34 #[.agg m.row] w (FoP w (.mk 1 24 true [] [.mk 0 10 false (sgB m.code.toNat) [],.mk 0 4 false m.matched [],.mk 0 4 false m.text [],.mk 2 10 false m.oid []])):=by
 obtain⟨ncode,ecode⟩:=nmm m.code.toNat;have hcode:m.code=(ncode:Int):=by omega
 have bcode:ncode≤2147483647:=by omega
 rw[ecode];clear rcode ecode;obtain⟨b0,m0,x0⟩:=B0 w m.row
 go_enter Tryz.func34,Tryz.ntmps34
 go_upto_region 1 with fail
 generalize(w.alloc (.cells m.row 28)).alloc (.cells Ze 45)=w1 at b0 m0 x0⊢;have kc:=dd none 0 0 w1
 go_wp2_with fail
 refine ag kc ?_;rintro e wx ⟨rfl,hb⟩;have OX:=Ca b0 m0 x0 hb;clear kc hb b0 m0 x0
 go_upto_region 2 with fail
 have S:EaS wx.heap.size #[.int .i64 0,.int .i64 16,.bool true,Es,Sn] wx (Sn) [] (wx.alloc (.cells #[.int .i64 0,.int .i64 16,.bool true,Es,Sn] 45)):=EaS.nil (bi _ _ _ rfl) ((ar _ _).alloc (ah _) _) (ah _);generalize wx.alloc (.cells #[.int .i64 0,.int .i64 16,.bool true,Es,Sn] 45)=w2 at S⊢;have o1:w2.cell? ⟨w.heap.size,1,none⟩=some (.int .i64 24):=OX.c S 1 (by rw[←hop];rfl);obtain⟨HO,HS⟩:=Cg ho hs;clear ho hs
 go_upto_region 3 with fail
 clear o1;refine rg OX S fun w2 hb S=>?_
 clear hb;refine dp OX S 0 24 rfl ?_;refine dp OX S 3 25 rfl ?_;refine dp OX S 6 26 rfl ?_;refine dl OX S 1 24 (.int .i64 (ncode:Int)) rfl ?_ (hv:=by rw[←hcode];rfl);refine dl OX S 4 25 (.string ⟨m.matched.toArray⟩) rfl ?_;refine dl OX S 7 26 (.string ⟨m.text.toArray⟩) rfl ?_;refine dc OX S 2 (sf ncode bcode w2) rfl fun w2 S hb=>?_
 clear hb;refine dc OX S 5 (dr m.matched w2) rfl fun w2 S hb=>?_
 clear hb;refine dc OX S 8 (dr m.text w2) rfl fun w2 S hb=>?_
 clear hb;refine ds OX S 9 [.mk 0 10 false (sgB ncode) [],.mk 0 4 false m.matched [],.mk 0 4 false m.text []] [Sn,Sn,Sn] 3 rfl rfl rfl ⟨bf.nil _ _,bf.nil _ _,bf.nil _ _,trivial⟩ fun bq0 w2 hb S S0_=>?_
 clear hb;refine dc OX S 10 (dd (some ⟨bq0,0,none⟩) 3 3 w2) rfl fun w2 S hb=>?_
 replace S0_:=S0_.below hb;clear hb;refine dw OX S0_ 11 #[.int .i64 0,.int .i64 16,.bool true,Es,.slice (some ⟨bq0,0,none⟩) 3 3] rfl fun w3 S9=>?_
 simp only[Exit.then];refine‹∀(a:Act) (w:World),Code.wp _ _ _ a w→_› _ _ ?_;clear S;clear S0_;have o1:w3.cell? ⟨w.heap.size,1,none⟩=some (.int .i64 24):=(ap (OX.m S9.bel) 1).trans (show m.row[1]?=some (.int .i64 24:Value) by rw[←hop];rfl);have o21:w3.cell? ⟨w.heap.size,21,none⟩=some (.string ⟨m.oid.toArray⟩):=cval (OX.m S9.bel) 21 (.string ⟨m.oid.toArray⟩);have ho:=HO.out
 go_upto_region 5 with fail
 clear o1 o21 ho;have s0:=cval S9.box 4 (.slice (some ⟨bq0,0,none⟩) 3 3);refine lx (S:=fun w'=>w'.heap[w.heap.size]?=some (.cells m.row 28 (0,0))∧w'.cell? ⟨wx.heap.size,4,none⟩=some (.slice (some ⟨bq0,0,none⟩) 3 3)) (st:=9) (by kernel_rfl) ?_;clear s0;replace S9:=S9.below (ar w3.heap.size w3).drew;generalize w3.drew=w3 at S9⊢;have T:w3.heap[w.heap.size]?=some (.cells m.row 28 (0,0))∧w3.cell? ⟨wx.heap.size,4,none⟩=some (.slice (some ⟨bq0,0,none⟩) 3 3):=⟨OX.m S9.bel,(ap S9.box 4).trans rfl⟩;refine d9 0 (.pointer (some ⟨wx.heap.size,4,none⟩)) rfl (by decide) (by kernel_rfl) (by kernel_rfl) (by kernel_rfl) (fun _ _ _ h=>h) (by rfl) (fun w'=>by go_simp) (.inr T) (kkn ?_);refine d9 2 (.pointer (some ⟨w.heap.size,21,none⟩)) rfl (by decide) (by kernel_rfl) (by kernel_rfl) (by kernel_rfl) (fun _ _ _ h=>h) (by rfl) (fun w'=>by go_simp) (.inr T) (kkn ?_);refine it 1 (.slice (some ⟨bq0,0,none⟩) 3 3) rfl (by decide) rfl (by kernel_rfl) (by kernel_rfl) (by kernel_rfl) (by kernel_rfl) (fun _ _ _ h=>h) (by rfl) (fun w' hS=>by have q:=hS.2;go_simp) (by rfl) T (kkn ?_);refine it 3 (.string ⟨m.oid.toArray⟩) rfl (by decide) rfl (by kernel_rfl) (by kernel_rfl) (by kernel_rfl) (by kernel_rfl) (fun _ _ _ h=>h) (by rfl) (fun w' hS=>by have q:=cval hS.1 21 (.string ⟨m.oid.toArray⟩);go_simp) (by rfl) T (kkn ?_);have kc:=dr m.oid w3;refine cr 4 (by kernel_rfl) rfl (by rfl) (fun K hK=>?_);go_simp;go_wp2_with fail
 refine ag kc ?_;rintro e w4 ⟨rfl,hb⟩;replace S9:=S9.below hb;clear kc hb;generalize w4=w3 at S9⊢;replace T:w3.heap[w.heap.size]?=some (.cells m.row 28 (0,0))∧w3.cell? ⟨wx.heap.size,4,none⟩=some (.slice (some ⟨bq0,0,none⟩) 3 3):=⟨OX.m S9.bel,(ap S9.box 4).trans rfl⟩;refine hK _ _ (.inr T) ?_;clear hK K
 have kc:=l7 10 0 4 false m.oid none 0 0 w3;refine cr 5 (by kernel_rfl) rfl (by rfl) (fun K hK=>?_);go_simp;go_wp2_with fail
 refine ag kc ?_;rintro e w4 ⟨rfl,hb⟩;replace S9:=S9.below hb;clear kc hb;generalize w4=w3 at S9⊢;replace T:w3.heap[w.heap.size]?=some (.cells m.row 28 (0,0))∧w3.cell? ⟨wx.heap.size,4,none⟩=some (.slice (some ⟨bq0,0,none⟩) 3 3):=⟨OX.m S9.bel,(ap S9.box 4).trans rfl⟩;refine hK _ _ (.inr T) ?_;clear hK K
 have hal:=alb w3 #[.int .i64 2,.int .i64 10,Bf,.string ⟨m.oid.toArray⟩,Sn] 45;refine cr 6 (by kernel_rfl) rfl (by rfl) (fun K hK=>?_);go_simp;refine hK _ _ (.inr ⟨OX.m (S9.below hal).bel,(ap (S9.below hal).box 4).trans rfl⟩) ?_;clear hK K hal T
 refine cr 7 (by kernel_rfl) rfl (by rfl) (fun K hK=>?_);refine wU S9 (.mk 2 10 false m.oid []) none 0 0 (.tmp 29) (.tmp 34) rfl rfl rfl (bf.nil _ _) (by simp) ?_;intro a' c' w4 S10;clear S9;have T:w4.heap[w.heap.size]?=some (.cells m.row 28 (0,0))∧w4.cell? ⟨wx.heap.size,4,none⟩=some (.slice (some ⟨bq0,0,none⟩) 3 3):=⟨OX.m S10.bel,(ap S10.box 4).trans rfl⟩;refine hK _ _ (.inr T) ?_;clear hK K
 refine cr 8 (by kernel_rfl) rfl (by rfl) (kks (.inr T) ?_);have z:=aj S10.box 4;have s4:=T.2;refine cr 9 (by kernel_rfl) rfl (by rfl) (kks (.inl (by rfl)) ?_);have S9:EaS wx.heap.size #[.int .i64 0,.int .i64 16,.bool true,Es,.slice a' 4 c'] wx (.slice a' 4 c') [.mk 0 10 false (sgB ncode) [],.mk 0 4 false m.matched [],.mk 0 4 false m.text [],.mk 2 10 false m.oid []] (w4.setCell ⟨wx.heap.size,4,none⟩ (.slice a' 4 c')):=S10.set 4 (.slice a' 4 c');generalize w4.setCell ⟨wx.heap.size,4,none⟩ (.slice a' 4 c')=w3 at S9⊢;clear S10 T z s4;refine nP (by kernel_rfl) ?_ _;simp only[Exit.then];refine‹∀(a:Act) (w:World),Code.wp _ _ _ a w→_› _ _ ?_;have o1:w3.cell? ⟨w.heap.size,1,none⟩=some (.int .i64 24):=(ap (OX.m S9.bel) 1).trans (show m.row[1]?=some (.int .i64 24:Value) by rw[←hop];rfl);have o22:w3.cell? ⟨w.heap.size,22,none⟩=some (Bf):=(ap (OX.m S9.bel) 22).trans (show m.row[22]?=some (.bool false:Value) by rw[←HS.out];rfl);have d1:w3.cell? ⟨w.heap.size,1,none⟩=some (.int .i64 24):=OX.c S9 1 (by rw[←hop];rfl);have kc:=l9 0 16 true [] a' 4 c' 1 24 w3
 go_wp2_with (refine bg rfl 45 (.tmp 3) rfl wx.heap.size 45 _ (0,0) (by rfl) S9.box _ Tryz.underlying45 rfl (by rfl) ?_)
 refine ag kc ?_;rintro e w4 ⟨rfl,hb⟩;obtain⟨x4,hq,hk4,hbq⟩:=B8 OX S9 hb #[.int .i64 1,.int .i64 24,.bool true,Es,.slice a' 4 c'];clear kc hb S9 d1
 go_wp2_with (refine bh rfl 45 (.tmp 2) (.tmp 237) rfl (w.heap.size+1) 45 _ #[.int .i64 1,.int .i64 24,.bool true,Es,.slice a' 4 c'] (by rfl) (by rfl) x4 (by rfl) (by rfl) (by simp[Value.oneCell']) ?_)
 all_goals exact le (s:=2) (g:=w.heap.size+1) rfl rfl rfl hq rfl ⟨⟨_,rfl,hk4⟩,hbq⟩
theorem xD(m:Mg)(_:Ls)(w:World)(rcode:0≤m.code∧m.code≤2147483647)(ho:m.oid.isEmpty=false)(hs:m.has=true)(hop:m.op=24):Calls Tryz.prog 34 #[.agg m.row] w (FoP w (.mk 1 24 true [] [.mk 0 10 false (sgB m.code.toNat) [],.mk 0 4 false m.matched [],.mk 0 4 false m.text [],.mk 2 10 false m.oid [],.mk 2 11 false m.value []])):=by
 obtain⟨ncode,ecode⟩:=nmm m.code.toNat;have hcode:m.code=(ncode:Int):=by omega
 have bcode:ncode≤2147483647:=by omega
 rw[ecode];clear rcode ecode;obtain⟨b0,m0,x0⟩:=B0 w m.row
 go_enter Tryz.func34,Tryz.ntmps34
 go_upto_region 1 with fail
 generalize(w.alloc (.cells m.row 28)).alloc (.cells Ze 45)=w1 at b0 m0 x0⊢;have kc:=dd none 0 0 w1
 go_wp2_with fail
 refine ag kc ?_;rintro e wx ⟨rfl,hb⟩;have OX:=Ca b0 m0 x0 hb;clear kc hb b0 m0 x0
 go_upto_region 2 with fail
 have S:EaS wx.heap.size #[.int .i64 0,.int .i64 16,.bool true,Es,Sn] wx (Sn) [] (wx.alloc (.cells #[.int .i64 0,.int .i64 16,.bool true,Es,Sn] 45)):=EaS.nil (bi _ _ _ rfl) ((ar _ _).alloc (ah _) _) (ah _);generalize wx.alloc (.cells #[.int .i64 0,.int .i64 16,.bool true,Es,Sn] 45)=w2 at S⊢;have o1:w2.cell? ⟨w.heap.size,1,none⟩=some (.int .i64 24):=OX.c S 1 (by rw[←hop];rfl);obtain⟨HO,HS⟩:=Cg ho hs;clear ho hs
 go_upto_region 3 with fail
 clear o1;refine rg OX S fun w2 hb S=>?_
 clear hb;refine dp OX S 0 24 rfl ?_;refine dp OX S 3 25 rfl ?_;refine dp OX S 6 26 rfl ?_;refine dl OX S 1 24 (.int .i64 (ncode:Int)) rfl ?_ (hv:=by rw[←hcode];rfl);refine dl OX S 4 25 (.string ⟨m.matched.toArray⟩) rfl ?_;refine dl OX S 7 26 (.string ⟨m.text.toArray⟩) rfl ?_;refine dc OX S 2 (sf ncode bcode w2) rfl fun w2 S hb=>?_
 clear hb;refine dc OX S 5 (dr m.matched w2) rfl fun w2 S hb=>?_
 clear hb;refine dc OX S 8 (dr m.text w2) rfl fun w2 S hb=>?_
 clear hb;refine ds OX S 9 [.mk 0 10 false (sgB ncode) [],.mk 0 4 false m.matched [],.mk 0 4 false m.text []] [Sn,Sn,Sn] 3 rfl rfl rfl ⟨bf.nil _ _,bf.nil _ _,bf.nil _ _,trivial⟩ fun bq0 w2 hb S S0_=>?_
 clear hb;refine dc OX S 10 (dd (some ⟨bq0,0,none⟩) 3 3 w2) rfl fun w2 S hb=>?_
 replace S0_:=S0_.below hb;clear hb;refine dw OX S0_ 11 #[.int .i64 0,.int .i64 16,.bool true,Es,.slice (some ⟨bq0,0,none⟩) 3 3] rfl fun w3 S9=>?_
 simp only[Exit.then];refine‹∀(a:Act) (w:World),Code.wp _ _ _ a w→_› _ _ ?_;clear S;clear S0_;have o1:w3.cell? ⟨w.heap.size,1,none⟩=some (.int .i64 24):=(ap (OX.m S9.bel) 1).trans (show m.row[1]?=some (.int .i64 24:Value) by rw[←hop];rfl);have o21:w3.cell? ⟨w.heap.size,21,none⟩=some (.string ⟨m.oid.toArray⟩):=cval (OX.m S9.bel) 21 (.string ⟨m.oid.toArray⟩);have ho:=HO.out
 go_upto_region 5 with fail
 clear o1 o21 ho;have s0:=cval S9.box 4 (.slice (some ⟨bq0,0,none⟩) 3 3);refine lx (S:=fun w'=>w'.heap[w.heap.size]?=some (.cells m.row 28 (0,0))∧w'.cell? ⟨wx.heap.size,4,none⟩=some (.slice (some ⟨bq0,0,none⟩) 3 3)) (st:=9) (by kernel_rfl) ?_;clear s0;replace S9:=S9.below (ar w3.heap.size w3).drew;generalize w3.drew=w3 at S9⊢;have T:w3.heap[w.heap.size]?=some (.cells m.row 28 (0,0))∧w3.cell? ⟨wx.heap.size,4,none⟩=some (.slice (some ⟨bq0,0,none⟩) 3 3):=⟨OX.m S9.bel,(ap S9.box 4).trans rfl⟩;refine d9 0 (.pointer (some ⟨wx.heap.size,4,none⟩)) rfl (by decide) (by kernel_rfl) (by kernel_rfl) (by kernel_rfl) (fun _ _ _ h=>h) (by rfl) (fun w'=>by go_simp) (.inr T) (kkn ?_);refine d9 2 (.pointer (some ⟨w.heap.size,21,none⟩)) rfl (by decide) (by kernel_rfl) (by kernel_rfl) (by kernel_rfl) (fun _ _ _ h=>h) (by rfl) (fun w'=>by go_simp) (.inr T) (kkn ?_);refine it 1 (.slice (some ⟨bq0,0,none⟩) 3 3) rfl (by decide) rfl (by kernel_rfl) (by kernel_rfl) (by kernel_rfl) (by kernel_rfl) (fun _ _ _ h=>h) (by rfl) (fun w' hS=>by have q:=hS.2;go_simp) (by rfl) T (kkn ?_);refine it 3 (.string ⟨m.oid.toArray⟩) rfl (by decide) rfl (by kernel_rfl) (by kernel_rfl) (by kernel_rfl) (by kernel_rfl) (fun _ _ _ h=>h) (by rfl) (fun w' hS=>by have q:=cval hS.1 21 (.string ⟨m.oid.toArray⟩);go_simp) (by rfl) T (kkn ?_);have kc:=dr m.oid w3;refine cr 4 (by kernel_rfl) rfl (by rfl) (fun K hK=>?_);go_simp;go_wp2_with fail
 refine ag kc ?_;rintro e w4 ⟨rfl,hb⟩;replace S9:=S9.below hb;clear kc hb;generalize w4=w3 at S9⊢;replace T:w3.heap[w.heap.size]?=some (.cells m.row 28 (0,0))∧w3.cell? ⟨wx.heap.size,4,none⟩=some (.slice (some ⟨bq0,0,none⟩) 3 3):=⟨OX.m S9.bel,(ap S9.box 4).trans rfl⟩;refine hK _ _ (.inr T) ?_;clear hK K
 have kc:=l7 10 0 4 false m.oid none 0 0 w3;refine cr 5 (by kernel_rfl) rfl (by rfl) (fun K hK=>?_);go_simp;go_wp2_with fail
 refine ag kc ?_;rintro e w4 ⟨rfl,hb⟩;replace S9:=S9.below hb;clear kc hb;generalize w4=w3 at S9⊢;replace T:w3.heap[w.heap.size]?=some (.cells m.row 28 (0,0))∧w3.cell? ⟨wx.heap.size,4,none⟩=some (.slice (some ⟨bq0,0,none⟩) 3 3):=⟨OX.m S9.bel,(ap S9.box 4).trans rfl⟩;refine hK _ _ (.inr T) ?_;clear hK K
 have hal:=alb w3 #[.int .i64 2,.int .i64 10,Bf,.string ⟨m.oid.toArray⟩,Sn] 45;refine cr 6 (by kernel_rfl) rfl (by rfl) (fun K hK=>?_);go_simp;refine hK _ _ (.inr ⟨OX.m (S9.below hal).bel,(ap (S9.below hal).box 4).trans rfl⟩) ?_;clear hK K hal T
 refine cr 7 (by kernel_rfl) rfl (by rfl) (fun K hK=>?_);refine wU S9 (.mk 2 10 false m.oid []) none 0 0 (.tmp 29) (.tmp 34) rfl rfl rfl (bf.nil _ _) (by simp) ?_;intro a' c' w4 S10;clear S9;have T:w4.heap[w.heap.size]?=some (.cells m.row 28 (0,0))∧w4.cell? ⟨wx.heap.size,4,none⟩=some (.slice (some ⟨bq0,0,none⟩) 3 3):=⟨OX.m S10.bel,(ap S10.box 4).trans rfl⟩;refine hK _ _ (.inr T) ?_;clear hK K
 refine cr 8 (by kernel_rfl) rfl (by rfl) (kks (.inr T) ?_);have z:=aj S10.box 4;have s4:=T.2;refine cr 9 (by kernel_rfl) rfl (by rfl) (kks (.inl (by rfl)) ?_);have S9:EaS wx.heap.size #[.int .i64 0,.int .i64 16,.bool true,Es,.slice a' 4 c'] wx (.slice a' 4 c') [.mk 0 10 false (sgB ncode) [],.mk 0 4 false m.matched [],.mk 0 4 false m.text [],.mk 2 10 false m.oid []] (w4.setCell ⟨wx.heap.size,4,none⟩ (.slice a' 4 c')):=S10.set 4 (.slice a' 4 c');generalize w4.setCell ⟨wx.heap.size,4,none⟩ (.slice a' 4 c')=w3 at S9⊢;clear S10 T z s4;refine nP (by kernel_rfl) ?_ _;simp only[Exit.then];refine‹∀(a:Act) (w:World),Code.wp _ _ _ a w→_› _ _ ?_;have o1:w3.cell? ⟨w.heap.size,1,none⟩=some (.int .i64 24):=(ap (OX.m S9.bel) 1).trans (show m.row[1]?=some (.int .i64 24:Value) by rw[←hop];rfl);have o22:w3.cell? ⟨w.heap.size,22,none⟩=some (.bool true):=(ap (OX.m S9.bel) 22).trans (show m.row[22]?=some (.bool true:Value) by rw[←HS.out];rfl)
 go_upto_region 7 with fail
 clear o1 o22;have s0:=cval S9.box 4 (.slice a' 4 c');refine lx (S:=fun w'=>w'.heap[w.heap.size]?=some (.cells m.row 28 (0,0))∧w'.cell? ⟨wx.heap.size,4,none⟩=some (.slice a' 4 c')) (st:=9) (by kernel_rfl) ?_;clear s0;replace S9:=S9.below (ar w3.heap.size w3).drew;generalize w3.drew=w3 at S9⊢;have T:w3.heap[w.heap.size]?=some (.cells m.row 28 (0,0))∧w3.cell? ⟨wx.heap.size,4,none⟩=some (.slice a' 4 c'):=⟨OX.m S9.bel,(ap S9.box 4).trans rfl⟩;refine d9 0 (.pointer (some ⟨wx.heap.size,4,none⟩)) rfl (by decide) (by kernel_rfl) (by kernel_rfl) (by kernel_rfl) (fun _ _ _ h=>h) (by rfl) (fun w'=>by go_simp) (.inr T) (kkn ?_);refine d9 2 (.pointer (some ⟨w.heap.size,20,none⟩)) rfl (by decide) (by kernel_rfl) (by kernel_rfl) (by kernel_rfl) (fun _ _ _ h=>h) (by rfl) (fun w'=>by go_simp) (.inr T) (kkn ?_);refine it 1 (.slice a' 4 c') rfl (by decide) rfl (by kernel_rfl) (by kernel_rfl) (by kernel_rfl) (by kernel_rfl) (fun _ _ _ h=>h) (by rfl) (fun w' hS=>by have q:=hS.2;go_simp) (by rfl) T (kkn ?_);refine it 3 (.string ⟨m.value.toArray⟩) rfl (by decide) rfl (by kernel_rfl) (by kernel_rfl) (by kernel_rfl) (by kernel_rfl) (fun _ _ _ h=>h) (by rfl) (fun w' hS=>by have q:=cval hS.1 20 (.string ⟨m.value.toArray⟩);go_simp) (by rfl) T (kkn ?_);have kc:=dr m.value w3;refine cr 4 (by kernel_rfl) rfl (by rfl) (fun K hK=>?_);go_simp;go_wp2_with fail
 refine ag kc ?_;rintro e w4 ⟨rfl,hb⟩;replace S9:=S9.below hb;clear kc hb;generalize w4=w3 at S9⊢;replace T:w3.heap[w.heap.size]?=some (.cells m.row 28 (0,0))∧w3.cell? ⟨wx.heap.size,4,none⟩=some (.slice a' 4 c'):=⟨OX.m S9.bel,(ap S9.box 4).trans rfl⟩;refine hK _ _ (.inr T) ?_;clear hK K
 have kc:=l7 11 0 4 false m.value none 0 0 w3;refine cr 5 (by kernel_rfl) rfl (by rfl) (fun K hK=>?_);go_simp;go_wp2_with fail
 refine ag kc ?_;rintro e w4 ⟨rfl,hb⟩;replace S9:=S9.below hb;clear kc hb;generalize w4=w3 at S9⊢;replace T:w3.heap[w.heap.size]?=some (.cells m.row 28 (0,0))∧w3.cell? ⟨wx.heap.size,4,none⟩=some (.slice a' 4 c'):=⟨OX.m S9.bel,(ap S9.box 4).trans rfl⟩;refine hK _ _ (.inr T) ?_;clear hK K
 have hal:=alb w3 #[.int .i64 2,.int .i64 11,Bf,.string ⟨m.value.toArray⟩,Sn] 45;refine cr 6 (by kernel_rfl) rfl (by rfl) (fun K hK=>?_);go_simp;refine hK _ _ (.inr ⟨OX.m (S9.below hal).bel,(ap (S9.below hal).box 4).trans rfl⟩) ?_;clear hK K hal T
 refine cr 7 (by kernel_rfl) rfl (by rfl) (fun K hK=>?_);refine wU S9 (.mk 2 11 false m.value []) none 0 0 (.tmp 45) (.tmp 50) rfl rfl rfl (bf.nil _ _) (by simp) ?_;intro a2 c2 w4 S10;clear S9;have T:w4.heap[w.heap.size]?=some (.cells m.row 28 (0,0))∧w4.cell? ⟨wx.heap.size,4,none⟩=some (.slice a' 4 c'):=⟨OX.m S10.bel,(ap S10.box 4).trans rfl⟩;refine hK _ _ (.inr T) ?_;clear hK K
 refine cr 8 (by kernel_rfl) rfl (by rfl) (kks (.inr T) ?_);have z:=aj S10.box 4;have s4:=T.2;refine cr 9 (by kernel_rfl) rfl (by rfl) (kks (.inl (by rfl)) ?_);have S9:EaS wx.heap.size #[.int .i64 0,.int .i64 16,.bool true,Es,.slice a2 5 c2] wx (.slice a2 5 c2) [.mk 0 10 false (sgB ncode) [],.mk 0 4 false m.matched [],.mk 0 4 false m.text [],.mk 2 10 false m.oid [],.mk 2 11 false m.value []] (w4.setCell ⟨wx.heap.size,4,none⟩ (.slice a2 5 c2)):=S10.set 4 (.slice a2 5 c2);generalize w4.setCell ⟨wx.heap.size,4,none⟩ (.slice a2 5 c2)=w3 at S9⊢;clear S10 T z s4;refine nP (by kernel_rfl) ?_ _;simp only[Exit.inBlock,Exit.then];refine‹∀(a:Act) (w:World),Code.wp _ _ _ a w→_› _ _ ?_;have d1:w3.cell? ⟨w.heap.size,1,none⟩=some (.int .i64 24):=OX.c S9 1 (by rw[←hop];rfl);have kc:=l9 0 16 true [] a2 5 c2 1 24 w3
 go_wp2_with (refine bg rfl 45 (.tmp 3) rfl wx.heap.size 45 _ (0,0) (by rfl) S9.box _ Tryz.underlying45 rfl (by rfl) ?_)
 refine ag kc ?_;rintro e w4 ⟨rfl,hb⟩;obtain⟨x4,hq,hk4,hbq⟩:=B8 OX S9 hb #[.int .i64 1,.int .i64 24,.bool true,Es,.slice a2 5 c2];clear kc hb S9 d1
 go_wp2_with (refine bh rfl 45 (.tmp 2) (.tmp 237) rfl (w.heap.size+1) 45 _ #[.int .i64 1,.int .i64 24,.bool true,Es,.slice a2 5 c2] (by rfl) (by rfl) x4 (by rfl) (by rfl) (by simp[Value.oneCell']) ?_)
 all_goals exact le (s:=2) (g:=w.heap.size+1) rfl rfl rfl hq rfl ⟨⟨_,rfl,hk4⟩,hbq⟩
theorem zX(m:Mg)(_:Ls)(w:World)(rcode:0≤m.code∧m.code≤2147483647)(OP:Int)(hno:OP∉([0,2,3,6,8,4,10,12,14,16,23,24]:List Int))(hop:m.op=OP):Calls Tryz.prog 34 #[.agg m.row] w (FoP w (.mk 1 OP true [] [.mk 0 10 false (sgB m.code.toNat) [],.mk 0 4 false m.matched [],.mk 0 4 false m.text []])):=by
 simp only[aY,aZ,or_false,not_or] at hno;obtain⟨n0,n2,n3,n6,n8,n4,n10,n12,n14,n16,n23,n24⟩:=hno;replace n0:(OP==0)=false:=by simpa using n0
 replace n2:(OP==2)=false:=by simpa using n2
 replace n3:(OP==3)=false:=by simpa using n3
 replace n6:(OP==6)=false:=by simpa using n6
 replace n8:(OP==8)=false:=by simpa using n8
 replace n4:(OP==4)=false:=by simpa using n4
 replace n10:(OP==10)=false:=by simpa using n10
 replace n12:(OP==12)=false:=by simpa using n12
 replace n14:(OP==14)=false:=by simpa using n14
 replace n16:(OP==16)=false:=by simpa using n16
 replace n23:(OP==23)=false:=by simpa using n23
 replace n24:(OP==24)=false:=by simpa using n24
 obtain⟨ncode,ecode⟩:=nmm m.code.toNat;have hcode:m.code=(ncode:Int):=by omega
 have bcode:ncode≤2147483647:=by omega
 rw[ecode];clear rcode ecode;obtain⟨b0,m0,x0⟩:=B0 w m.row
 go_enter Tryz.func34,Tryz.ntmps34
 go_upto_region 1 with fail
 generalize(w.alloc (.cells m.row 28)).alloc (.cells Ze 45)=w1 at b0 m0 x0⊢;have kc:=dd none 0 0 w1
 go_wp2_with fail
 refine ag kc ?_;rintro e wx ⟨rfl,hb⟩;have OX:=Ca b0 m0 x0 hb;clear kc hb b0 m0 x0
 go_upto_region 2 with fail
 have S:EaS wx.heap.size #[.int .i64 0,.int .i64 16,.bool true,Es,Sn] wx (Sn) [] (wx.alloc (.cells #[.int .i64 0,.int .i64 16,.bool true,Es,Sn] 45)):=EaS.nil (bi _ _ _ rfl) ((ar _ _).alloc (ah _) _) (ah _);generalize wx.alloc (.cells #[.int .i64 0,.int .i64 16,.bool true,Es,Sn] 45)=w2 at S⊢;have o1:w2.cell? ⟨w.heap.size,1,none⟩=some (.int .i64 OP):=OX.c S 1 (by rw[←hop];rfl)
 go_upto_region 3 with fail
 clear o1 n0 n2 n3 n6 n8 n4 n10 n12 n14 n16 n23;refine rg OX S fun w2 hb S=>?_
 clear hb;refine dp OX S 0 24 rfl ?_;refine dp OX S 3 25 rfl ?_;refine dp OX S 6 26 rfl ?_;refine dl OX S 1 24 (.int .i64 (ncode:Int)) rfl ?_ (hv:=by rw[←hcode];rfl);refine dl OX S 4 25 (.string ⟨m.matched.toArray⟩) rfl ?_;refine dl OX S 7 26 (.string ⟨m.text.toArray⟩) rfl ?_;refine dc OX S 2 (sf ncode bcode w2) rfl fun w2 S hb=>?_
 clear hb;refine dc OX S 5 (dr m.matched w2) rfl fun w2 S hb=>?_
 clear hb;refine dc OX S 8 (dr m.text w2) rfl fun w2 S hb=>?_
 clear hb;refine ds OX S 9 [.mk 0 10 false (sgB ncode) [],.mk 0 4 false m.matched [],.mk 0 4 false m.text []] [Sn,Sn,Sn] 3 rfl rfl rfl ⟨bf.nil _ _,bf.nil _ _,bf.nil _ _,trivial⟩ fun bq0 w2 hb S S0_=>?_
 clear hb;refine dc OX S 10 (dd (some ⟨bq0,0,none⟩) 3 3 w2) rfl fun w2 S hb=>?_
 replace S0_:=S0_.below hb;clear hb;refine dw OX S0_ 11 #[.int .i64 0,.int .i64 16,.bool true,Es,.slice (some ⟨bq0,0,none⟩) 3 3] rfl fun w3 S9=>?_
 simp only[Exit.then];refine‹∀(a:Act) (w:World),Code.wp _ _ _ a w→_› _ _ ?_;clear S;clear S0_;have d1:w3.cell? ⟨w.heap.size,1,none⟩=some (.int .i64 OP):=OX.c S9 1 (by rw[←hop];rfl);have kc:=l9 0 16 true [] (some ⟨bq0,0,none⟩) 3 3 1 OP w3
 go_wp2_with (refine bg rfl 45 (.tmp 3) rfl wx.heap.size 45 _ (0,0) (by rfl) S9.box _ Tryz.underlying45 rfl (by rfl) ?_)
 refine ag kc ?_;rintro e w4 ⟨rfl,hb⟩;obtain⟨x4,hq,hk4,hbq⟩:=B8 OX S9 hb #[.int .i64 1,.int .i64 OP,.bool true,Es,.slice (some ⟨bq0,0,none⟩) 3 3];clear kc hb S9 d1
 go_wp2_with (refine bh rfl 45 (.tmp 2) (.tmp 237) rfl (w.heap.size+1) 45 _ #[.int .i64 1,.int .i64 OP,.bool true,Es,.slice (some ⟨bq0,0,none⟩) 3 3] (by rfl) (by rfl) x4 (by rfl) (by rfl) (by simp[Value.oneCell']) ?_)
 all_goals exact le (s:=2) (g:=w.heap.size+1) rfl rfl rfl hq rfl ⟨⟨_,rfl,hk4⟩,hbq⟩
end Go.Proofs.YthjaiigijbjloaaGreatDoor
