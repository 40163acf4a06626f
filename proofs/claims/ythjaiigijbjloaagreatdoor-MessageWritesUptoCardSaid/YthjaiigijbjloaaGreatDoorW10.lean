/- OpS, MsA, MsB, MsC, MsD, MsF, MsG, MsJ, MsK, MsS, MsT, CnA, ElH. -/
import Derived.Deep.CutRange
import Derived.Deep.CutBlock
import Derived.ChangeKeysEq
import Derived.Test.YthjaiigijbjloaaGreatDoorW7
namespace Go.Proofs.YthjaiigijbjloaaGreatDoor
open Go.RowKit Go.Lib
set_option maxRecDepth 100000
set_option maxHeartbeats 16000000
theorem nR(b v:Nat)(A:Array Value)(dn secret:List UInt8)(w:World)(hb:w.heap[b]?=some (.cells A 28 (0,0)))(hv:v≤127)(h2:A[2]?=some (.string ⟨dn.toArray⟩))(h3:A[3]?=some (.int .i64 (v:Int)))(h4:A[4]?=some (.bool true))(h5:A[5]?=some (.string ⟨secret.toArray⟩))(hd:dn.length≤1000000000)(hs:secret.length≤1000000000):
  Calls Tryz.prog 116 #[.pointer (some ⟨b,0,none⟩)] w fun e w'=>(∃u,e=.returned (.agg (elA (.mk 0 16 true [] [.mk 0 2 false [UInt8.ofNat v] [],.mk 0 4 false dn [],.mk 2 3 true [] [.mk 0 4 false secret []]]) u))∧bf (fun g=>w.heap.size≤g) w' u [.mk 0 2 false [UInt8.ofNat v] [],.mk 0 4 false dn [],.mk 2 3 true [] [.mk 0 4 false secret []]])∧Below w.heap.size w w':=by
 obtain⟨PR,hPR⟩:∃PR:Ending→World→Prop,PR=fun e w'=>(∃u,e=.returned (.agg (elA (.mk 0 16 true [] [.mk 0 2 false [UInt8.ofNat v] [],.mk 0 4 false dn [],.mk 2 3 true [] [.mk 0 4 false secret []]]) u))∧bf (fun g=>w.heap.size≤g) w' u [.mk 0 2 false [UInt8.ofNat v] [],.mk 0 4 false dn [],.mk 2 3 true [] [.mk 0 4 false secret []]])∧Below w.heap.size w w':=⟨_,rfl⟩
 rw[←hPR];obtain⟨HPR,G2,G3,G4,G5⟩:=Cj hPR h2 h3 h4 h5;clear hPR h2 h3 h4 h5;have hbl:=(gl hb);have b1:=alb w Ze 45;have t1:=alz w Ze 45;have m1:=(b1.block _ hbl).trans hb;clear hb
 go_enter Tryz.func116,Tryz.ntmps116
 go_upto_region 1 with fail
 generalize w.alloc (.cells Ze 45)=w1 at b1 t1 m1⊢;have q5:w1.cell? ⟨b,5,none⟩=some (.string ⟨secret.toArray⟩):=(ap m1 5).trans G5.out;have k1:=bz secret w1
 go_wp2_with fail
 refine ag k1 ?_;rintro e w2 ⟨rfl,hb2⟩;have m2:=bkk hb2 m1;have t2:=bkk hb2 t1;have b2:=btt b1 hb2;clear k1 hb2 q5 b1 t1 m1;have k2:=BY (.mk 0 4 false secret []) (Sn) 0 w2 (bf.nil _ _) (by simp[SmE,SmL];exact hs)
 go_wp2_with fail
 refine ag k2 ?_;rintro e w3 ⟨⟨u3,rfl,hu3⟩,hb3⟩;obtain⟨a3,c3,rfl⟩:=hu3.empty;have m3:=bkk hb3 m2;have t3:=bkk hb3 t2;have b3:=btt b2 hb3;clear k2 hb3 hu3 b2 t2 m2;simp only[elA,El.cls,El.tag,El.cons,El.bytes];have g4:=alb w3 #[.int .i64 2,I0,Bf,.string ⟨secret.toArray⟩,.slice a3 0 c3] 45;have x4:=alz w3 #[.int .i64 2,I0,Bf,.string ⟨secret.toArray⟩,.slice a3 0 c3] 45;have m4:=bkk g4 m3;have t4:=bkk g4 t3;have b4:=btt b3 g4;have hs3:=(gl t3);clear m3 t3 b3 g4
 go_upto_region 2 with fail
 generalize w3.alloc (.cells #[.int .i64 2,I0,Bf,.string ⟨secret.toArray⟩,.slice a3 0 c3] 45)=w4 at x4 m4 t4 b4⊢;have q4:w4.cell? ⟨b,4,none⟩=some (.bool true):=(ap m4 4).trans G4.out
 go_upto_region 3 with fail
 clear q4;generalize w3.heap.size=x at x4 hs3⊢;have q5:=(ap m4 5).trans G5.out;have kc:=bz secret w4
 go_wp2_with fail
 refine ag kc ?_;rintro e w31 ⟨rfl,hb⟩;have t31:=bkk hb t4;have m31:=bkk hb m4;have x31:=bkk hb x4;have b31:=btt b4 hb;clear kc hb t4 m4 x4 b4 q5;simp only[elA,El.cls,El.tag,El.cons,El.bytes];have hb:=alb w31 #[I0,.int .i64 4,Bf,.string ⟨secret.toArray⟩,Sn] 45;have y32:=alz w31 #[I0,.int .i64 4,Bf,.string ⟨secret.toArray⟩,Sn] 45;have t32:=bkk hb t31;have m32:=bkk hb m31;have x32:=bkk hb x31;have b32:=btt b31 hb;have hk1:bf (fun _=>True) (w31.alloc (.cells #[I0,.int .i64 4,Bf,.string ⟨secret.toArray⟩,Sn] 45)) (.slice (some ⟨w31.heap.size,0,none⟩) 1 1) [.mk 0 4 false secret []]:=
  ic (P:=fun _=>True) (l:=[.mk 0 4 false secret []]) (us:=[Sn]) y32 rfl rfl (fun j e u hj hu=>by
   have h3:j=0:=by have h9:=(List.getElem?_eq_some_iff.1 hj).1;simp at h9;omega
   subst h3
   simp at hj hu;subst hj;subst hu;exact bf.no _ _ _ _) trivial
 have kc:=cH [.mk 0 4 false secret []] _ _ hk1 (by simp[SmL,SmE];exact hs) (by simp);clear hb t31 m31 x31 b31 y32 hk1
 go_wp2_with fail
 generalize w31.alloc (.cells #[I0,.int .i64 4,Bf,.string ⟨secret.toArray⟩,Sn] 45)=w32 at t32 m32 x32 b32 kc⊢;refine ag kc ?_;rintro e w33 ⟨⟨u3,rfl,hu3⟩,hb⟩;have t33:=bkk hb t32;have m33:=bkk hb m32;have x33:=bkk hb x32;have b33:=btt b32 hb;clear kc hb t32 m32 x32 b32;have hx33:=(gl x33);have kc:=BY (.mk 0 16 true [] [.mk 0 4 false secret []]) u3 3 w33 (hu3.mono (fun _ _ _=>trivial)) (by simp[SmL,SmE];exact hs);simp only[El.cons,El.bytes,El.kids] at kc;clear hu3
 go_wp2_with fail
 refine ag kc ?_;rintro e w34 ⟨⟨u4,rfl,hu4⟩,hb⟩;obtain⟨a9,c9,hsu⟩:=hu4.shape;simp only[aG,aU] at hsu;subst hsu;have t34:=bkk hb t33;have m34:=bkk hb m33;have x34:=bkk hb x33;have b34:=btt b33 hb;clear kc hb t33 m33 x33 b33;simp only[elA,El.cls,El.tag,El.cons,El.bytes];have hxz:w.heap.size+1≤x:=by omega
 have hbx:b<x:=by omega
 have hz33:x<w33.heap.size:=by have:=(gl x34);exact hx33
 have m35:=(setRow_other w34 x b #[.int .i64 2,.int .i64 3,.bool true,Es,.slice a9 1 c9] (by omega)).trans m34;have t35:=(setRow_other w34 x w.heap.size #[.int .i64 2,.int .i64 3,.bool true,Es,.slice a9 1 c9] (by omega)).trans t34;have x35:=setRow_heap w34 x _ #[.int .i64 2,.int .i64 3,.bool true,Es,.slice a9 1 c9] _ _ x34;have b35:=bm b34 (g:=x) (by omega) #[.int .i64 2,.int .i64 3,.bool true,Es,.slice a9 1 c9];have U:bf (fun _=>True) (w34.setRow x #[.int .i64 2,.int .i64 3,.bool true,Es,.slice a9 1 c9]) (.slice a9 1 c9) [.mk 0 4 false secret []]:=hu4.kept fun g hg hl=>⟨setRow_other w34 x g #[.int .i64 2,.int .i64 3,.bool true,Es,.slice a9 1 c9] (by omega),trivial⟩
 have X34:=hid x34;clear hu4
 go_upto_region 4 with(refine bh rfl 45 (.tmp 2) (.tmp 14) rfl x 45 _ #[.int .i64 2,.int .i64 3,.bool true,Es,.slice a9 1 c9] (by rfl) (by rfl) X34.out (by rfl) (by rfl) (by simp[Value.oneCell']) ?_)
 clear X34 t34 m34 x34 b34;generalize w34.setRow x #[.int .i64 2,.int .i64 3,.bool true,Es,.slice a9 1 c9]=w4 at m35 t35 x35 b35 U⊢;obtain⟨m4,t4,x4,b4⟩:_∧_∧_∧_:=⟨m35,t35,x35,b35⟩;clear m35 t35 x35 b35;refine aR (S:=fun w'=>w'.heap[b]?=some (.cells A 28 (0,0))∧w'.heap[x]?=some (.cells #[.int .i64 2,.int .i64 3,.bool true,Es,.slice a9 1 c9] 45 (0,0))) (by kernel_rfl) ?_;have T:w4.drew.heap[b]?=some (.cells A 28 (0,0))∧w4.drew.heap[x]?=some (.cells #[.int .i64 2,.int .i64 3,.bool true,Es,.slice a9 1 c9] 45 (0,0)):=⟨m4,x4⟩;have D:Below w.heap.size w w4.drew:=b4.drew;have R:w4.drew.heap[w.heap.size]?=some (.cells Ze 45 (0,0)):=t4
 change wpAnyH _ _ _ _ _ _ _ _ w4.drew
 clear m4 x4 t4 b4;have U:=U.kept (w':=w4.drew) (Q:=fun _=>True) (fun g hg _=>⟨rfl,trivial⟩);generalize w4.drew=w5 at T D R U⊢;refine tp 0 ⟨b,3,none⟩ rfl T ?_;refine tn 1 (.int .i64 (v:Int)) rfl (fun w' hS=>by have q:=(ap hS.1 3).trans G3.out;go_simp) T ?_;refine tp 3 ⟨b,2,none⟩ rfl T ?_;refine tn 4 (.string ⟨dn.toArray⟩) rfl (fun w' hS=>by have q:=(ap hS.1 2).trans G2.out;go_simp) T ?_;refine tn 6 (.agg #[.int .i64 2,.int .i64 3,.bool true,Es,.slice a9 1 c9]) rfl (fun w' hS=>by exact cU 45 (.tmp 2) rfl x 45 _ (0,0) (by rfl) hS.2 _ Tryz.underlying45 rfl (by rfl)) T ?_;have kc:=ln 2 v hv w5;refine ao 2 rfl (fun K hK=>?_);go_simp;go_wp2_with fail
 refine ag kc ?_;rintro e w6 ⟨rfl,hbn⟩;have T9:w6.heap[b]?=some (.cells A 28 (0,0))∧w6.heap[x]?=some (.cells #[.int .i64 2,.int .i64 3,.bool true,Es,.slice a9 1 c9] 45 (0,0)):=⟨(hbn.block _ (gl T.1)).trans T.1,(hbn.block _ (gl T.2)).trans T.2⟩;have R9:=bkk hbn R;have D9:=btt D hbn;have U:=U.below hbn;clear kc hbn T R D;have T:=T9;have R:=R9;have D:=D9;clear T9 R9 D9;refine hK _ _ T ?_;clear hK K
 have kc:=bz dn w6;refine ao 5 rfl (fun K hK=>?_);go_simp;go_wp2_with fail
 refine ag kc ?_;rintro e w7 ⟨rfl,hbn⟩;have T9:w7.heap[b]?=some (.cells A 28 (0,0))∧w7.heap[x]?=some (.cells #[.int .i64 2,.int .i64 3,.bool true,Es,.slice a9 1 c9] 45 (0,0)):=⟨(hbn.block _ (gl T.1)).trans T.1,(hbn.block _ (gl T.2)).trans T.2⟩;have R9:=bkk hbn R;have D9:=btt D hbn;have U:=U.below hbn;clear kc hbn T R D;have T:=T9;have R:=R9;have D:=D9;clear T9 R9 D9;refine hK _ _ T ?_;clear hK K
 simp only[elA,El.cls,El.tag,El.cons,El.bytes];have g8:=alb w7 #[I0,.int .i64 2,Bf,.string ⟨[UInt8.ofNat v].toArray⟩,Sn,I0,.int .i64 4,Bf,.string ⟨dn.toArray⟩,Sn,.int .i64 2,.int .i64 3,.bool true,Es,.slice a9 1 c9] 45;have y8:=alz w7 #[I0,.int .i64 2,Bf,.string ⟨[UInt8.ofNat v].toArray⟩,Sn,I0,.int .i64 4,Bf,.string ⟨dn.toArray⟩,Sn,.int .i64 2,.int .i64 3,.bool true,Es,.slice a9 1 c9] 45;have T8:(w7.alloc (.cells #[I0,.int .i64 2,Bf,.string ⟨[UInt8.ofNat v].toArray⟩,Sn,I0,.int .i64 4,Bf,.string ⟨dn.toArray⟩,Sn,.int .i64 2,.int .i64 3,.bool true,Es,.slice a9 1 c9] 45)).heap[b]?=some (.cells A 28 (0,0))∧(w7.alloc (.cells #[I0,.int .i64 2,Bf,.string ⟨[UInt8.ofNat v].toArray⟩,Sn,I0,.int .i64 4,Bf,.string ⟨dn.toArray⟩,Sn,.int .i64 2,.int .i64 3,.bool true,Es,.slice a9 1 c9] 45)).heap[x]?=some (.cells #[.int .i64 2,.int .i64 3,.bool true,Es,.slice a9 1 c9] 45 (0,0)):=⟨(g8.block _ (gl T.1)).trans T.1,(g8.block _ (gl T.2)).trans T.2⟩;have R8:=bkk g8 R;have D8:=btt D g8;have U:=U.below g8;clear T R D g8;refine ao 7 rfl (kks T8 ?_);generalize w7.alloc (.cells #[I0,.int .i64 2,Bf,.string ⟨[UInt8.ofNat v].toArray⟩,Sn,I0,.int .i64 4,Bf,.string ⟨dn.toArray⟩,Sn,.int .i64 2,.int .i64 3,.bool true,Es,.slice a9 1 c9] 45)=w8 at y8 T8 R8 D8 U⊢;have hk8:bf (fun _=>True) w8 (.slice (some ⟨w7.heap.size,0,none⟩) 3 3) [.mk 0 2 false [UInt8.ofNat v] [],.mk 0 4 false dn [],.mk 2 3 true [] [.mk 0 4 false secret []]]:=
  ic (P:=fun _=>True) (l:=[.mk 0 2 false [UInt8.ofNat v] [],.mk 0 4 false dn [],.mk 2 3 true [] [.mk 0 4 false secret []]]) (us:=[Sn,Sn,.slice a9 1 c9]) y8 rfl rfl (fun j e u hj hu=>by
   have h3:j=0∨j=1∨j=2:=by have h9:=(List.getElem?_eq_some_iff.1 hj).1;simp at h9;omega
   rcases h3 with rfl|rfl|rfl
   ·simp at hj hu;subst hj;subst hu;exact bf.no _ _ _ _
   ·simp at hj hu;subst hj;subst hu;exact bf.no _ _ _ _
   ·simp at hj hu;subst hj;subst hu;exact U) trivial
 have kc:=cH [.mk 0 2 false [UInt8.ofNat v] [],.mk 0 4 false dn [],.mk 2 3 true [] [.mk 0 4 false secret []]] _ w8 hk8 (by simp[SmL,SmE];exact⟨hd,hs⟩) (by simp);refine ao 8 rfl (fun K hK=>?_);go_simp;go_wp2_with fail
 refine ag kc ?_;rintro e w9 ⟨⟨u9,rfl,hu9⟩,hb9⟩;have T9:w9.heap[b]?=some (.cells A 28 (0,0))∧w9.heap[x]?=some (.cells #[.int .i64 2,.int .i64 3,.bool true,Es,.slice a9 1 c9] 45 (0,0)):=⟨(hb9.block _ (gl T8.1)).trans T8.1,(hb9.block _ (gl T8.2)).trans T8.2⟩;have R9:=bkk hb9 R8;have D9:=btt D8 hb9;have hs8:=(gl R8);clear kc hb9 T8 R8 D8 y8 hk8;refine hK _ _ T9 ?_;clear hK K
 obtain⟨E,hE⟩:=nmm (elA (.mk 0 16 true [] [.mk 0 2 false [UInt8.ofNat v] [],.mk 0 4 false dn [],.mk 2 3 true [] [.mk 0 4 false secret []]]) u9);have hE1:E.all (·.oneCell')=true:=by
  obtain⟨a,c,hsl⟩:=hu9.shape;subst hsl;rw[←hE];simp[elA,Value.oneCell']
 have hE2:E.size=5:=by rw[←hE];rfl
 rw[hE];obtain⟨HE,HE1,HE2⟩:=Ch hE hE1 hE2;clear hE hE1 hE2;have hwb:b≠w.heap.size:=by omega
 have hwx:x≠w.heap.size:=by omega
 have TF:(w9.setRow w.heap.size E).heap[b]?=some (.cells A 28 (0,0))∧(w9.setRow w.heap.size E).heap[x]?=some (.cells #[.int .i64 2,.int .i64 3,.bool true,Es,.slice a9 1 c9] 45 (0,0)):=⟨(setRow_other w9 w.heap.size b E hwb).trans T9.1,(setRow_other w9 w.heap.size x E hwx).trans T9.2⟩;have bF:=bm D9 (g:=w.heap.size) (ah _) E;have tF:=setRow_heap w9 w.heap.size _ E _ _ R9;have hwl:w.heap.size<w8.heap.size:=by omega
 have uF:bf (fun g=>w.heap.size≤g) (w9.setRow w.heap.size E) u9 [.mk 0 2 false [UInt8.ofNat v] [],.mk 0 4 false dn [],.mk 2 3 true [] [.mk 0 4 false secret []]]:=hu9.kept fun g hg hl=>⟨setRow_other w9 w.heap.size g E (by omega),by omega⟩
 refine ao 9 rfl (fun K hK=>?_);refine db 45 (.tmp 1) (.tmp 23) rfl w.heap.size 45 _ E (by rfl) (by rfl) R9 (by rw[HE2.out];rfl) (by rw[HE2.out];rfl) HE1.out ?_;refine hK _ _ TF ?_;clear hK K
 refine bE (by kernel_rfl) ?_ _;simp only[Exit.then];refine‹∀(a:Act) (w:World),Code.wp _ _ _ a w→_› _ _ ?_;clear T9 R9 D9 TF hu9;generalize w9.setRow w.heap.size E=wF at bF tF uF⊢;have UF:=hid uF;clear uF;go_simp
 go_wp2_with fail
 refine aH (v:=.agg E) ?_ rfl (by rw[HPR.out];exact⟨⟨u9,by rw[HE.out],UF.out⟩,bF⟩);have hr:=aJ (P:=Tryz.prog) wF w.heap.size 45 45 E (0,0) _ tF (show Tryz.prog.underlying 45=_ from Tryz.underlying45) (by rfl) (by rw[HE2.out];rfl)
 simp[results,Tryz.f116]
 exact hr
def pb(i op:Int)(dn:List UInt8):Array Value:=#[.int .i64 i,.int .i64 op,.string ⟨dn.toArray⟩,I0,Bf,Es,I0,I0,I0,I0,Bf,Sn,Sn,Sn,Sn,Es,Es,Bf,Bf,Es,Es,Es,Bf,I0,I0,Es,Es,Sn]
theorem zr(B:Nat)(i:Int)(dn:List UInt8)(a:Option Addr)(c:Nat)(w:World)(hm:w.heap[B]?=some (.cells (pb i 0 []) 28 (0,0))):
  Calls Tryz.prog 101 #[.pointer (some ⟨B,0,none⟩),.agg (elA (.mk 1 10 false dn []) (.slice a 0 c))] w fun e w'=>e=.returned (.tuple #[])∧w'.heap[B]?=some (.cells (pb i 10 dn) 28 (0,0))∧BelR B w.heap.size w w':=by
 have hBl:=(gl hm);have b1:Below w.heap.size w ((w.alloc (.cells #[.pointer (some ⟨B,0,none⟩)] 126)).alloc (.cells #[.int .i64 1,.int .i64 10,Bf,.string ⟨dn.toArray⟩,.slice a 0 c] 45)):=((ar _ _).alloc (ah _) _).alloc (by simp) _;have p1:((w.alloc (.cells #[.pointer (some ⟨B,0,none⟩)] 126)).alloc (.cells #[.int .i64 1,.int .i64 10,Bf,.string ⟨dn.toArray⟩,.slice a 0 c] 45)).heap[w.heap.size]?=some (.cells #[.pointer (some ⟨B,0,none⟩)] 126 (0,0)):=(alloc_old _ _ _ (by simp)).trans (bi _ _ _ rfl);have r1:((w.alloc (.cells #[.pointer (some ⟨B,0,none⟩)] 126)).alloc (.cells #[.int .i64 1,.int .i64 10,Bf,.string ⟨dn.toArray⟩,.slice a 0 c] 45)).heap[w.heap.size+1]?=some (.cells #[.int .i64 1,.int .i64 10,Bf,.string ⟨dn.toArray⟩,.slice a 0 c] 45 (0,0)):=bi _ _ _ (by simp);have m1:=(b1.block B hBl).trans hm;unfold elA;simp only[El.cls,El.tag,El.cons,El.bytes];clear hm
 go_enter Tryz.func101,Tryz.ntmps101
 refine wp_seq ?_;refine aQ ?_
 iterate 2 (refine aB rfl (kkn ?_))
 generalize((w.alloc (.cells #[.pointer (some ⟨B,0,none⟩)] 126)).alloc (.cells #[.int .i64 1,.int .i64 10,Bf,.string ⟨dn.toArray⟩,.slice a 0 c] 45))=w1 at b1 p1 r1 m1⊢;have qp:=cval p1 0 (.pointer (some ⟨B,0,none⟩));have qt:=cval r1 1 (.int .i64 10);have q1:=cval m1 1 I0;have z1:=aj m1 1;have m2:(w1.setCell ⟨B,1,none⟩ (.int .i64 10)).heap[B]?=some (.cells (pb i 10 []) 28 (0,0)):=bw (i:=1) (u:=.int .i64 10) m1;have p2:(w1.setCell ⟨B,1,none⟩ (.int .i64 10)).heap[w.heap.size]?=some (.cells #[.pointer (some ⟨B,0,none⟩)] 126 (0,0)):=(aX w1 ⟨B,1,none⟩ (.int .i64 10) w.heap.size (by show w.heap.size≠B;omega)).trans p1;have r2:(w1.setCell ⟨B,1,none⟩ (.int .i64 10)).heap[w.heap.size+1]?=some (.cells #[.int .i64 1,.int .i64 10,Bf,.string ⟨dn.toArray⟩,.slice a 0 c] 45 (0,0)):=(aX w1 ⟨B,1,none⟩ (.int .i64 10) (w.heap.size+1) (by show w.heap.size+1≠B;omega)).trans r1;have b2:BelR B w.heap.size w (w1.setCell ⟨B,1,none⟩ (.int .i64 10)):=(BelR.of_below b1).set 1 _;obtain⟨M2,P2,R2,B2⟩:=Ci m2 p2 r2 b2;clear p1 r1 m1 b1 m2 p2 r2 b2
 go_wp2_with fail
 clear qp qt q1 z1;generalize w1.setCell ⟨B,1,none⟩ (.int .i64 10)=w2 at M2 P2 R2 B2⊢;refine aR (S:=fun w'=>w'.heap[w.heap.size]?=some (.cells #[.pointer (some ⟨B,0,none⟩)] 126 (0,0))∧w'.heap[w.heap.size+1]?=some (.cells #[.int .i64 1,.int .i64 10,Bf,.string ⟨dn.toArray⟩,.slice a 0 c] 45 (0,0))∧w'.cell? ⟨B,1,none⟩=some (.int .i64 10)) (by kernel_rfl) ?_;have T3:w2.drew.heap[w.heap.size]?=some (.cells #[.pointer (some ⟨B,0,none⟩)] 126 (0,0))∧w2.drew.heap[w.heap.size+1]?=some (.cells #[.int .i64 1,.int .i64 10,Bf,.string ⟨dn.toArray⟩,.slice a 0 c] 45 (0,0))∧w2.drew.cell? ⟨B,1,none⟩=some (.int .i64 10):=⟨P2.out,R2.out,(ap M2.out 1).trans rfl⟩;have M3:w2.drew.heap[B]?=some (.cells (pb i 10 []) 28 (0,0)):=M2.out;have B3:BelR B w.heap.size w w2.drew:=B2.out.trans (BelR.of_below ((ar _ _).drew))
 change wpAnyH _ _ _ _ _ _ _ _ w2.drew
 clear M2 P2 R2 B2;generalize w2.drew=w3 at T3 M3 B3⊢;refine tn 0 (.pointer (some ⟨B,0,none⟩)) rfl (fun w' hS=>by have q:=(ap hS.1 0).trans (rfl:_=some (Value.pointer (some ⟨B,0,none⟩)));go_simp) T3 ?_;refine tn 2 (.pointer (some ⟨B,0,none⟩)) rfl (fun w' hS=>by have q:=(ap hS.1 0).trans (rfl:_=some (Value.pointer (some ⟨B,0,none⟩)));go_simp) T3 ?_;refine tn 1 (.agg #[.int .i64 1,.int .i64 10,Bf,.string ⟨dn.toArray⟩,.slice a 0 c]) rfl (fun w' hS=>by exact cU 45 (.tmp 3) rfl (w.heap.size+1) 45 _ (0,0) (by rfl) hS.2.1 _ Tryz.underlying45 rfl (by rfl)) T3 ?_;refine tp 3 ⟨B,0,none⟩ rfl T3 ?_;refine tp 4 ⟨B,1,none⟩ rfl T3 ?_;refine tn 5 (.int .i64 10) rfl (fun w' hS=>by have q:=hS.2.2;go_simp) T3 ?_;have kt:=BB (.mk 1 10 false dn []) (.slice a 0 c) 1 10 w3 ⟨a,c,rfl,Nat.zero_le _,fun h=>absurd rfl h⟩ (by simp[isE,El.cls,El.tag,El.cons]);unfold elA at kt;simp only[El.cls,El.tag,El.cons,El.bytes] at kt;refine ao 6 rfl (fun K hK=>?_);go_simp;go_wp2_with fail
 refine ag kt ?_;rintro e w4 ⟨rfl,hb4⟩;have M4:=bkk hb4 M3;have T4:w4.heap[w.heap.size]?=some (.cells #[.pointer (some ⟨B,0,none⟩)] 126 (0,0))∧w4.heap[w.heap.size+1]?=some (.cells #[.int .i64 1,.int .i64 10,Bf,.string ⟨dn.toArray⟩,.slice a 0 c] 45 (0,0))∧w4.cell? ⟨B,1,none⟩=some (.int .i64 10):=⟨(hb4.block _ (gl T3.1)).trans T3.1,(hb4.block _ (gl T3.2.1)).trans T3.2.1,(hb4.cell (bj T3.2.2)).trans T3.2.2⟩;have B4:=B3.trans (BelR.of_below (R:=B) (hb4.mono B3.size));clear kt hb4 M3 T3 B3;refine hK _ _ T4 ?_;clear hK K
 refine ao 7 rfl (kks T4 ?_);refine ao 8 rfl (kks T4 ?_);have s2:=cval M4 2 Es;have z2:=aj M4 2;have M5:(w4.setCell ⟨B,2,none⟩ (.string ⟨dn.toArray⟩)).heap[B]?=some (.cells (pb i 10 dn) 28 (0,0)):=bw (i:=2) (u:=.string ⟨dn.toArray⟩) M4;have T5:(w4.setCell ⟨B,2,none⟩ (.string ⟨dn.toArray⟩)).heap[w.heap.size]?=some (.cells #[.pointer (some ⟨B,0,none⟩)] 126 (0,0))∧(w4.setCell ⟨B,2,none⟩ (.string ⟨dn.toArray⟩)).heap[w.heap.size+1]?=some (.cells #[.int .i64 1,.int .i64 10,Bf,.string ⟨dn.toArray⟩,.slice a 0 c] 45 (0,0))∧(w4.setCell ⟨B,2,none⟩ (.string ⟨dn.toArray⟩)).cell? ⟨B,1,none⟩=some (.int .i64 10):=
  ⟨(aX w4 ⟨B,2,none⟩ _ w.heap.size (by show w.heap.size≠B;omega)).trans T4.1,(aX w4 ⟨B,2,none⟩ _ (w.heap.size+1) (by show w.heap.size+1≠B;omega)).trans T4.2.1,(ap M5 1).trans rfl⟩
 have B5:=B4.set 2 (.string ⟨dn.toArray⟩);refine ao 9 rfl (kks T5 ?_);refine bE (by kernel_rfl) ?_ _;simp only[Exit.then];refine‹∀(a:Act) (w:World),Code.wp _ _ _ a w→_› _ _ ?_;clear s2 z2;generalize w4.setCell ⟨B,2,none⟩ (.string ⟨dn.toArray⟩)=w5 at M5 B5 T5⊢
 go_wp2_with fail
 refine aH (v:=.tuple #[]) ?_ rfl ⟨rfl,M5,B5⟩
 simp[results,Tryz.f101]
def wl(n:Nat)(dn:List UInt8):El:=.mk 0 16 true [] [.mk 0 2 false [UInt8.ofNat n] [],.mk 1 10 false dn []]
theorem zt(n:Nat)(hn:n≤127)(dn:List UInt8)(hd:dn.length≤1000000)(u:Value)(w:World)(h:bf (fun _=>True) w u (wl n dn).kids):
  Cr 48 #[.agg (elA (wl n dn) u)] w (.agg (pb n 10 dn)):=by
 obtain⟨a,c,hf⟩:=h.shape;subst hf;have b1:Below w.heap.size w (((w.alloc (.cells #[I0,.int .i64 16,.bool true,Es,.slice a 2 c] 45)).alloc (.cells Zm 28)).alloc (.cells Zm 28)):=(((ar _ _).alloc (ah _) _).alloc (by simp) _).alloc (by simp;omega) _;have r1:(((w.alloc (.cells #[I0,.int .i64 16,.bool true,Es,.slice a 2 c] 45)).alloc (.cells Zm 28)).alloc (.cells Zm 28)).heap[w.heap.size]?=some (.cells #[I0,.int .i64 16,.bool true,Es,.slice a 2 c] 45 (0,0)):=(alloc_old _ _ _ (by simp;omega)).trans ((alloc_old _ _ _ (by simp)).trans (bi _ _ _ rfl));have m1:(((w.alloc (.cells #[I0,.int .i64 16,.bool true,Es,.slice a 2 c] 45)).alloc (.cells Zm 28)).alloc (.cells Zm 28)).heap[w.heap.size+1+1]?=some (.cells (pb 0 0 []) 28 (0,0)):=bi _ _ _ (by simp);have t1:(((w.alloc (.cells #[I0,.int .i64 16,.bool true,Es,.slice a 2 c] 45)).alloc (.cells Zm 28)).alloc (.cells Zm 28)).heap[w.heap.size+1]?=some (.cells (pb 0 0 []) 28 (0,0)):=(alloc_old _ _ _ (by simp)).trans (bi _ _ _ (by simp));have hsm:SmE (wl n dn):=by
  simp only[wl,SmE,SmL];refine⟨by simp,by simp,⟨by simp,by simp,trivial⟩,⟨by omega,by simp,trivial⟩,trivial⟩
 have kk:=fun W (hb:Below w.heap.size w W)=>BC (wl n dn) (.slice a (wl n dn).kids.length c) 0 16 W (h.below hb) hsm (by simp[isE,wl,El.cls,El.tag,El.cons])
 have KK:=hid (kk (((w.alloc (.cells #[I0,.int .i64 16,.bool true,Es,.slice a 2 c] 45)).alloc (.cells Zm 28)).alloc (.cells Zm 28)) b1);clear h kk hsm;have hk2:(wl n dn).kids.length=2:=rfl;unfold elA;rw[hk2];simp only[wl,El.cls,El.tag,El.cons,El.bytes];clear hk2
 go_enter Tryz.func48,Tryz.ntmps48
 refine wp_seq ?_;refine aQ ?_
 iterate 2 (refine aB rfl (kkn ?_))
 refine wpList_nil ?_;simp only[Exit.then];refine wp_seq ?_;refine aQ ?_;refine aB rfl (kkn ?_);have kk:=KK.out;clear KK;generalize(((w.alloc (.cells #[I0,.int .i64 16,.bool true,Es,.slice a 2 c] 45)).alloc (.cells Zm 28)).alloc (.cells Zm 28))=w1 at b1 r1 m1 t1 kk⊢
 go_wp2_with (refine bg rfl 45 (.tmp 1) rfl w.heap.size 45 _ (0,0) (by rfl) r1 _ Tryz.underlying45 rfl (by rfl) ?_)
 refine ag kk ?_;rintro e w2 ⟨⟨b,v,rfl,hbs,hb2,hv2⟩,hB2⟩;have m2:=bkk hB2 m1;have t2:=bkk hB2 t1;have b2:=btt b1 hB2;have hm1:=(gl m1);have hs2:=hB2.size;have hs1:=b1.size;have kn:=BN (fun g=>w1.heap.size≤g∧g≠b) b v 2 n hn [.mk 1 10 false dn []] w2 hb2 hv2 (fun g hg=>hg.2) (by simp);clear kk r1 t1 hb2 hv2 hB2 b1 m1
 go_wp2_with fail
 refine ag kn ?_;rintro e w3 ⟨⟨v3,rfl,hb3,hv3⟩,hR3⟩;have m3:=(hR3.block _ (gl m2) (by omega)).trans m2;have t3:=(hR3.block _ (gl t2) (by omega)).trans t2;have b3:Below w.heap.size w w3:=b2.trans ((hR3.mono b2.size).below (by omega));have q0:=cval m3 0 I0;have z0:=aj m3 0;have m4:(w3.setCell ⟨w.heap.size+1+1,0,none⟩ (.int .i64 n)).heap[w.heap.size+1+1]?=some (.cells (pb n 0 []) 28 (0,0)):=bw (i:=0) (u:=.int .i64 n) m3;have hoth:∀g,g≠w.heap.size+1+1→(w3.setCell ⟨w.heap.size+1+1,0,none⟩ (.int .i64 n)).heap[g]?=w3.heap[g]?:=fun g hg=>aX w3 ⟨w.heap.size+1+1,0,none⟩ _ g hg
 have t4:=(hoth (w.heap.size+1) (by omega)).trans t3;have hb4:=(hoth b (by omega)).trans hb3;have hv4:bf (fun g=>w1.heap.size≤g∧g≠b) (w3.setCell ⟨w.heap.size+1+1,0,none⟩ (.int .i64 n)) v3 [.mk 1 10 false dn []]:=hv3.kept fun g hg _=>⟨hoth g (by omega),hg⟩
 have b4:=b3.setCell (p:=⟨w.heap.size+1+1,0,none⟩) (by show w.heap.size≤w.heap.size+1+1;omega) (.int .i64 n);obtain⟨H4,HT4,HB4,HV4,HBB⟩:=Cj m4 t4 hb4 hv4 b4;clear kn m2 t2 b2 hb3 hv3 hR3 m3 t3 b3 m4 t4 hb4 hv4 b4 hoth
 go_wp2_with fail
 clear q0 z0;generalize w3.setCell ⟨w.heap.size+1+1,0,none⟩ (.int .i64 n)=w4 at H4 HT4 HB4 HV4 HBB⊢;have kx:=zQ (fun g=>w1.heap.size≤g∧g≠b) b v3 (.mk 1 10 false dn []) [] w4 HB4.out HV4.out (fun g hg=>hg.2) (by simp);have hs4:=HBB.out.size;refine ag kx ?_;rintro e w5 ⟨⟨u5,v5,rfl,hu5,hb5,hv5⟩,hR5⟩;have m5:=(hR5.block _ (gl H4.out) (by omega)).trans H4.out;have t5:=(hR5.block _ (gl HT4.out) (by omega)).trans HT4.out;have b5:Below w.heap.size w w5:=HBB.out.trans ((hR5.mono hs4).below (by omega));obtain⟨a5,c5,hf5⟩:=hu5.shape;subst hf5;have ko:=zr (w.heap.size+1+1) n dn a5 c5 w5 m5;have hs5:=b5.size;have hb5l:=(gl hb5);have hm5l:=(gl m5);clear kx H4 HT4 HB4 HV4 HBB hR5 hu5 m5
 go_wp2_with fail
 refine ag ko ?_;rintro e w6 ⟨rfl,m6,hR6⟩;have t6:=(hR6.block _ (gl t5) (by omega)).trans t5;have hb6:=(hR6.block _ hb5l (by omega)).trans hb5;have hv6:bf (fun g=>w1.heap.size≤g∧g≠b) w6 v5 []:=hv5.kept fun g hg hl=>⟨hR6.block g hl (by omega),hg⟩
 have b6:Below w.heap.size w w6:=b5.trans ((hR6.mono hs5).below (by omega));have ki:=BD _ b v5 2 0 w6 hb6 hv6;have HV6:=hid hv6;clear ko t5 hb5 hv5 hR6 b5 hv6
 go_wp2_with fail
 refine ag ki ?_;rintro e w7 ⟨rfl,q,rfl⟩;have m7:(w6.drewN q).heap[w.heap.size+1+1]?=some (.cells (pb n 10 dn) 28 (0,0)):=m6;have t7:(w6.drewN q).heap[w.heap.size+1]?=some (.cells (pb 0 0 []) 28 (0,0)):=t6;have hb7:(w6.drewN q).heap[b]?=some (.cells #[v5] 129 (0,0)):=hb6;have hv7:bf (fun g=>w1.heap.size≤g∧g≠b) (w6.drewN q) v5 []:=HV6.out.kept fun g hg _=>⟨rfl,hg⟩
 have b7:=fU b6 q;clear ki m6 t6 hb6 HV6 b6;generalize w6.drewN q=w7 at m7 t7 hb7 hv7 b7⊢;have ke:=Bj _ b v5 w7 hb7 hv7;clear hb7 hv7
 go_wp2_with fail
 refine ag ke ?_;rintro e w8 ⟨rfl,q8,rfl⟩;have m8:(w7.drewN q8).heap[w.heap.size+1+1]?=some (.cells (pb n 10 dn) 28 (0,0)):=m7;have t8:(w7.drewN q8).heap[w.heap.size+1]?=some (.cells (pb 0 0 []) 28 (0,0)):=t7;have b8:=fU b7 q8;clear ke m7 t7 b7;generalize w7.drewN q8=w8 at m8 t8 b8⊢;have hq:=setRow_heap w8 (w.heap.size+1) _ (pb n 10 dn) _ _ t8;have b9:=bm b8 (g:=w.heap.size+1) (by omega) (pb n 10 dn)
 go_wp2_with (first
  |(refine bg rfl 28 (.tmp 3) rfl (w.heap.size+1+1) 28 _ (0,0) (by rfl) m8 _ Tryz.underlying28 rfl (by rfl) ?_)
  |(refine bh rfl 28 (.tmp 2) (.tmp 35) rfl (w.heap.size+1) 28 _ (pb n 10 dn) (by rfl) (by rfl) t8 (by rfl) (by rfl) (by simp[pb,Value.oneCell']) ?_))
 refine aH (v:=.agg (pb n 10 dn)) ?_ rfl ⟨rfl,b9⟩;have hr:=aJ (P:=Tryz.prog) (w8.setRow (w.heap.size+1) (pb n 10 dn)) (w.heap.size+1) 28 28 (pb n 10 dn) (0,0) _ hq (show Tryz.prog.underlying 28=_ from Tryz.underlying28) (by rfl) (by rfl)
 simp[results,Tryz.f48]
 exact hr
theorem yT(n:Nat)(hn:n≤127)(dn:List UInt8)(hd:dn.length≤1000000)(A M:Nat)(_hAM:A≠M)(u:Value)(w:World)(hA:w.heap[A]?=some (.cells (elA (wl n dn) u) 45 (0,0)))(hM:w.heap[M]?=some (.cells (pb 0 0 []) 28 (0,0)))(h:bf (fun _=>True) w u (wl n dn).kids):
  Calls Tryz.prog 47 #[.pointer (some ⟨A,0,none⟩),.pointer (some ⟨M,0,none⟩)] w fun e w'=>e=.returned (.tuple #[])∧w'.heap[M]?=some (.cells (pb n 10 dn) 28 (0,0))∧BelR M w.heap.size w w':=by
 have kt:=zt n hn dn hd u w h
 go_enter Tryz.func47,Tryz.ntmps47
 go_wp2_with (refine bg rfl 45 (.tmp 0) rfl A 45 _ (0,0) (by rfl) hA _ Tryz.underlying45 rfl (by rfl) ?_)
 refine ag kt ?_;rintro e w1 ⟨rfl,hb1⟩;have m1:=bkk hb1 hM;have m2:=setRow_heap w1 M _ (pb n 10 dn) _ _ m1;have hB:BelR M w.heap.size w (w1.setRow M (pb n 10 dn)):=⟨hb1.os,hb1.tape,hb1.output,by simp[World.setRow];exact hb1.size,fun j hj hne=>(setRow_other w1 M j _ hne).trans (hb1.block j hj)⟩;clear kt hb1
 go_wp2_with (refine bh rfl 28 (.tmp 1) (.tmp 3) rfl M 28 _ (pb n 10 dn) (by rfl) (by rfl) m1 (by rfl) (by rfl) (by simp[pb,Value.oneCell']) ?_)
 go_end0
 exact⟨rfl,m2,hB⟩
theorem pA(po:Nat)(w:World):
  CallsD Tryz.prog 98 #[.pointer (some ⟨po,0,none⟩)] .returning w fun e u' w'=>e=.returned (.tuple #[])∧u'=.returning∧w'=w:=by
 refine callsD_of_wpS Tryz.func98 rfl fun c₀ cs hu=>?_
 apply wpS_seq;apply wpS_region
 simp[wpOpsS,go_sem,recoverD,hu,Tryz.ntmps98,Exit.thenS]
 refine wpS_of_wp ?_;simp only[Array.replicate,List.replicate,List.setIfInBounds_toArray,List.set]
 go_wp2
 cases c₀
 simp_all [bodyPostS,results,Tryz.results98]
theorem yU(n:Nat)(hn:n≤127)(dn:List UInt8)(hd:dn.length≤1000000)(A M:Nat)(hAM:A≠M)(u:Value)(w:World)(hA:w.heap[A]?=some (.cells (elA (wl n dn) u) 45 (0,0)))(hM:w.heap[M]?=some (.cells (pb 0 0 []) 28 (0,0)))(h:bf (fun _=>True) w u (wl n dn).kids):
  Calls Tryz.prog 46 #[.func (.func 47) #[] #[.pointer (some ⟨A,0,none⟩),.pointer (some ⟨M,0,none⟩)]] w fun e w'=>e=.returned (.bool true)∧w'.heap[M]?=some (.cells (pb n 10 dn) 28 (0,0))∧BelR M w.heap.size w w':=by
 have hmf:∀(fn:Fn) (first cap:Array Value) (w:World),(Instr.makeFunc fn first cap).run Tryz.prog w=.ok (.func fn first cap) w:=fun _ _ _ _=>rfl
 obtain⟨PR,hPR⟩:∃PR:Ending→World→Prop,PR=fun e w'=>e=.returned (.bool true)∧w'.heap[M]?=some (.cells (pb n 10 dn) 28 (0,0))∧BelR M w.heap.size w w':=⟨_,rfl⟩
 rw[←hPR];have HP:=hid hPR;clear hPR;have hMl:=(gl hM);have bA:=alb w #[Bf] 4;have oA:=alz w #[Bf] 4;have kr:=yT n hn dn hd A M hAM u (w.alloc (.cells #[Bf] 4)) ((bkk bA hA)) ((bA.block _ hMl).trans hM) (h.below bA);clear hA hM h
 go_enter_defers Tryz.func46,Tryz.ntmps46
 go_wp2_with fail
 generalize w.alloc (.cells #[Bf] 4)=wA at bA oA kr⊢;refine ag kr ?_;rintro e w1 ⟨rfl,m1,hB1⟩;have o1:=(hB1.block _ (gl oA) (by omega)).trans oA;have b1:BelR M w.heap.size w w1:=(BelR.of_below bA).trans (hB1.mono bA.size);have q1:=cval o1 0 Bf;have z1:=aj o1 0;have m2:(w1.setCell ⟨w.heap.size,0,none⟩ (.bool true)).heap[M]?=some (.cells (pb n 10 dn) 28 (0,0)):=(aX w1 ⟨w.heap.size,0,none⟩ _ M (by show M≠w.heap.size;omega)).trans m1;have o2:(w1.setCell ⟨w.heap.size,0,none⟩ (.bool true)).cell? ⟨w.heap.size,0,none⟩=some (.bool true):=(ap (show(w1.setCell ⟨w.heap.size,0,none⟩ (.bool true)).heap[w.heap.size]?=some (.cells #[.bool true] 4 (0,0)) from bw (i:=0) (u:=.bool true) o1) 0).trans rfl;have b2:BelR M w.heap.size w (w1.setCell ⟨w.heap.size,0,none⟩ (.bool true)):=⟨b1.os,b1.tape,b1.output,by simpa using b1.size,fun j hj hne=>(aX w1 ⟨w.heap.size,0,none⟩ _ j (by show j≠w.heap.size;omega)).trans (b1.block j hj hne)⟩;obtain⟨M2,B2,O2⟩:=Ch m2 b2 o2;clear kr oA hB1 o1 b1 m1 m2 b2 o2
 go_wp2_with fail
 have o2:=O2.out;clear q1 z1 O2;generalize w1.setCell ⟨w.heap.size,0,none⟩ (.bool true)=wF at o2 M2 B2⊢;refine leaves_cons (f:=98) (args:=#[.pointer (some ⟨w.heap.size,0,none⟩)]) (by simp) (by simp[go_sem]) ?_;refine(pA w.heap.size wF).mono ?_;rintro e u' w3 ⟨rfl,rfl,hw3⟩;rw[hw3]
 simp[Leaves,settle,results,Tryz.results46,go_sem,o2]
 rw[HP.out];exact⟨rfl,M2.out,B2.out⟩
theorem gN(op:Int)(b:Nat)(zs:List Int)(w:World)(hl:zs.length≤1000)(hc:∀j,j<zs.length→w.cell? ⟨b,0+j,none⟩=some (.int .i64 (zs.getD j 0))):
  Calls Tryz.prog 59 #[.int .i64 op,.slice (some ⟨b,0,none⟩) zs.length zs.length] w fun e w'=>e=.returned (.bool (zs.contains op))∧w'=w:=by
 have k:=Tryz.slices_Contains_int b 0 zs.length zs.length zs op w (ah _) (by omega) hc;rw[List.take_of_length_le (ah _)] at k;obtain⟨R,hR⟩:=nmm (zs.contains op);rw[hR] at k⊢;clear hR hc
 go_enter Tryz.func59,Tryz.ntmps59
 go_wp2_with fail
 refine ag k ?_;rintro e w1 ⟨rfl,rfl⟩
 go_wp2_with fail
 go_ret
 exact⟨rfl,rfl⟩
theorem pB(n most:Int)(h0:0≤n)(h1:n≤most)(w:World):Calls Tryz.prog 40 #[.int .i64 n,.int .i64 most] w fun e w'=>e=.returned (.bool true)∧w'=w:=by
 have g1:decide ((0:Int)≤n)=true:=aL h0;have g2:decide (n≤most)=true:=aL h1
 go_enter Tryz.func40,Tryz.ntmps40
 go_wp2_with fail
 go_ret
 exact⟨rfl,rfl⟩
def ez:List Int:=[1,5,7,9,11,13,15,24]
theorem yF(op:Int)(w:World):Cr 93 #[.int .i64 op] w (.bool (ez.contains op)):=by
 have a1:=alz w #[.int .i64 1,.int .i64 5,.int .i64 7,.int .i64 9,.int .i64 11,.int .i64 13,.int .i64 15,.int .i64 24] 3;have b1:=alb w #[.int .i64 1,.int .i64 5,.int .i64 7,.int .i64 9,.int .i64 11,.int .i64 13,.int .i64 15,.int .i64 24] 3;have kc:=gN op w.heap.size [1,5,7,9,11,13,15,24] (w.alloc (.cells #[.int .i64 1,.int .i64 5,.int .i64 7,.int .i64 9,.int .i64 11,.int .i64 13,.int .i64 15,.int .i64 24] 3)) (by simp) (fun j hj=>by
  have h2:j<8:=hj;have hcases:j=0∨j=1∨j=2∨j=3∨j=4∨j=5∨j=6∨j=7:=by omega
  rcases hcases with rfl|rfl|rfl|rfl|rfl|rfl|rfl|rfl
  ·exact(ap a1 0).trans rfl
  ·exact(ap a1 1).trans rfl
  ·exact(ap a1 2).trans rfl
  ·exact(ap a1 3).trans rfl
  ·exact(ap a1 4).trans rfl
  ·exact(ap a1 5).trans rfl
  ·exact(ap a1 6).trans rfl
  ·exact(ap a1 7).trans rfl)
 obtain⟨R,hR⟩:=nmm (([1,5,7,9,11,13,15,24]:List Int).contains op);rw[show ez.contains op=R from hR];rw[hR] at kc;clear hR a1
 go_enter Tryz.func93,Tryz.ntmps93
 go_wp2_with fail
 generalize w.alloc (.cells #[.int .i64 1,.int .i64 5,.int .i64 7,.int .i64 9,.int .i64 11,.int .i64 13,.int .i64 15,.int .i64 24] 3)=w1 at b1 kc⊢;refine ag kc ?_;rintro e w2 ⟨rfl,rfl⟩
 go_wp2_with fail
 go_ret
 exact⟨rfl,b1⟩
structure Mg where
 id:Int:=0
 op:Int:=0
 dn:List UInt8:=[]
 ver:Int:=0
 sasl:Bool:=false
 secret:List UInt8:=[]
 scope:Int:=0
 deref:Int:=0
 size:Int:=0
 time:Int:=0
 types:Bool:=false
 filt:Value:=Sn
 sel:Value:=Sn
 mods:Value:=Sn
 attrs:Value:=Sn
 newRdn:List UInt8:=[]
 newSup:List UInt8:=[]
 delOld:Bool:=false
 hasSup:Bool:=false
 typ:List UInt8:=[]
 value:List UInt8:=[]
 oid:List UInt8:=[]
 has:Bool:=false
 target:Int:=0
 code:Int:=0
 matched:List UInt8:=[]
 text:List UInt8:=[]
 ctl:Value:=Sn
def Mg.row(m:Mg):Array Value:=#[.int .i64 m.id,.int .i64 m.op,.string ⟨m.dn.toArray⟩,.int .i64 m.ver,.bool m.sasl,.string ⟨m.secret.toArray⟩,.int .i64 m.scope,.int .i64 m.deref,.int .i64 m.size,.int .i64 m.time,.bool m.types,m.filt,m.sel,m.mods,m.attrs,.string ⟨m.newRdn.toArray⟩,.string ⟨m.newSup.toArray⟩,.bool m.delOld,.bool m.hasSup,.string ⟨m.typ.toArray⟩,.string ⟨m.value.toArray⟩,.string ⟨m.oid.toArray⟩,.bool m.has,.int .i64 m.target,.int .i64 m.code,.string ⟨m.matched.toArray⟩,.string ⟨m.text.toArray⟩,m.ctl]
def Mg.pv(m:Mg):Array Value:=#[.iface 3 (.int .i64 m.ver),.iface 9 (.string ⟨m.dn.toArray⟩),.iface 4 (.bool m.sasl),.iface 9 (.string ⟨m.secret.toArray⟩),.iface 3 (.int .i64 m.scope),.iface 3 (.int .i64 m.deref),.iface 3 (.int .i64 m.size),.iface 3 (.int .i64 m.time),.iface 4 (.bool m.types),.iface 118 (.agg #[.string ⟨m.newRdn.toArray⟩,.string ⟨m.newSup.toArray⟩,.string ⟨m.typ.toArray⟩]),.iface 119 (.agg #[.bool m.delOld,.bool m.hasSup]),.iface 120 (.agg #[.string ⟨m.value.toArray⟩,.string ⟨m.oid.toArray⟩]),.iface 4 (.bool m.has),.iface 3 (.int .i64 m.target),.iface 3 (.int .i64 m.code),.iface 120 (.agg #[.string ⟨m.matched.toArray⟩,.string ⟨m.text.toArray⟩])]
theorem lK(m:Mg)(w:World):Cr 41 #[.agg m.row] w (.agg m.pv):=by
 generalize hA:m.row=A;have HA:=hid hA;clear hA;obtain⟨P,hP⟩:=nmm m.pv;have hP1:(#[.iface 3 (.int .i64 m.ver),.iface 9 (.string ⟨m.dn.toArray⟩),.iface 4 (.bool m.sasl),.iface 9 (.string ⟨m.secret.toArray⟩),.iface 3 (.int .i64 m.scope),.iface 3 (.int .i64 m.deref),.iface 3 (.int .i64 m.size),.iface 3 (.int .i64 m.time),.iface 4 (.bool m.types),.iface 118 (.agg #[.string ⟨m.newRdn.toArray⟩,.string ⟨m.newSup.toArray⟩,.string ⟨m.typ.toArray⟩]),.iface 119 (.agg #[.bool m.delOld,.bool m.hasSup]),.iface 120 (.agg #[.string ⟨m.value.toArray⟩,.string ⟨m.oid.toArray⟩]),.iface 4 (.bool m.has),.iface 3 (.int .i64 m.target),.iface 3 (.int .i64 m.code),.iface 120 (.agg #[.string ⟨m.matched.toArray⟩,.string ⟨m.text.toArray⟩])]:Array Value)=P:=hP;have hP2:P.size=16:=by rw[←hP];rfl
 have hP3:P.all (·.oneCell')=true:=by rw[←hP];simp[Mg.pv,Value.oneCell']
 rw[hP];obtain⟨HP1,HP2,HP3⟩:=Ch hP1 hP2 hP3;clear hP hP1 hP2 hP3;have b1:Below w.heap.size w ((w.alloc (.cells A 28)).alloc (.cells #[.nilIface,.nilIface,.nilIface,.nilIface,.nilIface,.nilIface,.nilIface,.nilIface,.nilIface,.nilIface,.nilIface,.nilIface,.nilIface,.nilIface,.nilIface,.nilIface] 73)):=((ar _ _).alloc (ah _) _).alloc (by simp) _;have m1:((w.alloc (.cells A 28)).alloc (.cells #[.nilIface,.nilIface,.nilIface,.nilIface,.nilIface,.nilIface,.nilIface,.nilIface,.nilIface,.nilIface,.nilIface,.nilIface,.nilIface,.nilIface,.nilIface,.nilIface] 73)).heap[w.heap.size]?=some (.cells A 28 (0,0)):=(alloc_old _ _ _ (by simp)).trans (bi _ _ _ rfl);have t1:((w.alloc (.cells A 28)).alloc (.cells #[.nilIface,.nilIface,.nilIface,.nilIface,.nilIface,.nilIface,.nilIface,.nilIface,.nilIface,.nilIface,.nilIface,.nilIface,.nilIface,.nilIface,.nilIface,.nilIface] 73)).heap[w.heap.size+1]?=some (.cells #[.nilIface,.nilIface,.nilIface,.nilIface,.nilIface,.nilIface,.nilIface,.nilIface,.nilIface,.nilIface,.nilIface,.nilIface,.nilIface,.nilIface,.nilIface,.nilIface] 73 (0,0)):=bi _ _ _ (by simp)
 go_enter Tryz.func41,Tryz.ntmps41
 refine wp_seq ?_;refine aQ ?_
 iterate 2 (refine aB rfl (kkn ?_))
 generalize((w.alloc (.cells A 28)).alloc (.cells #[.nilIface,.nilIface,.nilIface,.nilIface,.nilIface,.nilIface,.nilIface,.nilIface,.nilIface,.nilIface,.nilIface,.nilIface,.nilIface,.nilIface,.nilIface,.nilIface] 73))=w1 at b1 m1 t1⊢;have q3:w1.cell? ⟨w.heap.size,3,none⟩=some (.int .i64 m.ver):=(ap m1 3).trans (by rw[←HA.out];rfl);have q2:w1.cell? ⟨w.heap.size,2,none⟩=some (.string ⟨m.dn.toArray⟩):=(ap m1 2).trans (by rw[←HA.out];rfl);have q4:w1.cell? ⟨w.heap.size,4,none⟩=some (.bool m.sasl):=(ap m1 4).trans (by rw[←HA.out];rfl);have q5:w1.cell? ⟨w.heap.size,5,none⟩=some (.string ⟨m.secret.toArray⟩):=(ap m1 5).trans (by rw[←HA.out];rfl);have q6:w1.cell? ⟨w.heap.size,6,none⟩=some (.int .i64 m.scope):=(ap m1 6).trans (by rw[←HA.out];rfl);have q7:w1.cell? ⟨w.heap.size,7,none⟩=some (.int .i64 m.deref):=(ap m1 7).trans (by rw[←HA.out];rfl);have q8:w1.cell? ⟨w.heap.size,8,none⟩=some (.int .i64 m.size):=(ap m1 8).trans (by rw[←HA.out];rfl);have q9:w1.cell? ⟨w.heap.size,9,none⟩=some (.int .i64 m.time):=(ap m1 9).trans (by rw[←HA.out];rfl);have q10:w1.cell? ⟨w.heap.size,10,none⟩=some (.bool m.types):=(ap m1 10).trans (by rw[←HA.out];rfl);have q15:w1.cell? ⟨w.heap.size,15,none⟩=some (.string ⟨m.newRdn.toArray⟩):=(ap m1 15).trans (by rw[←HA.out];rfl);have q16:w1.cell? ⟨w.heap.size,16,none⟩=some (.string ⟨m.newSup.toArray⟩):=(ap m1 16).trans (by rw[←HA.out];rfl);have q19:w1.cell? ⟨w.heap.size,19,none⟩=some (.string ⟨m.typ.toArray⟩):=(ap m1 19).trans (by rw[←HA.out];rfl);have q17:w1.cell? ⟨w.heap.size,17,none⟩=some (.bool m.delOld):=(ap m1 17).trans (by rw[←HA.out];rfl);have q18:w1.cell? ⟨w.heap.size,18,none⟩=some (.bool m.hasSup):=(ap m1 18).trans (by rw[←HA.out];rfl);have q20:w1.cell? ⟨w.heap.size,20,none⟩=some (.string ⟨m.value.toArray⟩):=(ap m1 20).trans (by rw[←HA.out];rfl);have q21:w1.cell? ⟨w.heap.size,21,none⟩=some (.string ⟨m.oid.toArray⟩):=(ap m1 21).trans (by rw[←HA.out];rfl);have q22:w1.cell? ⟨w.heap.size,22,none⟩=some (.bool m.has):=(ap m1 22).trans (by rw[←HA.out];rfl);have q23:w1.cell? ⟨w.heap.size,23,none⟩=some (.int .i64 m.target):=(ap m1 23).trans (by rw[←HA.out];rfl);have q24:w1.cell? ⟨w.heap.size,24,none⟩=some (.int .i64 m.code):=(ap m1 24).trans (by rw[←HA.out];rfl);have q25:w1.cell? ⟨w.heap.size,25,none⟩=some (.string ⟨m.matched.toArray⟩):=(ap m1 25).trans (by rw[←HA.out];rfl);have q26:w1.cell? ⟨w.heap.size,26,none⟩=some (.string ⟨m.text.toArray⟩):=(ap m1 26).trans (by rw[←HA.out];rfl);clear m1
 go_upto_region 1 with fail
 refine aQ ?_
 iterate 62 (refine aB rfl (kkn ?_))
 clear q3 q2 q4 q5 q6 q7 q8 q9 q10 q15 q16 q19 q17 q18 q20 q21 q22 q23 q24 q25 q26;refine aB rfl fun K hK=>?_
 go_simp;rw[HP1.out];refine hK _ _ ?_;clear hK K
 have b2:=bm b1 (g:=w.heap.size+1) (by omega) P;have t2:=setRow_heap w1 (w.heap.size+1) _ P _ _ t1;refine bh rfl 73 (.tmp 2) (.tmp 65) rfl (w.heap.size+1) 73 _ P (by rfl) (by rfl) t1 (by rw[HP2.out];rfl) (by rw[HP2.out];rfl) HP3.out ?_;generalize w1.setRow (w.heap.size+1) P=w2 at b2 t2⊢;clear b1 t1;go_simp
 go_wp2_with fail
 refine aH (v:=.agg P) ?_ rfl ⟨rfl,b2⟩;have hr:=aJ (P:=Tryz.prog) w2 (w.heap.size+1) 73 73 P (0,0) (.array 16 20) t2 (show Tryz.prog.underlying 73=_ from by rfl) (by rfl) (by rw[HP2.out];rfl)
 simp[results,Tryz.f41]
 exact hr
section
variable {P:Program} (w:World)
theorem mP(d:Nat)(e:TypeId)(c:Nat)(xs:Array Value):∀is:List Nat,(∀i,i∈is→∃x,(part e xs (i*c)).run P w=.ok x w∧(Op.equalIn d e x x).run P w=.ok true w)→(Op.eqItems d e c xs xs is).run P w=.ok true w
 |[],_=>by simp[Op.eqItems]
 |i::is,h=>by
  obtain⟨x,h1,h2⟩:=h i (by simp);have ih:=mP d e c xs is (fun j hj=>h j (List.mem_cons_of_mem _ hj))
  simp[Op.eqItems,h1,h2,ih]
theorem tD(d:Nat){t tx:TypeId}{v:Value}{ms:Array (String×TypeId)}{i:TypeInfo}(hu:P.underlying t=some (.interface ms))(hi:P.info? tx=some i)(hc:i.comparable=true)(h:(Op.equalIn d tx v v).run P w=.ok true w):
  (Op.equalIn (d+1) t (.iface tx v) (.iface tx v)).run P w=.ok true w:=by
 simp[Op.equalIn,run_underlying hu,typeInfo,hi,hc,h]
theorem bv{e:TypeId}{xs:Array Value}{off:Nat}{v:Value}{k:TypeDesc}(hu:P.underlying e=some k)(hk:(match k with| .struct _| .array _ _=>false|_=>true)=true)(hx:xs[off]?=some v):(part e xs off).run P w=.ok v w:=by
 cases k<;>simp at hk<;>simp[part,isAgg,run_underlying hu,hx]
end
theorem bX(t:TypeId)(ht:t=3∨t=9∨t=4∨t=118∨t=120∨t=119):∃i,Tryz.prog.info? t=some i∧i.comparable=true:=by
 rcases ht with rfl|rfl|rfl|rfl|rfl|rfl
 all_goals exact⟨_,rfl,rfl⟩
theorem oz(args:Array Value)(w:World):(callFunc 116 args).run Tryz.prog w=.ok (.enter 116 args) w:=by go_simp
theorem sp(N:Nat)(hN:jw N)(A:Array Value)(hsz:A.size=28)(el:El)(hs:SmE el)(hz:bK el≤N)(w:World)
  (hval:∀w',Below w.heap.size w w'→Calls Tryz.prog 14 #[.agg A] w' fun e w''=>e=.returned (.bool true)∧Below w'.heap.size w' w'')
  (hel:∀w',Below w.heap.size w w'→Calls Tryz.prog 31 #[.agg A] w' fun e w''=>(∃u,e=.returned (.agg (elA el u))∧bf (fun g=>w'.heap.size≤g) w'' u el.kids)∧Below w'.heap.size w' w''):
  Cr 12 #[.agg A] w (.tuple #[.string ⟨(dD el).1.toArray⟩,.int .i64 (dD el).2]):=by
 obtain⟨B,hB⟩:=nmm ((dD el).1.toArray);obtain⟨c,hc⟩:=nmm ((dD el).2);have kb:=fun(u:Value) (w:World) (h:bf (fun _=>True) w u el.kids)=>pf N hN el hs hz u w h
 rw[hB,hc] at kb⊢;obtain⟨KB,HZ⟩:=Cg kb hsz;clear kb hB hc hs hz hsz;have b1:=alb w A 28;have m1:=alz w A 28;obtain⟨HV,HE⟩:=Cg hval hel;clear hval hel
 go_enter Tryz.func12,Tryz.ntmps12
 go_upto_region 1 with fail
 generalize w.alloc (.cells A 28)=w1 at b1 m1⊢;have kv:=HV.out w1 b1
 go_wp2_with (refine bg rfl 28 (.tmp 1) rfl w.heap.size 28 _ (0,0) (by rfl) m1 _ Tryz.underlying28 rfl (by rw[HZ.out];rfl) ?_)
 refine ag kv ?_;rintro e w2 ⟨rfl,hb⟩;have m2:=bkk hb m1;have b2:=btt b1 hb;clear kv HV hb m1 b1;have ke:=HE.out w2 b2
 go_wp2_with (refine bg rfl 28 (.tmp 1) rfl w.heap.size 28 _ (0,0) (by rfl) m2 _ Tryz.underlying28 rfl (by rw[HZ.out];rfl) ?_)
 refine ag ke ?_;rintro e w3 ⟨⟨u,rfl,hu⟩,hb⟩;have b3:=btt b2 hb;clear ke HE hb m2 b2;have kb:=KB.out u w3 (hu.mono fun _ _ _=>trivial);clear KB hu
 go_wp2_with fail
 refine ag kb ?_;rintro e w4 ⟨rfl,hb⟩;have b4:=btt b3 hb;clear kb hb b3
 go_wp2_with fail
 refine aH (v:=.tuple #[.string ⟨B⟩,.int .i64 c]) ?_ rfl ⟨rfl,b4⟩
 simp[results,Tryz.f12]
theorem qW(b:Nat)(A:Array Value)(dn:List UInt8)(w:World)(hb:w.heap[b]?=some (.cells A 28 (0,0)))(h2:A[2]?=some (.string ⟨dn.toArray⟩)):
  Cr 123 #[.pointer (some ⟨b,0,none⟩)] w (.agg (elA (.mk 0 4 false dn []) (Sn))):=by
 have b1:=alb w Ze 45;have t1:=alz w Ze 45;have m1:=bkk b1 hb;have q2:=(ap m1 2).trans h2;have ks:=bz dn (w.alloc (.cells Ze 45));clear hb h2 m1
 go_enter Tryz.func123,Tryz.ntmps123
 go_wp2_with fail
 generalize w.alloc (.cells Ze 45)=w1 at b1 t1 q2 ks⊢;refine ag ks ?_;rintro e w2 ⟨rfl,hb2⟩;have t2:=bkk hb2 t1;have b2:=btt b1 hb2;clear ks q2 t1 b1 hb2;obtain⟨E,hE⟩:=nmm (elA (.mk 0 4 false dn []) (Sn));have hE1:E.all (·.oneCell')=true:=by rw[←hE];simp[elA,Value.oneCell']
 have hE2:E.size=5:=by rw[←hE];rfl
 rw[hE];have b3:=bm b2 (g:=w.heap.size) (ah _) E;have t3:=setRow_heap w2 w.heap.size _ E _ _ t2;obtain⟨HE,HE1,HE2⟩:=Ch hE hE1 hE2;clear hE hE1 hE2
 go_wp2_with (refine bh rfl 45 (.tmp 1) (.tmp 4) rfl w.heap.size 45 _ E (by rfl) (by rfl) t2 (by rw[HE2.out];rfl) (by rw[HE2.out];rfl) HE1.out ?_)
 refine aH (v:=.agg E) ?_ rfl ⟨by rw[HE.out],b3⟩;have hr:=aJ (P:=Tryz.prog) (w2.setRow w.heap.size E) w.heap.size 45 45 E (0,0) _ t3 (show Tryz.prog.underlying 45=_ from Tryz.underlying45) (by rfl) (by rw[HE2.out];rfl)
 simp[results,Tryz.f123]
 exact hr
theorem Cd(args:Array Value)(w:World):(callFunc 123 args).run Tryz.prog w=.ok (.enter 123 args) w:=by go_simp
theorem pR(A:Array Value)(n:Nat)(mt tx:List UInt8)(w:World)(h24:A[24]?=some (.int .i64 (n:Int)))(h25:A[25]?=some (.string ⟨mt.toArray⟩))(h26:A[26]?=some (.string ⟨tx.toArray⟩))(h21:A[21]?=some (.string ⟨#[]⟩))(h22:A[22]?=some (.bool false))(hn:n≤2147483647):
  Calls Tryz.prog 127 #[.agg A] w fun e w'=>(∃v,e=.returned v∧bJ w.heap.size w' v [.mk 0 10 false (sgB n) [],.mk 0 4 false mt [],.mk 0 4 false tx []])∧Below w.heap.size w w':=by
 have b1:=alb w A 28;have m1:=alz w A 28;obtain⟨G24,G25,G26,G21,G22⟩:=Cj h24 h25 h26 h21 h22;clear h24 h25 h26 h21 h22
 go_enter Tryz.func127,Tryz.ntmps127
 go_upto_region 1 with fail
 generalize w.alloc (.cells A 28)=w1 at b1 m1⊢;refine aR (S:=fun w'=>w'.heap[w.heap.size]?=some (.cells A 28 (0,0))) (by kernel_rfl) ?_;have T:w1.drew.heap[w.heap.size]?=some (.cells A 28 (0,0)):=m1;have D:Below w.heap.size w w1.drew:=b1.drew
 change wpAnyH _ _ _ _ _ _ _ _ w1.drew
 clear m1 b1;generalize w1.drew=w2 at T D⊢;refine tp 0 ⟨w.heap.size,24,none⟩ rfl T ?_;refine tn 1 (.int .i64 (n:Int)) rfl (fun w' hS=>by have q:=(ap hS 24).trans G24.out;go_simp) T ?_;refine tp 3 ⟨w.heap.size,25,none⟩ rfl T ?_;refine tn 4 (.string ⟨mt.toArray⟩) rfl (fun w' hS=>by have q:=(ap hS 25).trans G25.out;go_simp) T ?_;refine tp 6 ⟨w.heap.size,26,none⟩ rfl T ?_;refine tn 7 (.string ⟨tx.toArray⟩) rfl (fun w' hS=>by have q:=(ap hS 26).trans G26.out;go_simp) T ?_;have kc:=eO 10 n hn w2;refine ao 2 rfl (fun K hK=>?_);go_simp;go_wp2_with fail
 refine ag kc ?_;rintro e w3 ⟨rfl,hb⟩;have T9:=bkk hb T;have D9:=btt D hb;clear kc hb T D;have T:=T9;have D:=D9;clear T9 D9;refine hK _ _ T ?_;clear hK K
 have kc:=bz mt w3;refine ao 5 rfl (fun K hK=>?_);go_simp;go_wp2_with fail
 refine ag kc ?_;rintro e w4 ⟨rfl,hb⟩;have T9:=bkk hb T;have D9:=btt D hb;clear kc hb T D;have T:=T9;have D:=D9;clear T9 D9;refine hK _ _ T ?_;clear hK K
 have kc:=bz tx w4;refine ao 8 rfl (fun K hK=>?_);go_simp;go_wp2_with fail
 refine ag kc ?_;rintro e w5 ⟨rfl,hb⟩;have T9:=bkk hb T;have D9:=btt D hb;clear kc hb T D;have T:=T9;have D:=D9;clear T9 D9;refine hK _ _ T ?_;clear hK K
 simp only[elA,El.cls,El.tag,El.cons,El.bytes];have hb:=alb w5 #[I0,.int .i64 10,Bf,.string ⟨((sgB n)).toArray⟩,Sn,I0,.int .i64 4,Bf,.string ⟨mt.toArray⟩,Sn,I0,.int .i64 4,Bf,.string ⟨tx.toArray⟩,Sn] 45;have x:=alz w5 #[I0,.int .i64 10,Bf,.string ⟨((sgB n)).toArray⟩,Sn,I0,.int .i64 4,Bf,.string ⟨mt.toArray⟩,Sn,I0,.int .i64 4,Bf,.string ⟨tx.toArray⟩,Sn] 45;have z:w.heap.size+1≤w5.heap.size:=(gl T);have o6:bJ (w.heap.size+1) (w5.alloc (.cells #[I0,.int .i64 10,Bf,.string ⟨((sgB n)).toArray⟩,Sn,I0,.int .i64 4,Bf,.string ⟨mt.toArray⟩,Sn,I0,.int .i64 4,Bf,.string ⟨tx.toArray⟩,Sn] 45)) (.slice (some ⟨w5.heap.size,0,none⟩) 3 3) [.mk 0 10 false (sgB n) [],.mk 0 4 false mt [],.mk 0 4 false tx []]:=
  bJ.flat (l:=[.mk 0 10 false (sgB n) [],.mk 0 4 false mt [],.mk 0 4 false tx []]) (us:=[Sn,Sn,Sn]) x (by simp[cx,El.cls,El.tag,El.cons,El.bytes]) rfl z (by simp) (fun j e u q1 q2=>by
   have h3:j=0∨j=1∨j=2:=by have h9:=(List.getElem?_eq_some_iff.1 q1).1;simp at h9;omega
   rcases h3 with rfl|rfl|rfl
   all_goals (simp at q1 q2;subst q1;subst q2;exact bf.no _ _ _ _))
 have T9:=bkk hb T;have D9:=btt D hb;clear hb x z T D;refine ao 9 rfl (kks T9 ?_);generalize(w5.alloc (.cells #[I0,.int .i64 10,Bf,.string ⟨((sgB n)).toArray⟩,Sn,I0,.int .i64 4,Bf,.string ⟨mt.toArray⟩,Sn,I0,.int .i64 4,Bf,.string ⟨tx.toArray⟩,Sn] 45))=w6 at T9 D9 o6⊢;generalize w5.heap.size=y at o6⊢;refine ao 10 rfl (kks T9 ?_);refine bE (by kernel_rfl) ?_ _;simp only[Exit.then];refine‹∀(a:Act) (w:World),Code.wp _ _ _ a w→_› _ _ ?_;have m6:=T9;have b6:=D9;clear T9 D9;have q21:=(ap m6 21).trans G21.out
 go_upto_region 4 with fail
 clear q21;have q22:=(ap m6 22).trans G22.out;have O:=hid o6;clear o6
 go_wp2_with fail
 go_ret
 exact⟨⟨_,rfl,O.out.mono (by omega)⟩,b6⟩
theorem pS(A:Array Value)(n:Nat)(mt tx val:List UInt8)(w:World)(h24:A[24]?=some (.int .i64 (n:Int)))(h25:A[25]?=some (.string ⟨mt.toArray⟩))(h26:A[26]?=some (.string ⟨tx.toArray⟩))(h21:A[21]?=some (.string ⟨#[]⟩))(h22:A[22]?=some (.bool true))(h20:A[20]?=some (.string ⟨val.toArray⟩))(hn:n≤2147483647)(hval:val.length≤1000000000):
  Calls Tryz.prog 127 #[.agg A] w fun e w'=>(∃v,e=.returned v∧bJ w.heap.size w' v [.mk 0 10 false (sgB n) [],.mk 0 4 false mt [],.mk 0 4 false tx [],.mk 2 11 false val []])∧Below w.heap.size w w':=by
 have b1:=alb w A 28;have m1:=alz w A 28;obtain⟨G24,G25,G26,G21,G22,G20⟩:=Cy h24 h25 h26 h21 h22 h20;clear h24 h25 h26 h21 h22 h20
 go_enter Tryz.func127,Tryz.ntmps127
 go_upto_region 1 with fail
 generalize w.alloc (.cells A 28)=w1 at b1 m1⊢;refine aR (S:=fun w'=>w'.heap[w.heap.size]?=some (.cells A 28 (0,0))) (by kernel_rfl) ?_;have T:w1.drew.heap[w.heap.size]?=some (.cells A 28 (0,0)):=m1;have D:Below w.heap.size w w1.drew:=b1.drew
 change wpAnyH _ _ _ _ _ _ _ _ w1.drew
 clear m1 b1;generalize w1.drew=w2 at T D⊢;refine tp 0 ⟨w.heap.size,24,none⟩ rfl T ?_;refine tn 1 (.int .i64 (n:Int)) rfl (fun w' hS=>by have q:=(ap hS 24).trans G24.out;go_simp) T ?_;refine tp 3 ⟨w.heap.size,25,none⟩ rfl T ?_;refine tn 4 (.string ⟨mt.toArray⟩) rfl (fun w' hS=>by have q:=(ap hS 25).trans G25.out;go_simp) T ?_;refine tp 6 ⟨w.heap.size,26,none⟩ rfl T ?_;refine tn 7 (.string ⟨tx.toArray⟩) rfl (fun w' hS=>by have q:=(ap hS 26).trans G26.out;go_simp) T ?_;have kc:=eO 10 n hn w2;refine ao 2 rfl (fun K hK=>?_);go_simp;go_wp2_with fail
 refine ag kc ?_;rintro e w3 ⟨rfl,hb⟩;have T9:=bkk hb T;have D9:=btt D hb;clear kc hb T D;have T:=T9;have D:=D9;clear T9 D9;refine hK _ _ T ?_;clear hK K
 have kc:=bz mt w3;refine ao 5 rfl (fun K hK=>?_);go_simp;go_wp2_with fail
 refine ag kc ?_;rintro e w4 ⟨rfl,hb⟩;have T9:=bkk hb T;have D9:=btt D hb;clear kc hb T D;have T:=T9;have D:=D9;clear T9 D9;refine hK _ _ T ?_;clear hK K
 have kc:=bz tx w4;refine ao 8 rfl (fun K hK=>?_);go_simp;go_wp2_with fail
 refine ag kc ?_;rintro e w5 ⟨rfl,hb⟩;have T9:=bkk hb T;have D9:=btt D hb;clear kc hb T D;have T:=T9;have D:=D9;clear T9 D9;refine hK _ _ T ?_;clear hK K
 simp only[elA,El.cls,El.tag,El.cons,El.bytes];have hb:=alb w5 #[.int .i64 0,.int .i64 10,.bool false,.string ⟨((sgB n)).toArray⟩,.slice none 0 0,.int .i64 0,.int .i64 4,.bool false,.string ⟨mt.toArray⟩,.slice none 0 0,.int .i64 0,.int .i64 4,.bool false,.string ⟨tx.toArray⟩,.slice none 0 0] 45;have x:=alz w5 #[.int .i64 0,.int .i64 10,.bool false,.string ⟨((sgB n)).toArray⟩,.slice none 0 0,.int .i64 0,.int .i64 4,.bool false,.string ⟨mt.toArray⟩,.slice none 0 0,.int .i64 0,.int .i64 4,.bool false,.string ⟨tx.toArray⟩,.slice none 0 0] 45;have z:w.heap.size+1≤w5.heap.size:=(gl T);have o6:bJ (w.heap.size+1) (w5.alloc (.cells #[.int .i64 0,.int .i64 10,.bool false,.string ⟨((sgB n)).toArray⟩,.slice none 0 0,.int .i64 0,.int .i64 4,.bool false,.string ⟨mt.toArray⟩,.slice none 0 0,.int .i64 0,.int .i64 4,.bool false,.string ⟨tx.toArray⟩,.slice none 0 0] 45)) (.slice (some ⟨w5.heap.size,0,none⟩) 3 3) [.mk 0 10 false (sgB n) [],.mk 0 4 false mt [],.mk 0 4 false tx []]:=
  bJ.flat (l:=[.mk 0 10 false (sgB n) [],.mk 0 4 false mt [],.mk 0 4 false tx []]) (us:=[.slice none 0 0,.slice none 0 0,.slice none 0 0]) x (by simp[cx,El.cls,El.tag,El.cons,El.bytes]) rfl z (by simp) (fun j e u q1 q2=>by
   have h3:j=0∨j=1∨j=2:=by have h9:=(List.getElem?_eq_some_iff.1 q1).1;simp at h9;omega
   rcases h3 with rfl|rfl|rfl
   all_goals (simp at q1 q2;subst q1;subst q2;exact bf.no _ _ _ _))
 have T9:=bkk hb T;have D9:=btt D hb;clear hb x z T D;refine ao 9 rfl (kks T9 ?_);generalize(w5.alloc (.cells #[.int .i64 0,.int .i64 10,.bool false,.string ⟨((sgB n)).toArray⟩,.slice none 0 0,.int .i64 0,.int .i64 4,.bool false,.string ⟨mt.toArray⟩,.slice none 0 0,.int .i64 0,.int .i64 4,.bool false,.string ⟨tx.toArray⟩,.slice none 0 0] 45))=w6 at T9 D9 o6⊢;generalize w5.heap.size=y at o6⊢;refine ao 10 rfl (kks T9 ?_);refine bE (by kernel_rfl) ?_ _;simp only[Exit.then];refine‹∀(a:Act) (w:World),Code.wp _ _ _ a w→_› _ _ ?_;have m6:=T9;have b6:=D9;clear T9 D9;have q21:=(ap m6 21).trans G21.out
 go_upto_region 4 with fail
 clear q21;have q22:=(ap m6 22).trans G22.out
 go_upto_region 5 with fail
 clear q22;have q:=(ap m6 20).trans G20.out;have kc:=bz val w6
 go_wp2_with fail
 refine ag kc ?_;rintro e w7 ⟨rfl,hb⟩;have m7:=bkk hb m6;have b7:=btt b6 hb;have o7:=o6.below hb;clear hb m6 b6 o6 kc q;have kc:=BY (.mk 0 4 false val []) (.slice none 0 0) 11 w7 (bf.nil _ _) (by simp[SmE,SmL];exact hval)
 go_wp2_with fail
 refine ag kc ?_;rintro e w8 ⟨⟨u,rfl,hu⟩,hb⟩;obtain⟨ae8,ce8,rfl⟩:=hu.empty;have m8:=bkk hb m7;have b8:=btt b7 hb;have o8:=o7.below hb;clear hb m7 b7 o7 kc hu;simp only[elA,El.cls,El.tag,El.cons,El.bytes];have hb:=alb w8 #[.int .i64 2,.int .i64 11,.bool false,.string ⟨val.toArray⟩,.slice ae8 0 ce8] 45;have x:(w8.alloc (.cells #[.int .i64 2,.int .i64 11,.bool false,.string ⟨val.toArray⟩,.slice ae8 0 ce8] 45)).heap[w8.heap.size]?=some (.cells (elA (.mk 2 11 false val []) (.slice ae8 0 ce8)) 45 (0,0)):=bi _ _ _ rfl;have m9:=bkk hb m8;have b9:=btt b8 hb;have o9:=o8.below hb;clear hb m8 b8 o8;have hs:=b9.size;have z:=(gl m9);have zm:=(gl m9);obtain⟨M9,B9,O9,X⟩:=Ci m9 b9 o9 x;clear x m9 b9 o9
 go_wp2_with (at_builtin;refine bO rfl (.tmp 26) (.tmp 31) rfl (w.heap.size+1) (.slice (some ⟨y,0,none⟩) 3 3) [.mk 0 10 false (sgB n) [],.mk 0 4 false mt [],.mk 0 4 false tx []] rfl O9.out (.mk 2 11 false val []) ae8 0 ce8 w8.heap.size rfl X.out (bf.no _ _ _ _) (by simp) (by omega) ?_;intro a10 c10 w10 o10 hg;have m10:=(hg.block w.heap.size zm (fun h=>by have:=(O9.out.lt h.symm).1;omega)).trans M9.out;have b10:=B9.out.grown hg hs (fun b hb=>by have:=(O9.out.lt hb).1;omega);clear hg hs z zm X M9 B9 O9;simp only[List.cons_append,List.nil_append,aG,aU,Nat.zero_add,Nat.reduceAdd] at o10⊢)
 have O:=hid o10;clear o10
 go_wp2_with fail
 go_ret
 exact⟨⟨_,rfl,O.out.mono (by omega)⟩,b10⟩
theorem pT(A:Array Value)(n:Nat)(mt tx oid:List UInt8)(w:World)(h24:A[24]?=some (.int .i64 (n:Int)))(h25:A[25]?=some (.string ⟨mt.toArray⟩))(h26:A[26]?=some (.string ⟨tx.toArray⟩))(h21:A[21]?=some (.string ⟨oid.toArray⟩))(h22:A[22]?=some (.bool false))(hn:n≤2147483647)(hne:oid≠[])(hoid:oid.length≤1000000000):
  Calls Tryz.prog 127 #[.agg A] w fun e w'=>(∃v,e=.returned v∧bJ w.heap.size w' v [.mk 0 10 false (sgB n) [],.mk 0 4 false mt [],.mk 0 4 false tx [],.mk 2 10 false oid []])∧Below w.heap.size w w':=by
 have b1:=alb w A 28;have m1:=alz w A 28;have i1:oid.isEmpty=false:=by simpa using hne
 clear hne;obtain⟨G24,G25,G26,G21,G22⟩:=Cj h24 h25 h26 h21 h22;clear h24 h25 h26 h21 h22
 go_enter Tryz.func127,Tryz.ntmps127
 go_upto_region 1 with fail
 generalize w.alloc (.cells A 28)=w1 at b1 m1⊢;refine aR (S:=fun w'=>w'.heap[w.heap.size]?=some (.cells A 28 (0,0))) (by kernel_rfl) ?_;have T:w1.drew.heap[w.heap.size]?=some (.cells A 28 (0,0)):=m1;have D:Below w.heap.size w w1.drew:=b1.drew
 change wpAnyH _ _ _ _ _ _ _ _ w1.drew
 clear m1 b1;generalize w1.drew=w2 at T D⊢;refine tp 0 ⟨w.heap.size,24,none⟩ rfl T ?_;refine tn 1 (.int .i64 (n:Int)) rfl (fun w' hS=>by have q:=(ap hS 24).trans G24.out;go_simp) T ?_;refine tp 3 ⟨w.heap.size,25,none⟩ rfl T ?_;refine tn 4 (.string ⟨mt.toArray⟩) rfl (fun w' hS=>by have q:=(ap hS 25).trans G25.out;go_simp) T ?_;refine tp 6 ⟨w.heap.size,26,none⟩ rfl T ?_;refine tn 7 (.string ⟨tx.toArray⟩) rfl (fun w' hS=>by have q:=(ap hS 26).trans G26.out;go_simp) T ?_;have kc:=eO 10 n hn w2;refine ao 2 rfl (fun K hK=>?_);go_simp;go_wp2_with fail
 refine ag kc ?_;rintro e w3 ⟨rfl,hb⟩;have T9:=bkk hb T;have D9:=btt D hb;clear kc hb T D;have T:=T9;have D:=D9;clear T9 D9;refine hK _ _ T ?_;clear hK K
 have kc:=bz mt w3;refine ao 5 rfl (fun K hK=>?_);go_simp;go_wp2_with fail
 refine ag kc ?_;rintro e w4 ⟨rfl,hb⟩;have T9:=bkk hb T;have D9:=btt D hb;clear kc hb T D;have T:=T9;have D:=D9;clear T9 D9;refine hK _ _ T ?_;clear hK K
 have kc:=bz tx w4;refine ao 8 rfl (fun K hK=>?_);go_simp;go_wp2_with fail
 refine ag kc ?_;rintro e w5 ⟨rfl,hb⟩;have T9:=bkk hb T;have D9:=btt D hb;clear kc hb T D;have T:=T9;have D:=D9;clear T9 D9;refine hK _ _ T ?_;clear hK K
 simp only[elA,El.cls,El.tag,El.cons,El.bytes];have hb:=alb w5 #[.int .i64 0,.int .i64 10,.bool false,.string ⟨((sgB n)).toArray⟩,.slice none 0 0,.int .i64 0,.int .i64 4,.bool false,.string ⟨mt.toArray⟩,.slice none 0 0,.int .i64 0,.int .i64 4,.bool false,.string ⟨tx.toArray⟩,.slice none 0 0] 45;have x:=alz w5 #[.int .i64 0,.int .i64 10,.bool false,.string ⟨((sgB n)).toArray⟩,.slice none 0 0,.int .i64 0,.int .i64 4,.bool false,.string ⟨mt.toArray⟩,.slice none 0 0,.int .i64 0,.int .i64 4,.bool false,.string ⟨tx.toArray⟩,.slice none 0 0] 45;have z:w.heap.size+1≤w5.heap.size:=(gl T);have o6:bJ (w.heap.size+1) (w5.alloc (.cells #[.int .i64 0,.int .i64 10,.bool false,.string ⟨((sgB n)).toArray⟩,.slice none 0 0,.int .i64 0,.int .i64 4,.bool false,.string ⟨mt.toArray⟩,.slice none 0 0,.int .i64 0,.int .i64 4,.bool false,.string ⟨tx.toArray⟩,.slice none 0 0] 45)) (.slice (some ⟨w5.heap.size,0,none⟩) 3 3) [.mk 0 10 false (sgB n) [],.mk 0 4 false mt [],.mk 0 4 false tx []]:=
  bJ.flat (l:=[.mk 0 10 false (sgB n) [],.mk 0 4 false mt [],.mk 0 4 false tx []]) (us:=[.slice none 0 0,.slice none 0 0,.slice none 0 0]) x (by simp[cx,El.cls,El.tag,El.cons,El.bytes]) rfl z (by simp) (fun j e u q1 q2=>by
   have h3:j=0∨j=1∨j=2:=by have h9:=(List.getElem?_eq_some_iff.1 q1).1;simp at h9;omega
   rcases h3 with rfl|rfl|rfl
   all_goals (simp at q1 q2;subst q1;subst q2;exact bf.no _ _ _ _))
 have T9:=bkk hb T;have D9:=btt D hb;clear hb x z T D;refine ao 9 rfl (kks T9 ?_);generalize(w5.alloc (.cells #[.int .i64 0,.int .i64 10,.bool false,.string ⟨((sgB n)).toArray⟩,.slice none 0 0,.int .i64 0,.int .i64 4,.bool false,.string ⟨mt.toArray⟩,.slice none 0 0,.int .i64 0,.int .i64 4,.bool false,.string ⟨tx.toArray⟩,.slice none 0 0] 45))=w6 at T9 D9 o6⊢;generalize w5.heap.size=y at o6⊢;refine ao 10 rfl (kks T9 ?_);refine bE (by kernel_rfl) ?_ _;simp only[Exit.then];refine‹∀(a:Act) (w:World),Code.wp _ _ _ a w→_› _ _ ?_;have m6:=T9;have b6:=D9;clear T9 D9;have q21:=(ap m6 21).trans G21.out
 go_upto_region 3 with fail
 clear q21;have q:=(ap m6 21).trans G21.out;have kc:=bz oid w6
 go_wp2_with fail
 refine ag kc ?_;rintro e w7 ⟨rfl,hb⟩;have m7:=bkk hb m6;have b7:=btt b6 hb;have o7:=o6.below hb;clear hb m6 b6 o6 kc q;have kc:=BY (.mk 0 4 false oid []) (.slice none 0 0) 10 w7 (bf.nil _ _) (by simp[SmE,SmL];exact hoid)
 go_wp2_with fail
 refine ag kc ?_;rintro e w8 ⟨⟨u,rfl,hu⟩,hb⟩;obtain⟨ae8,ce8,rfl⟩:=hu.empty;have m8:=bkk hb m7;have b8:=btt b7 hb;have o8:=o7.below hb;clear hb m7 b7 o7 kc hu;simp only[elA,El.cls,El.tag,El.cons,El.bytes];have hb:=alb w8 #[.int .i64 2,.int .i64 10,.bool false,.string ⟨oid.toArray⟩,.slice ae8 0 ce8] 45;have x:(w8.alloc (.cells #[.int .i64 2,.int .i64 10,.bool false,.string ⟨oid.toArray⟩,.slice ae8 0 ce8] 45)).heap[w8.heap.size]?=some (.cells (elA (.mk 2 10 false oid []) (.slice ae8 0 ce8)) 45 (0,0)):=bi _ _ _ rfl;have m9:=bkk hb m8;have b9:=btt b8 hb;have o9:=o8.below hb;clear hb m8 b8 o8;have hs:=b9.size;have z:=(gl m9);have zm:=(gl m9);obtain⟨M9,B9,O9,X⟩:=Ci m9 b9 o9 x;clear x m9 b9 o9
 go_upto_region 4 with(at_builtin;refine bO rfl (.tmp 17) (.tmp 22) rfl (w.heap.size+1) (.slice (some ⟨y,0,none⟩) 3 3) [.mk 0 10 false (sgB n) [],.mk 0 4 false mt [],.mk 0 4 false tx []] rfl O9.out (.mk 2 10 false oid []) ae8 0 ce8 w8.heap.size rfl X.out (bf.no _ _ _ _) (by simp) (by omega) ?_;intro a10 c10 w10 o10 hg;have m10:=(hg.block w.heap.size zm (fun h=>by have:=(O9.out.lt h.symm).1;omega)).trans M9.out;have b10:=B9.out.grown hg hs (fun b hb=>by have:=(O9.out.lt hb).1;omega);clear hg hs z zm X M9 B9 O9;simp only[List.cons_append,List.nil_append,aG,aU,Nat.zero_add,Nat.reduceAdd] at o10⊢)
 have q22:=(ap m10 22).trans G22.out;have O:=hid o10;clear o10
 go_wp2_with fail
 go_ret
 exact⟨⟨_,rfl,O.out.mono (by omega)⟩,b10⟩
theorem pU(A:Array Value)(n:Nat)(mt tx oid val:List UInt8)(w:World)(h24:A[24]?=some (.int .i64 (n:Int)))(h25:A[25]?=some (.string ⟨mt.toArray⟩))(h26:A[26]?=some (.string ⟨tx.toArray⟩))(h21:A[21]?=some (.string ⟨oid.toArray⟩))(h22:A[22]?=some (.bool true))(h20:A[20]?=some (.string ⟨val.toArray⟩))(hn:n≤2147483647)(hne:oid≠[])(hoid:oid.length≤1000000000)(hval:val.length≤1000000000):
  Calls Tryz.prog 127 #[.agg A] w fun e w'=>(∃v,e=.returned v∧bJ w.heap.size w' v [.mk 0 10 false (sgB n) [],.mk 0 4 false mt [],.mk 0 4 false tx [],.mk 2 10 false oid [],.mk 2 11 false val []])∧Below w.heap.size w w':=by
 have b1:=alb w A 28;have m1:=alz w A 28;have i1:oid.isEmpty=false:=by simpa using hne
 clear hne;obtain⟨G24,G25,G26,G21,G22,G20⟩:=Cy h24 h25 h26 h21 h22 h20;clear h24 h25 h26 h21 h22 h20
 go_enter Tryz.func127,Tryz.ntmps127
 go_upto_region 1 with fail
 generalize w.alloc (.cells A 28)=w1 at b1 m1⊢;refine aR (S:=fun w'=>w'.heap[w.heap.size]?=some (.cells A 28 (0,0))) (by kernel_rfl) ?_;have T:w1.drew.heap[w.heap.size]?=some (.cells A 28 (0,0)):=m1;have D:Below w.heap.size w w1.drew:=b1.drew
 change wpAnyH _ _ _ _ _ _ _ _ w1.drew
 clear m1 b1;generalize w1.drew=w2 at T D⊢;refine tp 0 ⟨w.heap.size,24,none⟩ rfl T ?_;refine tn 1 (.int .i64 (n:Int)) rfl (fun w' hS=>by have q:=(ap hS 24).trans G24.out;go_simp) T ?_;refine tp 3 ⟨w.heap.size,25,none⟩ rfl T ?_;refine tn 4 (.string ⟨mt.toArray⟩) rfl (fun w' hS=>by have q:=(ap hS 25).trans G25.out;go_simp) T ?_;refine tp 6 ⟨w.heap.size,26,none⟩ rfl T ?_;refine tn 7 (.string ⟨tx.toArray⟩) rfl (fun w' hS=>by have q:=(ap hS 26).trans G26.out;go_simp) T ?_;have kc:=eO 10 n hn w2;refine ao 2 rfl (fun K hK=>?_);go_simp;go_wp2_with fail
 refine ag kc ?_;rintro e w3 ⟨rfl,hb⟩;have T9:=bkk hb T;have D9:=btt D hb;clear kc hb T D;have T:=T9;have D:=D9;clear T9 D9;refine hK _ _ T ?_;clear hK K
 have kc:=bz mt w3;refine ao 5 rfl (fun K hK=>?_);go_simp;go_wp2_with fail
 refine ag kc ?_;rintro e w4 ⟨rfl,hb⟩;have T9:=bkk hb T;have D9:=btt D hb;clear kc hb T D;have T:=T9;have D:=D9;clear T9 D9;refine hK _ _ T ?_;clear hK K
 have kc:=bz tx w4;refine ao 8 rfl (fun K hK=>?_);go_simp;go_wp2_with fail
 refine ag kc ?_;rintro e w5 ⟨rfl,hb⟩;have T9:=bkk hb T;have D9:=btt D hb;clear kc hb T D;have T:=T9;have D:=D9;clear T9 D9;refine hK _ _ T ?_;clear hK K
 simp only[elA,El.cls,El.tag,El.cons,El.bytes];have hb:=alb w5 #[.int .i64 0,.int .i64 10,.bool false,.string ⟨((sgB n)).toArray⟩,.slice none 0 0,.int .i64 0,.int .i64 4,.bool false,.string ⟨mt.toArray⟩,.slice none 0 0,.int .i64 0,.int .i64 4,.bool false,.string ⟨tx.toArray⟩,.slice none 0 0] 45;have x:=alz w5 #[.int .i64 0,.int .i64 10,.bool false,.string ⟨((sgB n)).toArray⟩,.slice none 0 0,.int .i64 0,.int .i64 4,.bool false,.string ⟨mt.toArray⟩,.slice none 0 0,.int .i64 0,.int .i64 4,.bool false,.string ⟨tx.toArray⟩,.slice none 0 0] 45;have z:w.heap.size+1≤w5.heap.size:=(gl T);have o6:bJ (w.heap.size+1) (w5.alloc (.cells #[.int .i64 0,.int .i64 10,.bool false,.string ⟨((sgB n)).toArray⟩,.slice none 0 0,.int .i64 0,.int .i64 4,.bool false,.string ⟨mt.toArray⟩,.slice none 0 0,.int .i64 0,.int .i64 4,.bool false,.string ⟨tx.toArray⟩,.slice none 0 0] 45)) (.slice (some ⟨w5.heap.size,0,none⟩) 3 3) [.mk 0 10 false (sgB n) [],.mk 0 4 false mt [],.mk 0 4 false tx []]:=
  bJ.flat (l:=[.mk 0 10 false (sgB n) [],.mk 0 4 false mt [],.mk 0 4 false tx []]) (us:=[.slice none 0 0,.slice none 0 0,.slice none 0 0]) x (by simp[cx,El.cls,El.tag,El.cons,El.bytes]) rfl z (by simp) (fun j e u q1 q2=>by
   have h3:j=0∨j=1∨j=2:=by have h9:=(List.getElem?_eq_some_iff.1 q1).1;simp at h9;omega
   rcases h3 with rfl|rfl|rfl
   all_goals (simp at q1 q2;subst q1;subst q2;exact bf.no _ _ _ _))
 have T9:=bkk hb T;have D9:=btt D hb;clear hb x z T D;refine ao 9 rfl (kks T9 ?_);generalize(w5.alloc (.cells #[.int .i64 0,.int .i64 10,.bool false,.string ⟨((sgB n)).toArray⟩,.slice none 0 0,.int .i64 0,.int .i64 4,.bool false,.string ⟨mt.toArray⟩,.slice none 0 0,.int .i64 0,.int .i64 4,.bool false,.string ⟨tx.toArray⟩,.slice none 0 0] 45))=w6 at T9 D9 o6⊢;generalize w5.heap.size=y at o6⊢;refine ao 10 rfl (kks T9 ?_);refine bE (by kernel_rfl) ?_ _;simp only[Exit.then];refine‹∀(a:Act) (w:World),Code.wp _ _ _ a w→_› _ _ ?_;have m6:=T9;have b6:=D9;clear T9 D9;have q21:=(ap m6 21).trans G21.out
 go_upto_region 3 with fail
 clear q21;have q:=(ap m6 21).trans G21.out;have kc:=bz oid w6
 go_wp2_with fail
 refine ag kc ?_;rintro e w7 ⟨rfl,hb⟩;have m7:=bkk hb m6;have b7:=btt b6 hb;have o7:=o6.below hb;clear hb m6 b6 o6 kc q;have kc:=BY (.mk 0 4 false oid []) (.slice none 0 0) 10 w7 (bf.nil _ _) (by simp[SmE,SmL];exact hoid)
 go_wp2_with fail
 refine ag kc ?_;rintro e w8 ⟨⟨u,rfl,hu⟩,hb⟩;obtain⟨ae8,ce8,rfl⟩:=hu.empty;have m8:=bkk hb m7;have b8:=btt b7 hb;have o8:=o7.below hb;clear hb m7 b7 o7 kc hu;simp only[elA,El.cls,El.tag,El.cons,El.bytes];have hb:=alb w8 #[.int .i64 2,.int .i64 10,.bool false,.string ⟨oid.toArray⟩,.slice ae8 0 ce8] 45;have x:(w8.alloc (.cells #[.int .i64 2,.int .i64 10,.bool false,.string ⟨oid.toArray⟩,.slice ae8 0 ce8] 45)).heap[w8.heap.size]?=some (.cells (elA (.mk 2 10 false oid []) (.slice ae8 0 ce8)) 45 (0,0)):=bi _ _ _ rfl;have m9:=bkk hb m8;have b9:=btt b8 hb;have o9:=o8.below hb;clear hb m8 b8 o8;have hs:=b9.size;have z:=(gl m9);have zm:=(gl m9);obtain⟨M9,B9,O9,X⟩:=Ci m9 b9 o9 x;clear x m9 b9 o9
 go_upto_region 4 with(at_builtin;refine bO rfl (.tmp 17) (.tmp 22) rfl (w.heap.size+1) (.slice (some ⟨y,0,none⟩) 3 3) [.mk 0 10 false (sgB n) [],.mk 0 4 false mt [],.mk 0 4 false tx []] rfl O9.out (.mk 2 10 false oid []) ae8 0 ce8 w8.heap.size rfl X.out (bf.no _ _ _ _) (by simp) (by omega) ?_;intro a10 c10 w10 o10 hg;have m10:=(hg.block w.heap.size zm (fun h=>by have:=(O9.out.lt h.symm).1;omega)).trans M9.out;have b10:=B9.out.grown hg hs (fun b hb=>by have:=(O9.out.lt hb).1;omega);clear hg hs z zm X M9 B9 O9;simp only[List.cons_append,List.nil_append,aG,aU,Nat.zero_add,Nat.reduceAdd] at o10⊢)
 have q22:=(ap m10 22).trans G22.out
 go_upto_region 5 with fail
 clear q22;have q:=(ap m10 20).trans G20.out;have kc:=bz val w10
 go_wp2_with fail
 refine ag kc ?_;rintro e w11 ⟨rfl,hb⟩;have m11:=bkk hb m10;have b11:=btt b10 hb;have o11:=o10.below hb;clear hb m10 b10 o10 kc q;have kc:=BY (.mk 0 4 false val []) (.slice none 0 0) 11 w11 (bf.nil _ _) (by simp[SmE,SmL];exact hval)
 go_wp2_with fail
 refine ag kc ?_;rintro e w12 ⟨⟨u,rfl,hu⟩,hb⟩;obtain⟨ae12,ce12,rfl⟩:=hu.empty;have m12:=bkk hb m11;have b12:=btt b11 hb;have o12:=o11.below hb;clear hb m11 b11 o11 kc hu;simp only[elA,El.cls,El.tag,El.cons,El.bytes];have hb:=alb w12 #[.int .i64 2,.int .i64 11,.bool false,.string ⟨val.toArray⟩,.slice ae12 0 ce12] 45;have x:(w12.alloc (.cells #[.int .i64 2,.int .i64 11,.bool false,.string ⟨val.toArray⟩,.slice ae12 0 ce12] 45)).heap[w12.heap.size]?=some (.cells (elA (.mk 2 11 false val []) (.slice ae12 0 ce12)) 45 (0,0)):=bi _ _ _ rfl;have m13:=bkk hb m12;have b13:=btt b12 hb;have o13:=o12.below hb;clear hb m12 b12 o12;have hs:=b13.size;have z:=(gl m13);have zm:=(gl m13);obtain⟨M13,B13,O13,X⟩:=Ci m13 b13 o13 x;clear x m13 b13 o13
 go_wp2_with (at_builtin;refine bO rfl (.tmp 26) (.tmp 31) rfl (w.heap.size+1) (.slice a10 4 c10) [.mk 0 10 false (sgB n) [],.mk 0 4 false mt [],.mk 0 4 false tx [],.mk 2 10 false oid []] rfl O13.out (.mk 2 11 false val []) ae12 0 ce12 w12.heap.size rfl X.out (bf.no _ _ _ _) (by simp) (by omega) ?_;intro a14 c14 w14 o14 hg;have m14:=(hg.block w.heap.size zm (fun h=>by have:=(O13.out.lt h.symm).1;omega)).trans M13.out;have b14:=B13.out.grown hg hs (fun b hb=>by have:=(O13.out.lt hb).1;omega);clear hg hs z zm X M13 B13 O13;simp only[List.cons_append,List.nil_append,aG,aU,Nat.zero_add,Nat.reduceAdd] at o14⊢)
 have O:=hid o14;clear o14
 go_wp2_with fail
 go_ret
 exact⟨⟨_,rfl,O.out.mono (by omega)⟩,b14⟩
end Go.Proofs.YthjaiigijbjloaaGreatDoor
