/- R9O. -/
import Derived.Test.YthjaiigijbjloaaGreatDoorW12
namespace Go.Proofs.YthjaiigijbjloaaGreatDoor
open Go.RowKit Go.Lib
set_option maxRecDepth 100000
set_option maxHeartbeats 16000000
theorem zT(m:Mg)(_:Ls)(w:World)(hop:m.op=2):Calls Tryz.prog 34 #[.agg m.row] w (FoP w (.mk 1 2 false [] [])):=by
 obtain⟨b0,m0,x0⟩:=B0 w m.row
 go_enter Tryz.func34,Tryz.ntmps34
 go_upto_region 1 with fail
 generalize(w.alloc (.cells m.row 28)).alloc (.cells Ze 45)=w1 at b0 m0 x0⊢;have kc:=dd none 0 0 w1
 go_wp2_with fail
 refine ag kc ?_;rintro e wx ⟨rfl,hb⟩;have OX:=Ca b0 m0 x0 hb;clear kc hb b0 m0 x0
 go_upto_region 2 with fail
 have S:EaS wx.heap.size #[.int .i64 0,.int .i64 16,.bool true,Es,Sn] wx (Sn) [] (wx.alloc (.cells #[.int .i64 0,.int .i64 16,.bool true,Es,Sn] 45)):=EaS.nil (bi _ _ _ rfl) ((ar _ _).alloc (ah _) _) (ah _);generalize wx.alloc (.cells #[.int .i64 0,.int .i64 16,.bool true,Es,Sn] 45)=w2 at S⊢;have o1:w2.cell? ⟨w.heap.size,1,none⟩=some (.int .i64 2):=OX.c S 1 (by rw[←hop];rfl);have kc:=dr [] w2
 go_wp2_with fail
 refine ag kc ?_;rintro e w3 ⟨rfl,hb⟩;replace S:=S.below hb;clear kc hb;generalize w3=w2 at S⊢;have S9:=S.put #[.int .i64 0,.int .i64 4,Bf,Es,Sn]
 go_wp2_with (first
  |(refine bh rfl 45 (.tmp 3) (.tmp 85) rfl wx.heap.size 45 _ #[.int .i64 0,.int .i64 4,Bf,Es,Sn] (by rfl) (by rfl) S.box (by rfl) (by rfl) (by simp[Value.oneCell']) ?_;clear S;generalize w2.setRow wx.heap.size #[.int .i64 0,.int .i64 4,Bf,Es,Sn]=w3 at S9⊢;have d1:w3.cell? ⟨w.heap.size,1,none⟩=some (.int .i64 2):=OX.c S9 1 (by rw[←hop];rfl))
  |(refine bg rfl 45 (.tmp 3) rfl wx.heap.size 45 _ (0,0) (by rfl) S9.box _ Tryz.underlying45 rfl (by rfl) ?_))
 have kc:=l9 0 4 false [] none 0 0 1 2 w3;refine ag kc ?_;rintro e w4 ⟨rfl,hb⟩;obtain⟨x4,hq,hk4,hbq⟩:=B8 OX S9 hb #[.int .i64 1,.int .i64 2,Bf,Es,Sn];clear kc hb S9 d1
 go_wp2_with (refine bh rfl 45 (.tmp 2) (.tmp 237) rfl (w.heap.size+1) 45 _ #[.int .i64 1,.int .i64 2,Bf,Es,Sn] (by rfl) (by rfl) x4 (by rfl) (by rfl) (by simp[Value.oneCell']) ?_)
 all_goals exact le (s:=2) (g:=w.heap.size+1) rfl rfl rfl hq rfl ⟨⟨_,rfl,hk4⟩,hbq⟩
theorem zU(m:Mg)(_:Ls)(w:World)(hop:m.op=10):Calls Tryz.prog 34 #[.agg m.row] w (FoP w (.mk 1 10 false m.dn [])):=by
 obtain⟨b0,m0,x0⟩:=B0 w m.row
 go_enter Tryz.func34,Tryz.ntmps34
 go_upto_region 1 with fail
 generalize(w.alloc (.cells m.row 28)).alloc (.cells Ze 45)=w1 at b0 m0 x0⊢;have kc:=dd none 0 0 w1
 go_wp2_with fail
 refine ag kc ?_;rintro e wx ⟨rfl,hb⟩;have OX:=Ca b0 m0 x0 hb;clear kc hb b0 m0 x0
 go_upto_region 2 with fail
 have S:EaS wx.heap.size #[.int .i64 0,.int .i64 16,.bool true,Es,Sn] wx (Sn) [] (wx.alloc (.cells #[.int .i64 0,.int .i64 16,.bool true,Es,Sn] 45)):=EaS.nil (bi _ _ _ rfl) ((ar _ _).alloc (ah _) _) (ah _);generalize wx.alloc (.cells #[.int .i64 0,.int .i64 16,.bool true,Es,Sn] 45)=w2 at S⊢;have o1:w2.cell? ⟨w.heap.size,1,none⟩=some (.int .i64 10):=OX.c S 1 (by rw[←hop];rfl);have q2:w2.cell? ⟨w.heap.size,2,none⟩=some (.string ⟨m.dn.toArray⟩):=cval (OX.m S.bel) 2 (.string ⟨m.dn.toArray⟩);have kc:=dr m.dn w2
 go_wp2_with fail
 refine ag kc ?_;rintro e w3 ⟨rfl,hb⟩;replace S:=S.below hb;clear kc hb;generalize w3=w2 at S⊢;clear q2;have S9:=S.put #[.int .i64 0,.int .i64 4,Bf,.string ⟨m.dn.toArray⟩,Sn]
 go_wp2_with (first
  |(refine bh rfl 45 (.tmp 3) (.tmp 170) rfl wx.heap.size 45 _ #[.int .i64 0,.int .i64 4,Bf,.string ⟨m.dn.toArray⟩,Sn] (by rfl) (by rfl) S.box (by rfl) (by rfl) (by simp[Value.oneCell']) ?_;clear S;generalize w2.setRow wx.heap.size #[.int .i64 0,.int .i64 4,Bf,.string ⟨m.dn.toArray⟩,Sn]=w3 at S9⊢;have d1:w3.cell? ⟨w.heap.size,1,none⟩=some (.int .i64 10):=OX.c S9 1 (by rw[←hop];rfl))
  |(refine bg rfl 45 (.tmp 3) rfl wx.heap.size 45 _ (0,0) (by rfl) S9.box _ Tryz.underlying45 rfl (by rfl) ?_))
 have kc:=l9 0 4 false m.dn none 0 0 1 10 w3;refine ag kc ?_;rintro e w4 ⟨rfl,hb⟩;obtain⟨x4,hq,hk4,hbq⟩:=B8 OX S9 hb #[.int .i64 1,.int .i64 10,Bf,.string ⟨m.dn.toArray⟩,Sn];clear kc hb S9 d1
 go_wp2_with (refine bh rfl 45 (.tmp 2) (.tmp 237) rfl (w.heap.size+1) 45 _ #[.int .i64 1,.int .i64 10,Bf,.string ⟨m.dn.toArray⟩,Sn] (by rfl) (by rfl) x4 (by rfl) (by rfl) (by simp[Value.oneCell']) ?_)
 all_goals exact le (s:=2) (g:=w.heap.size+1) rfl rfl rfl hq rfl ⟨⟨_,rfl,hk4⟩,hbq⟩
theorem zu(m:Mg)(_:Ls)(w:World)(rtarget:0≤m.target∧m.target≤2147483647)(hop:m.op=16):Calls Tryz.prog 34 #[.agg m.row] w (FoP w (.mk 1 16 false (sgB m.target.toNat) [])):=by
 obtain⟨ntarget,etarget⟩:=nmm m.target.toNat;have htarget:m.target=(ntarget:Int):=by omega
 have btarget:ntarget≤2147483647:=by omega
 rw[etarget];clear rtarget etarget;obtain⟨b0,m0,x0⟩:=B0 w m.row
 go_enter Tryz.func34,Tryz.ntmps34
 go_upto_region 1 with fail
 generalize(w.alloc (.cells m.row 28)).alloc (.cells Ze 45)=w1 at b0 m0 x0⊢;have kc:=dd none 0 0 w1
 go_wp2_with fail
 refine ag kc ?_;rintro e wx ⟨rfl,hb⟩;have OX:=Ca b0 m0 x0 hb;clear kc hb b0 m0 x0
 go_upto_region 2 with fail
 have S:EaS wx.heap.size #[.int .i64 0,.int .i64 16,.bool true,Es,Sn] wx (Sn) [] (wx.alloc (.cells #[.int .i64 0,.int .i64 16,.bool true,Es,Sn] 45)):=EaS.nil (bi _ _ _ rfl) ((ar _ _).alloc (ah _) _) (ah _);generalize wx.alloc (.cells #[.int .i64 0,.int .i64 16,.bool true,Es,Sn] 45)=w2 at S⊢;have o1:w2.cell? ⟨w.heap.size,1,none⟩=some (.int .i64 16):=OX.c S 1 (by rw[←hop];rfl);have q23:w2.cell? ⟨w.heap.size,23,none⟩=some (.int .i64 (ntarget:Int)):=(ap (OX.m S.bel) 23).trans (show m.row[23]?=some (.int .i64 (ntarget:Int):Value) by rw[←htarget];rfl);have kc:=tm ntarget btarget w2
 go_wp2_with fail
 refine ag kc ?_;rintro e w3 ⟨rfl,hb⟩;replace S:=S.below hb;clear kc hb;generalize w3=w2 at S⊢;clear q23;have S9:=S.put #[.int .i64 0,.int .i64 2,Bf,.string ⟨(sgB ntarget).toArray⟩,Sn]
 go_wp2_with (first
  |(refine bh rfl 45 (.tmp 3) (.tmp 214) rfl wx.heap.size 45 _ #[.int .i64 0,.int .i64 2,Bf,.string ⟨(sgB ntarget).toArray⟩,Sn] (by rfl) (by rfl) S.box (by rfl) (by rfl) (by simp[Value.oneCell']) ?_;clear S;generalize w2.setRow wx.heap.size #[.int .i64 0,.int .i64 2,Bf,.string ⟨(sgB ntarget).toArray⟩,Sn]=w3 at S9⊢;have d1:w3.cell? ⟨w.heap.size,1,none⟩=some (.int .i64 16):=OX.c S9 1 (by rw[←hop];rfl))
  |(refine bg rfl 45 (.tmp 3) rfl wx.heap.size 45 _ (0,0) (by rfl) S9.box _ Tryz.underlying45 rfl (by rfl) ?_))
 have kc:=l9 0 2 false (sgB ntarget) none 0 0 1 16 w3;refine ag kc ?_;rintro e w4 ⟨rfl,hb⟩;obtain⟨x4,hq,hk4,hbq⟩:=B8 OX S9 hb #[.int .i64 1,.int .i64 16,Bf,.string ⟨(sgB ntarget).toArray⟩,Sn];clear kc hb S9 d1
 go_wp2_with (refine bh rfl 45 (.tmp 2) (.tmp 237) rfl (w.heap.size+1) 45 _ #[.int .i64 1,.int .i64 16,Bf,.string ⟨(sgB ntarget).toArray⟩,Sn] (by rfl) (by rfl) x4 (by rfl) (by rfl) (by simp[Value.oneCell']) ?_)
 all_goals exact le (s:=2) (g:=w.heap.size+1) rfl rfl rfl hq rfl ⟨⟨_,rfl,hk4⟩,hbq⟩
theorem Ar(m:Mg)(_:Ls)(w:World)(rver:0≤m.ver∧m.ver≤2147483647)(hs:m.sasl=false)(hop:m.op=0):Calls Tryz.prog 34 #[.agg m.row] w (FoP w (.mk 1 0 true [] [.mk 0 2 false (sgB m.ver.toNat) [],.mk 0 4 false m.dn [],.mk 2 0 false m.secret []])):=by
 obtain⟨nver,ever⟩:=nmm m.ver.toNat;have hver:m.ver=(nver:Int):=by omega
 have bver:nver≤2147483647:=by omega
 rw[ever];clear rver ever;obtain⟨b0,m0,x0⟩:=B0 w m.row
 go_enter Tryz.func34,Tryz.ntmps34
 go_upto_region 1 with fail
 generalize(w.alloc (.cells m.row 28)).alloc (.cells Ze 45)=w1 at b0 m0 x0⊢;have kc:=dd none 0 0 w1
 go_wp2_with fail
 refine ag kc ?_;rintro e wx ⟨rfl,hb⟩;have OX:=Ca b0 m0 x0 hb;clear kc hb b0 m0 x0
 go_upto_region 2 with fail
 have S:EaS wx.heap.size #[.int .i64 0,.int .i64 16,.bool true,Es,Sn] wx (Sn) [] (wx.alloc (.cells #[.int .i64 0,.int .i64 16,.bool true,Es,Sn] 45)):=EaS.nil (bi _ _ _ rfl) ((ar _ _).alloc (ah _) _) (ah _);generalize wx.alloc (.cells #[.int .i64 0,.int .i64 16,.bool true,Es,Sn] 45)=w2 at S⊢;have o1:w2.cell? ⟨w.heap.size,1,none⟩=some (.int .i64 0):=OX.c S 1 (by rw[←hop];rfl)
 go_upto_region 9 with fail
 clear o1;refine rg OX S fun w2 hb S=>?_
 clear hb;refine dp OX S 0 3 rfl ?_;refine dp OX S 3 2 rfl ?_;refine dp OX S 6 5 rfl ?_;refine dl OX S 1 3 (.int .i64 (nver:Int)) rfl ?_ (hv:=by rw[←hver];rfl);refine dl OX S 4 2 (.string ⟨m.dn.toArray⟩) rfl ?_;refine dl OX S 7 5 (.string ⟨m.secret.toArray⟩) rfl ?_;refine dc OX S 2 (tm nver bver w2) rfl fun w2 S hb=>?_
 clear hb;refine dc OX S 5 (dr m.dn w2) rfl fun w2 S hb=>?_
 clear hb;refine dc OX S 8 (dr m.secret w2) rfl fun w2 S hb=>?_
 clear hb;refine dc OX S 9 (l7 0 0 4 false m.secret none 0 0 w2) rfl fun w2 S hb=>?_
 clear hb;refine ds OX S 10 [.mk 0 2 false (sgB nver) [],.mk 0 4 false m.dn [],.mk 2 0 false m.secret []] [Sn,Sn,Sn] 3 rfl rfl rfl ⟨bf.nil _ _,bf.nil _ _,bf.nil _ _,trivial⟩ fun bq0 w2 hb S S0_=>?_
 clear hb;refine dc OX S 11 (dd (some ⟨bq0,0,none⟩) 3 3 w2) rfl fun w2 S hb=>?_
 replace S0_:=S0_.below hb;clear hb;refine dw OX S0_ 12 #[.int .i64 0,.int .i64 16,.bool true,Es,.slice (some ⟨bq0,0,none⟩) 3 3] rfl fun w3 S9=>?_
 simp only[Exit.then];refine‹∀(a:Act) (w:World),Code.wp _ _ _ a w→_› _ _ ?_;clear S;clear S0_;have o4:w3.cell? ⟨w.heap.size,4,none⟩=some (Bf):=(ap (OX.m S9.bel) 4).trans (show m.row[4]?=some (.bool false:Value) by rw[←hs];rfl);have d1:w3.cell? ⟨w.heap.size,1,none⟩=some (.int .i64 0):=OX.c S9 1 (by rw[←hop];rfl);have kc:=l9 0 16 true [] (some ⟨bq0,0,none⟩) 3 3 1 0 w3
 go_wp2_with (refine bg rfl 45 (.tmp 3) rfl wx.heap.size 45 _ (0,0) (by rfl) S9.box _ Tryz.underlying45 rfl (by rfl) ?_)
 refine ag kc ?_;rintro e w4 ⟨rfl,hb⟩;obtain⟨x4,hq,hk4,hbq⟩:=B8 OX S9 hb #[.int .i64 1,.int .i64 0,.bool true,Es,.slice (some ⟨bq0,0,none⟩) 3 3];clear kc hb S9 d1
 go_wp2_with (refine bh rfl 45 (.tmp 2) (.tmp 237) rfl (w.heap.size+1) 45 _ #[.int .i64 1,.int .i64 0,.bool true,Es,.slice (some ⟨bq0,0,none⟩) 3 3] (by rfl) (by rfl) x4 (by rfl) (by rfl) (by simp[Value.oneCell']) ?_)
 all_goals exact le (s:=2) (g:=w.heap.size+1) rfl rfl rfl hq rfl ⟨⟨_,rfl,hk4⟩,hbq⟩
theorem As(m:Mg)(_:Ls)(w:World)(rver:0≤m.ver∧m.ver≤2147483647)(hs:m.sasl=true)(hop:m.op=0):Calls Tryz.prog 34 #[.agg m.row] w (FoP w (.mk 1 0 true [] [.mk 0 2 false (sgB m.ver.toNat) [],.mk 0 4 false m.dn [],.mk 2 3 true [] [.mk 0 4 false m.secret []]])):=by
 obtain⟨nver,ever⟩:=nmm m.ver.toNat;have hver:m.ver=(nver:Int):=by omega
 have bver:nver≤2147483647:=by omega
 rw[ever];clear rver ever;obtain⟨b0,m0,x0⟩:=B0 w m.row
 go_enter Tryz.func34,Tryz.ntmps34
 go_upto_region 1 with fail
 generalize(w.alloc (.cells m.row 28)).alloc (.cells Ze 45)=w1 at b0 m0 x0⊢;have kc:=dd none 0 0 w1
 go_wp2_with fail
 refine ag kc ?_;rintro e wx ⟨rfl,hb⟩;have OX:=Ca b0 m0 x0 hb;clear kc hb b0 m0 x0
 go_upto_region 2 with fail
 have S:EaS wx.heap.size #[.int .i64 0,.int .i64 16,.bool true,Es,Sn] wx (Sn) [] (wx.alloc (.cells #[.int .i64 0,.int .i64 16,.bool true,Es,Sn] 45)):=EaS.nil (bi _ _ _ rfl) ((ar _ _).alloc (ah _) _) (ah _);generalize wx.alloc (.cells #[.int .i64 0,.int .i64 16,.bool true,Es,Sn] 45)=w2 at S⊢;have o1:w2.cell? ⟨w.heap.size,1,none⟩=some (.int .i64 0):=OX.c S 1 (by rw[←hop];rfl)
 go_upto_region 9 with fail
 clear o1;refine rg OX S fun w2 hb S=>?_
 clear hb;refine dp OX S 0 3 rfl ?_;refine dp OX S 3 2 rfl ?_;refine dp OX S 6 5 rfl ?_;refine dl OX S 1 3 (.int .i64 (nver:Int)) rfl ?_ (hv:=by rw[←hver];rfl);refine dl OX S 4 2 (.string ⟨m.dn.toArray⟩) rfl ?_;refine dl OX S 7 5 (.string ⟨m.secret.toArray⟩) rfl ?_;refine dc OX S 2 (tm nver bver w2) rfl fun w2 S hb=>?_
 clear hb;refine dc OX S 5 (dr m.dn w2) rfl fun w2 S hb=>?_
 clear hb;refine dc OX S 8 (dr m.secret w2) rfl fun w2 S hb=>?_
 clear hb;refine dc OX S 9 (l7 0 0 4 false m.secret none 0 0 w2) rfl fun w2 S hb=>?_
 clear hb;refine ds OX S 10 [.mk 0 2 false (sgB nver) [],.mk 0 4 false m.dn [],.mk 2 0 false m.secret []] [Sn,Sn,Sn] 3 rfl rfl rfl ⟨bf.nil _ _,bf.nil _ _,bf.nil _ _,trivial⟩ fun bq0 w2 hb S S0_=>?_
 clear hb;refine dc OX S 11 (dd (some ⟨bq0,0,none⟩) 3 3 w2) rfl fun w2 S hb=>?_
 replace S0_:=S0_.below hb;clear hb;refine dw OX S0_ 12 #[.int .i64 0,.int .i64 16,.bool true,Es,.slice (some ⟨bq0,0,none⟩) 3 3] rfl fun w3 S9=>?_
 simp only[Exit.then];refine‹∀(a:Act) (w:World),Code.wp _ _ _ a w→_› _ _ ?_;clear S;clear S0_;have o4:w3.cell? ⟨w.heap.size,4,none⟩=some (.bool true):=(ap (OX.m S9.bel) 4).trans (show m.row[4]?=some (.bool true:Value) by rw[←hs];rfl)
 go_upto_region 11 with fail
 have S:EaS wx.heap.size #[.int .i64 0,.int .i64 16,.bool true,Es,.slice (some ⟨bq0,0,none⟩) 3 3] wx (Sn) [] w3:=EaS.nil S9.box S9.bel S9.lo;clear S9 o4;generalize w3=w2 at S⊢;refine rg OX S fun w2 hb S=>?_
 clear hb;refine dp OX S 0 3 rfl ?_;refine dp OX S 3 2 rfl ?_;refine dp OX S 6 5 rfl ?_;refine dl OX S 1 3 (.int .i64 (nver:Int)) rfl ?_ (hv:=by rw[←hver];rfl);refine dl OX S 4 2 (.string ⟨m.dn.toArray⟩) rfl ?_;refine dl OX S 7 5 (.string ⟨m.secret.toArray⟩) rfl ?_;refine dc OX S 2 (tm nver bver w2) rfl fun w2 S hb=>?_
 clear hb;refine dc OX S 5 (dr m.dn w2) rfl fun w2 S hb=>?_
 clear hb;refine dc OX S 8 (dr m.secret w2) rfl fun w2 S hb=>?_
 clear hb;refine ds OX S 9 [.mk 0 4 false m.secret []] [Sn] 1 rfl rfl rfl ⟨bf.nil _ _,trivial⟩ fun bq5 w2 hb S S5_=>?_
 clear hb;refine dc OX S 10 (dd (some ⟨bq5,0,none⟩) 1 1 w2) rfl fun w2 S hb=>?_
 replace S5_:=S5_.below hb;clear hb;refine dc OX S 11 (l7 3 0 16 true [] (some ⟨bq5,0,none⟩) 1 1 w2) rfl fun w2 S hb=>?_
 replace S5_:=S5_.below hb;clear hb;refine ds OX S 12 [.mk 0 2 false (sgB nver) [],.mk 0 4 false m.dn [],.mk 2 3 true [] [.mk 0 4 false m.secret []]] [Sn,Sn,.slice (some ⟨bq5,0,none⟩) 1 1] 3 rfl rfl rfl ⟨bf.nil _ _,bf.nil _ _,S5_.kids,trivial⟩ fun bq6 w2 hb S S6_=>?_
 replace S5_:=S5_.below hb;clear hb;refine dc OX S 13 (dd (some ⟨bq6,0,none⟩) 3 3 w2) rfl fun w2 S hb=>?_
 replace S5_:=S5_.below hb;replace S6_:=S6_.below hb;clear hb;refine dw OX S6_ 14 #[.int .i64 0,.int .i64 16,.bool true,Es,.slice (some ⟨bq6,0,none⟩) 3 3] rfl fun w3 S9=>?_
 simp only[Exit.inBlock,Exit.then];refine‹∀(a:Act) (w:World),Code.wp _ _ _ a w→_› _ _ ?_;clear S;clear S5_ S6_;have d1:w3.cell? ⟨w.heap.size,1,none⟩=some (.int .i64 0):=OX.c S9 1 (by rw[←hop];rfl);have kc:=l9 0 16 true [] (some ⟨bq6,0,none⟩) 3 3 1 0 w3
 go_wp2_with (refine bg rfl 45 (.tmp 3) rfl wx.heap.size 45 _ (0,0) (by rfl) S9.box _ Tryz.underlying45 rfl (by rfl) ?_)
 refine ag kc ?_;rintro e w4 ⟨rfl,hb⟩;obtain⟨x4,hq,hk4,hbq⟩:=B8 OX S9 hb #[.int .i64 1,.int .i64 0,.bool true,Es,.slice (some ⟨bq6,0,none⟩) 3 3];clear kc hb S9 d1
 go_wp2_with (refine bh rfl 45 (.tmp 2) (.tmp 237) rfl (w.heap.size+1) 45 _ #[.int .i64 1,.int .i64 0,.bool true,Es,.slice (some ⟨bq6,0,none⟩) 3 3] (by rfl) (by rfl) x4 (by rfl) (by rfl) (by simp[Value.oneCell']) ?_)
 all_goals exact le (s:=2) (g:=w.heap.size+1) rfl rfl rfl hq rfl ⟨⟨_,rfl,hk4⟩,hbq⟩
theorem Bp(m:Mg)(l:Ls)(w:World)(hm:MgM w m l)(hk:LsOk m l)(hop:m.op=8):Calls Tryz.prog 34 #[.agg m.row] w (FoP w (.mk 1 8 true [] [.mk 0 4 false m.dn [],.mk 0 16 true [] (l.attrs.map bI)])):=by
 have KA:=hid (fun W (hW:Below w.heap.size w W)=>ya m.attrs l.attrs W (hm.attrs.below hW) hk.attrs);obtain⟨aA,aC,hattrs,_,_⟩:=id hm.attrs;rw[hattrs] at KA;clear hm hk;obtain⟨b0,m0,x0⟩:=B0 w m.row
 go_enter Tryz.func34,Tryz.ntmps34
 go_upto_region 1 with fail
 generalize(w.alloc (.cells m.row 28)).alloc (.cells Ze 45)=w1 at b0 m0 x0⊢;have kc:=dd none 0 0 w1
 go_wp2_with fail
 refine ag kc ?_;rintro e wx ⟨rfl,hb⟩;have OX:=Ca b0 m0 x0 hb;clear kc hb b0 m0 x0
 go_upto_region 2 with fail
 have S:EaS wx.heap.size #[.int .i64 0,.int .i64 16,.bool true,Es,Sn] wx (Sn) [] (wx.alloc (.cells #[.int .i64 0,.int .i64 16,.bool true,Es,Sn] 45)):=EaS.nil (bi _ _ _ rfl) ((ar _ _).alloc (ah _) _) (ah _);generalize wx.alloc (.cells #[.int .i64 0,.int .i64 16,.bool true,Es,Sn] 45)=w2 at S⊢;have o1:w2.cell? ⟨w.heap.size,1,none⟩=some (.int .i64 8):=OX.c S 1 (by rw[←hop];rfl)
 go_upto_region 25 with fail
 clear o1;refine rg OX S fun w2 hb S=>?_
 clear hb;refine dp OX S 0 2 rfl ?_;refine dp OX S 3 14 rfl ?_;refine dl OX S 1 2 (.string ⟨m.dn.toArray⟩) rfl ?_;refine dl OX S 4 14 (.slice aA l.attrs.length aC) rfl ?_ (hv:=by rw[←hattrs];rfl);refine dc OX S 2 (dr m.dn w2) rfl fun w2 S hb=>?_
 clear hb;have T:=OX.m S.bel;have kc:=KA.out w2 (OX.b S.bel);refine ao 5 rfl (fun K hK=>?_);go_simp;go_wp2_with fail
 refine ag kc ?_;rintro e w3 ⟨⟨uS,rfl,hkA⟩,hb⟩;obtain⟨dA,dC,hsh⟩:=hkA.shape;subst hsh;replace hkA:bf (fun k=>wx.heap.size<k) w3 (.slice dA (l.attrs.map bI).length dC) (l.attrs.map bI):=hkA.mono fun k hk _=>by have:=S.glt;omega
 simp only[elA,El.cls,El.tag,El.cons,El.bytes,List.length_map] at hkA⊢;replace S:=S.below hb;clear kc hb;generalize w3=w2 at S hkA⊢;refine hK _ _ (OX.m S.bel) ?_;clear hK K T
 refine ds OX S 6 [.mk 0 4 false m.dn [],.mk 0 16 true [] (l.attrs.map bI)] [Sn,.slice dA l.attrs.length dC] 2 rfl rfl rfl ⟨bf.nil _ _,hkA,trivial⟩ fun bq0 w2 hb S S0_=>?_
 replace hkA:=hkA.below hb;clear hb;refine dc OX S 7 (dd (some ⟨bq0,0,none⟩) 2 2 w2) rfl fun w2 S hb=>?_
 replace hkA:=hkA.below hb;replace S0_:=S0_.below hb;clear hb;refine dw OX S0_ 8 #[.int .i64 0,.int .i64 16,.bool true,Es,.slice (some ⟨bq0,0,none⟩) 2 2] rfl fun w3 S9=>?_
 simp only[Exit.inBlock,Exit.then];refine‹∀(a:Act) (w:World),Code.wp _ _ _ a w→_› _ _ ?_;clear S;clear hkA S0_;have d1:w3.cell? ⟨w.heap.size,1,none⟩=some (.int .i64 8):=OX.c S9 1 (by rw[←hop];rfl);have kc:=l9 0 16 true [] (some ⟨bq0,0,none⟩) 2 2 1 8 w3
 go_wp2_with (refine bg rfl 45 (.tmp 3) rfl wx.heap.size 45 _ (0,0) (by rfl) S9.box _ Tryz.underlying45 rfl (by rfl) ?_)
 refine ag kc ?_;rintro e w4 ⟨rfl,hb⟩;obtain⟨x4,hq,hk4,hbq⟩:=B8 OX S9 hb #[.int .i64 1,.int .i64 8,.bool true,Es,.slice (some ⟨bq0,0,none⟩) 2 2];clear kc hb S9 d1
 go_wp2_with (refine bh rfl 45 (.tmp 2) (.tmp 237) rfl (w.heap.size+1) 45 _ #[.int .i64 1,.int .i64 8,.bool true,Es,.slice (some ⟨bq0,0,none⟩) 2 2] (by rfl) (by rfl) x4 (by rfl) (by rfl) (by simp[Value.oneCell']) ?_)
 all_goals exact le (s:=2) (g:=w.heap.size+1) rfl rfl rfl hq rfl ⟨⟨_,rfl,hk4⟩,hbq⟩
theorem At(m:Mg)(l:Ls)(w:World)(hm:MgM w m l)(hk:LsOk m l)(hop:m.op=4):Calls Tryz.prog 34 #[.agg m.row] w (FoP w (.mk 1 4 true [] [.mk 0 4 false m.dn [],.mk 0 16 true [] (l.attrs.map bI)])):=by
 have KA:=hid (fun W (hW:Below w.heap.size w W)=>ya m.attrs l.attrs W (hm.attrs.below hW) hk.attrs);obtain⟨aA,aC,hattrs,_,_⟩:=id hm.attrs;rw[hattrs] at KA;clear hm hk;obtain⟨b0,m0,x0⟩:=B0 w m.row
 go_enter Tryz.func34,Tryz.ntmps34
 go_upto_region 1 with fail
 generalize(w.alloc (.cells m.row 28)).alloc (.cells Ze 45)=w1 at b0 m0 x0⊢;have kc:=dd none 0 0 w1
 go_wp2_with fail
 refine ag kc ?_;rintro e wx ⟨rfl,hb⟩;have OX:=Ca b0 m0 x0 hb;clear kc hb b0 m0 x0
 go_upto_region 2 with fail
 have S:EaS wx.heap.size #[.int .i64 0,.int .i64 16,.bool true,Es,Sn] wx (Sn) [] (wx.alloc (.cells #[.int .i64 0,.int .i64 16,.bool true,Es,Sn] 45)):=EaS.nil (bi _ _ _ rfl) ((ar _ _).alloc (ah _) _) (ah _);generalize wx.alloc (.cells #[.int .i64 0,.int .i64 16,.bool true,Es,Sn] 45)=w2 at S⊢;have o1:w2.cell? ⟨w.heap.size,1,none⟩=some (.int .i64 4):=OX.c S 1 (by rw[←hop];rfl)
 go_upto_region 25 with fail
 clear o1;refine rg OX S fun w2 hb S=>?_
 clear hb;refine dp OX S 0 2 rfl ?_;refine dp OX S 3 14 rfl ?_;refine dl OX S 1 2 (.string ⟨m.dn.toArray⟩) rfl ?_;refine dl OX S 4 14 (.slice aA l.attrs.length aC) rfl ?_ (hv:=by rw[←hattrs];rfl);refine dc OX S 2 (dr m.dn w2) rfl fun w2 S hb=>?_
 clear hb;have T:=OX.m S.bel;have kc:=KA.out w2 (OX.b S.bel);refine ao 5 rfl (fun K hK=>?_);go_simp;go_wp2_with fail
 refine ag kc ?_;rintro e w3 ⟨⟨uS,rfl,hkA⟩,hb⟩;obtain⟨dA,dC,hsh⟩:=hkA.shape;subst hsh;replace hkA:bf (fun k=>wx.heap.size<k) w3 (.slice dA (l.attrs.map bI).length dC) (l.attrs.map bI):=hkA.mono fun k hk _=>by have:=S.glt;omega
 simp only[elA,El.cls,El.tag,El.cons,El.bytes,List.length_map] at hkA⊢;replace S:=S.below hb;clear kc hb;generalize w3=w2 at S hkA⊢;refine hK _ _ (OX.m S.bel) ?_;clear hK K T
 refine ds OX S 6 [.mk 0 4 false m.dn [],.mk 0 16 true [] (l.attrs.map bI)] [Sn,.slice dA l.attrs.length dC] 2 rfl rfl rfl ⟨bf.nil _ _,hkA,trivial⟩ fun bq0 w2 hb S S0_=>?_
 replace hkA:=hkA.below hb;clear hb;refine dc OX S 7 (dd (some ⟨bq0,0,none⟩) 2 2 w2) rfl fun w2 S hb=>?_
 replace hkA:=hkA.below hb;replace S0_:=S0_.below hb;clear hb;refine dw OX S0_ 8 #[.int .i64 0,.int .i64 16,.bool true,Es,.slice (some ⟨bq0,0,none⟩) 2 2] rfl fun w3 S9=>?_
 simp only[Exit.inBlock,Exit.then];refine‹∀(a:Act) (w:World),Code.wp _ _ _ a w→_› _ _ ?_;clear S;clear hkA S0_;have d1:w3.cell? ⟨w.heap.size,1,none⟩=some (.int .i64 4):=OX.c S9 1 (by rw[←hop];rfl);have kc:=l9 0 16 true [] (some ⟨bq0,0,none⟩) 2 2 1 4 w3
 go_wp2_with (refine bg rfl 45 (.tmp 3) rfl wx.heap.size 45 _ (0,0) (by rfl) S9.box _ Tryz.underlying45 rfl (by rfl) ?_)
 refine ag kc ?_;rintro e w4 ⟨rfl,hb⟩;obtain⟨x4,hq,hk4,hbq⟩:=B8 OX S9 hb #[.int .i64 1,.int .i64 4,.bool true,Es,.slice (some ⟨bq0,0,none⟩) 2 2];clear kc hb S9 d1
 go_wp2_with (refine bh rfl 45 (.tmp 2) (.tmp 237) rfl (w.heap.size+1) 45 _ #[.int .i64 1,.int .i64 4,.bool true,Es,.slice (some ⟨bq0,0,none⟩) 2 2] (by rfl) (by rfl) x4 (by rfl) (by rfl) (by simp[Value.oneCell']) ?_)
 all_goals exact le (s:=2) (g:=w.heap.size+1) rfl rfl rfl hq rfl ⟨⟨_,rfl,hk4⟩,hbq⟩
theorem zv(m:Mg)(_:Ls)(w:World)(hop:m.op=14):Calls Tryz.prog 34 #[.agg m.row] w (FoP w (.mk 1 14 true [] [.mk 0 4 false m.dn [],.mk 0 16 true [] [.mk 0 4 false m.typ [],.mk 0 4 false m.value []]])):=by
 obtain⟨b0,m0,x0⟩:=B0 w m.row
 go_enter Tryz.func34,Tryz.ntmps34
 go_upto_region 1 with fail
 generalize(w.alloc (.cells m.row 28)).alloc (.cells Ze 45)=w1 at b0 m0 x0⊢;have kc:=dd none 0 0 w1
 go_wp2_with fail
 refine ag kc ?_;rintro e wx ⟨rfl,hb⟩;have OX:=Ca b0 m0 x0 hb;clear kc hb b0 m0 x0
 go_upto_region 2 with fail
 have S:EaS wx.heap.size #[.int .i64 0,.int .i64 16,.bool true,Es,Sn] wx (Sn) [] (wx.alloc (.cells #[.int .i64 0,.int .i64 16,.bool true,Es,Sn] 45)):=EaS.nil (bi _ _ _ rfl) ((ar _ _).alloc (ah _) _) (ah _);generalize wx.alloc (.cells #[.int .i64 0,.int .i64 16,.bool true,Es,Sn] 45)=w2 at S⊢;have o1:w2.cell? ⟨w.heap.size,1,none⟩=some (.int .i64 14):=OX.c S 1 (by rw[←hop];rfl)
 go_upto_region 33 with fail
 clear o1;refine rg OX S fun w2 hb S=>?_
 clear hb;refine dp OX S 0 2 rfl ?_;refine dp OX S 3 19 rfl ?_;refine dp OX S 6 20 rfl ?_;refine dl OX S 1 2 (.string ⟨m.dn.toArray⟩) rfl ?_;refine dl OX S 4 19 (.string ⟨m.typ.toArray⟩) rfl ?_;refine dl OX S 7 20 (.string ⟨m.value.toArray⟩) rfl ?_;refine dc OX S 2 (dr m.dn w2) rfl fun w2 S hb=>?_
 clear hb;refine dc OX S 5 (dr m.typ w2) rfl fun w2 S hb=>?_
 clear hb;refine dc OX S 8 (dr m.value w2) rfl fun w2 S hb=>?_
 clear hb;refine ds OX S 9 [.mk 0 4 false m.typ [],.mk 0 4 false m.value []] [Sn,Sn] 2 rfl rfl rfl ⟨bf.nil _ _,bf.nil _ _,trivial⟩ fun bq0 w2 hb S S0_=>?_
 clear hb;refine dc OX S 10 (dd (some ⟨bq0,0,none⟩) 2 2 w2) rfl fun w2 S hb=>?_
 replace S0_:=S0_.below hb;clear hb;refine ds OX S 11 [.mk 0 4 false m.dn [],.mk 0 16 true [] [.mk 0 4 false m.typ [],.mk 0 4 false m.value []]] [Sn,.slice (some ⟨bq0,0,none⟩) 2 2] 2 rfl rfl rfl ⟨bf.nil _ _,S0_.kids,trivial⟩ fun bq1 w2 hb S S1_=>?_
 replace S0_:=S0_.below hb;clear hb;refine dc OX S 12 (dd (some ⟨bq1,0,none⟩) 2 2 w2) rfl fun w2 S hb=>?_
 replace S0_:=S0_.below hb;replace S1_:=S1_.below hb;clear hb;refine dw OX S1_ 13 #[.int .i64 0,.int .i64 16,.bool true,Es,.slice (some ⟨bq1,0,none⟩) 2 2] rfl fun w3 S9=>?_
 simp only[Exit.inBlock,Exit.then];refine‹∀(a:Act) (w:World),Code.wp _ _ _ a w→_› _ _ ?_;clear S;clear S0_ S1_;have d1:w3.cell? ⟨w.heap.size,1,none⟩=some (.int .i64 14):=OX.c S9 1 (by rw[←hop];rfl);have kc:=l9 0 16 true [] (some ⟨bq1,0,none⟩) 2 2 1 14 w3
 go_wp2_with (refine bg rfl 45 (.tmp 3) rfl wx.heap.size 45 _ (0,0) (by rfl) S9.box _ Tryz.underlying45 rfl (by rfl) ?_)
 refine ag kc ?_;rintro e w4 ⟨rfl,hb⟩;obtain⟨x4,hq,hk4,hbq⟩:=B8 OX S9 hb #[.int .i64 1,.int .i64 14,.bool true,Es,.slice (some ⟨bq1,0,none⟩) 2 2];clear kc hb S9 d1
 go_wp2_with (refine bh rfl 45 (.tmp 2) (.tmp 237) rfl (w.heap.size+1) 45 _ #[.int .i64 1,.int .i64 14,.bool true,Es,.slice (some ⟨bq1,0,none⟩) 2 2] (by rfl) (by rfl) x4 (by rfl) (by rfl) (by simp[Value.oneCell']) ?_)
 all_goals exact le (s:=2) (g:=w.heap.size+1) rfl rfl rfl hq rfl ⟨⟨_,rfl,hk4⟩,hbq⟩
theorem zV(m:Mg)(l:Ls)(w:World)(hm:MgM w m l)(hk:LsOk m l)(hfb:dz l.filt=true)(rscope:0≤m.scope∧m.scope≤2147483647)(rderef:0≤m.deref∧m.deref≤2147483647)(rsize:0≤m.size∧m.size≤2147483647)(rtime:0≤m.time∧m.time≤2147483647)(hop:m.op=3):Calls Tryz.prog 34 #[.agg m.row] w (FoP w (.mk 1 3 true [] [.mk 0 4 false m.dn [],.mk 0 10 false (sgB m.scope.toNat) [],.mk 0 10 false (sgB m.deref.toNat) [],.mk 0 2 false (sgB m.size.toNat) [],.mk 0 2 false (sgB m.time.toNat) [],.mk 0 1 false (blB m.types) [],(cD 20 l.filt).1,.mk 0 16 true [] (l.sel.map cP)])):=by
 obtain⟨nscope,escope⟩:=nmm m.scope.toNat;have hscope:m.scope=(nscope:Int):=by omega
 have bscope:nscope≤2147483647:=by omega
 rw[escope];clear rscope escope;obtain⟨nderef,ederef⟩:=nmm m.deref.toNat;have hderef:m.deref=(nderef:Int):=by omega
 have bderef:nderef≤2147483647:=by omega
 rw[ederef];clear rderef ederef;obtain⟨nsize,esize⟩:=nmm m.size.toNat;have hsize:m.size=(nsize:Int):=by omega
 have bsize:nsize≤2147483647:=by omega
 rw[esize];clear rsize esize;obtain⟨ntime,etime⟩:=nmm m.time.toNat;have htime:m.time=(ntime:Int):=by omega
 have btime:ntime≤2147483647:=by omega
 rw[etime];clear rtime etime;obtain⟨KS,KF⟩:=Cg (fun W (hW:Below w.heap.size w W)=>yu m.sel l.sel W (hm.sel.below hW) hk.sel) (fun W (hW:Below w.heap.size w W)=>zq l.filt m.filt W (hm.filt.below hW) hk.filt hfb);obtain⟨sA,sC,hsel,_,_⟩:=id hm.sel;obtain⟨fA,fC,hfilt,_,_⟩:=id hm.filt;rw[hsel] at KS;rw[hfilt] at KF;obtain⟨EE,hEE⟩:=nmm ((cD 20 l.filt).1);rw[hEE] at KF⊢;obtain⟨oc,ot,okk,ob,oks⟩:=EE;clear hm hk hfb hEE;obtain⟨b0,m0,x0⟩:=B0 w m.row
 go_enter Tryz.func34,Tryz.ntmps34
 go_upto_region 1 with fail
 generalize(w.alloc (.cells m.row 28)).alloc (.cells Ze 45)=w1 at b0 m0 x0⊢;have kc:=dd none 0 0 w1
 go_wp2_with fail
 refine ag kc ?_;rintro e wx ⟨rfl,hb⟩;have OX:=Ca b0 m0 x0 hb;clear kc hb b0 m0 x0
 go_upto_region 2 with fail
 have S:EaS wx.heap.size #[.int .i64 0,.int .i64 16,.bool true,Es,Sn] wx (Sn) [] (wx.alloc (.cells #[.int .i64 0,.int .i64 16,.bool true,Es,Sn] 45)):=EaS.nil (bi _ _ _ rfl) ((ar _ _).alloc (ah _) _) (ah _);generalize wx.alloc (.cells #[.int .i64 0,.int .i64 16,.bool true,Es,Sn] 45)=w2 at S⊢;have o1:w2.cell? ⟨w.heap.size,1,none⟩=some (.int .i64 3):=OX.c S 1 (by rw[←hop];rfl)
 go_upto_region 15 with fail
 clear o1;refine rg OX S fun w2 hb S=>?_
 clear hb;refine dp OX S 0 2 rfl ?_;refine dp OX S 3 6 rfl ?_;refine dp OX S 6 7 rfl ?_;refine dp OX S 9 8 rfl ?_;refine dp OX S 12 9 rfl ?_;refine dp OX S 15 10 rfl ?_;refine dp OX S 18 11 rfl ?_;refine dp OX S 21 12 rfl ?_;refine dl OX S 1 2 (.string ⟨m.dn.toArray⟩) rfl ?_;refine dl OX S 4 6 (.int .i64 (nscope:Int)) rfl ?_ (hv:=by rw[←hscope];rfl);refine dl OX S 7 7 (.int .i64 (nderef:Int)) rfl ?_ (hv:=by rw[←hderef];rfl);refine dl OX S 10 8 (.int .i64 (nsize:Int)) rfl ?_ (hv:=by rw[←hsize];rfl);refine dl OX S 13 9 (.int .i64 (ntime:Int)) rfl ?_ (hv:=by rw[←htime];rfl);refine dl OX S 16 10 (.bool m.types) rfl ?_;refine dl OX S 19 11 (.slice fA l.filt.length fC) rfl ?_ (hv:=by rw[←hfilt];rfl);refine dl OX S 22 12 (.slice sA l.sel.length sC) rfl ?_ (hv:=by rw[←hsel];rfl);refine dc OX S 2 (dr m.dn w2) rfl fun w2 S hb=>?_
 clear hb;refine dc OX S 5 (sf nscope bscope w2) rfl fun w2 S hb=>?_
 clear hb;refine dc OX S 8 (sf nderef bderef w2) rfl fun w2 S hb=>?_
 clear hb;refine dc OX S 11 (tm nsize bsize w2) rfl fun w2 S hb=>?_
 clear hb;refine dc OX S 14 (tm ntime btime w2) rfl fun w2 S hb=>?_
 clear hb;refine dc OX S 17 (wL 1 m.types w2) rfl fun w2 S hb=>?_
 clear hb;have T:=OX.m S.bel;have kc:=KF.out w2 (OX.b S.bel);refine ao 20 rfl (fun K hK=>?_);go_simp;go_wp2_with fail
 refine ag kc ?_;rintro e w3 ⟨⟨uS,rfl,hkF⟩,hb⟩;obtain⟨eA,eC,hsh⟩:=hkF.shape;subst hsh;replace hkF:bf (fun k=>wx.heap.size<k) w3 (.slice eA oks.length eC) oks:=hkF.mono fun k hk _=>by have:=S.glt;omega
 simp only[elA,El.cls,El.tag,El.cons,El.bytes,El.kids] at hkF⊢;replace S:=S.below hb;clear kc hb;generalize w3=w2 at S hkF⊢;refine hK _ _ (OX.m S.bel) ?_;clear hK K T
 have T:=OX.m S.bel;have kc:=KS.out w2 (OX.b S.bel);refine ao 23 rfl (fun K hK=>?_);go_simp;go_wp2_with fail
 refine ag kc ?_;rintro e w3 ⟨⟨uS,rfl,hkS⟩,hb⟩;obtain⟨cA,cC,hsh⟩:=hkS.shape;subst hsh;replace hkS:bf (fun k=>wx.heap.size<k) w3 (.slice cA (l.sel.map cP).length cC) (l.sel.map cP):=hkS.mono fun k hk _=>by have:=S.glt;omega
 simp only[elA,El.cls,El.tag,El.cons,El.bytes,List.length_map] at hkS⊢;replace S:=S.below hb;replace hkF:=hkF.below hb;clear kc hb;generalize w3=w2 at S hkF hkS⊢;refine hK _ _ (OX.m S.bel) ?_;clear hK K T
 refine ds OX S 24 [.mk 0 4 false m.dn [],.mk 0 10 false (sgB nscope) [],.mk 0 10 false (sgB nderef) [],.mk 0 2 false (sgB nsize) [],.mk 0 2 false (sgB ntime) [],.mk 0 1 false (blB m.types) [],.mk oc ot okk ob oks,.mk 0 16 true [] (l.sel.map cP)] [Sn,Sn,Sn,Sn,Sn,Sn,.slice eA oks.length eC,.slice cA l.sel.length cC] 8 rfl rfl rfl ⟨bf.nil _ _,bf.nil _ _,bf.nil _ _,bf.nil _ _,bf.nil _ _,bf.nil _ _,hkF,hkS,trivial⟩ fun bq0 w2 hb S S0_=>?_
 replace hkF:=hkF.below hb;replace hkS:=hkS.below hb;clear hb;refine dc OX S 25 (dd (some ⟨bq0,0,none⟩) 8 8 w2) rfl fun w2 S hb=>?_
 replace hkF:=hkF.below hb;replace hkS:=hkS.below hb;replace S0_:=S0_.below hb;clear hb;refine dw OX S0_ 26 #[.int .i64 0,.int .i64 16,.bool true,Es,.slice (some ⟨bq0,0,none⟩) 8 8] rfl fun w3 S9=>?_
 simp only[Exit.inBlock,Exit.then];refine‹∀(a:Act) (w:World),Code.wp _ _ _ a w→_› _ _ ?_;clear S;clear hkF hkS S0_;have d1:w3.cell? ⟨w.heap.size,1,none⟩=some (.int .i64 3):=OX.c S9 1 (by rw[←hop];rfl);have kc:=l9 0 16 true [] (some ⟨bq0,0,none⟩) 8 8 1 3 w3
 go_wp2_with (refine bg rfl 45 (.tmp 3) rfl wx.heap.size 45 _ (0,0) (by rfl) S9.box _ Tryz.underlying45 rfl (by rfl) ?_)
 refine ag kc ?_;rintro e w4 ⟨rfl,hb⟩;obtain⟨x4,hq,hk4,hbq⟩:=B8 OX S9 hb #[.int .i64 1,.int .i64 3,.bool true,Es,.slice (some ⟨bq0,0,none⟩) 8 8];clear kc hb S9 d1
 go_wp2_with (refine bh rfl 45 (.tmp 2) (.tmp 237) rfl (w.heap.size+1) 45 _ #[.int .i64 1,.int .i64 3,.bool true,Es,.slice (some ⟨bq0,0,none⟩) 8 8] (by rfl) (by rfl) x4 (by rfl) (by rfl) (by simp[Value.oneCell']) ?_)
 all_goals exact le (s:=2) (g:=w.heap.size+1) rfl rfl rfl hq rfl ⟨⟨_,rfl,hk4⟩,hbq⟩
theorem yy(m:Mg)(_:Ls)(w:World)(hs:m.hasSup=false)(hop:m.op=12):Calls Tryz.prog 34 #[.agg m.row] w (FoP w (.mk 1 12 true [] [.mk 0 4 false m.dn [],.mk 0 4 false m.newRdn [],.mk 0 1 false (blB m.delOld) []])):=by
 obtain⟨b0,m0,x0⟩:=B0 w m.row
 go_enter Tryz.func34,Tryz.ntmps34
 go_upto_region 1 with fail
 generalize(w.alloc (.cells m.row 28)).alloc (.cells Ze 45)=w1 at b0 m0 x0⊢;have kc:=dd none 0 0 w1
 go_wp2_with fail
 refine ag kc ?_;rintro e wx ⟨rfl,hb⟩;have OX:=Ca b0 m0 x0 hb;clear kc hb b0 m0 x0
 go_upto_region 2 with fail
 have S:EaS wx.heap.size #[.int .i64 0,.int .i64 16,.bool true,Es,Sn] wx (Sn) [] (wx.alloc (.cells #[.int .i64 0,.int .i64 16,.bool true,Es,Sn] 45)):=EaS.nil (bi _ _ _ rfl) ((ar _ _).alloc (ah _) _) (ah _);generalize wx.alloc (.cells #[.int .i64 0,.int .i64 16,.bool true,Es,Sn] 45)=w2 at S⊢;have o1:w2.cell? ⟨w.heap.size,1,none⟩=some (.int .i64 12):=OX.c S 1 (by rw[←hop];rfl)
 go_upto_region 29 with fail
 clear o1;refine rg OX S fun w2 hb S=>?_
 clear hb;refine dp OX S 0 2 rfl ?_;refine dp OX S 3 15 rfl ?_;refine dp OX S 6 17 rfl ?_;refine dl OX S 1 2 (.string ⟨m.dn.toArray⟩) rfl ?_;refine dl OX S 4 15 (.string ⟨m.newRdn.toArray⟩) rfl ?_;refine dl OX S 7 17 (.bool m.delOld) rfl ?_;refine dc OX S 2 (dr m.dn w2) rfl fun w2 S hb=>?_
 clear hb;refine dc OX S 5 (dr m.newRdn w2) rfl fun w2 S hb=>?_
 clear hb;refine dc OX S 8 (wL 1 m.delOld w2) rfl fun w2 S hb=>?_
 clear hb;refine ds OX S 9 [.mk 0 4 false m.dn [],.mk 0 4 false m.newRdn [],.mk 0 1 false (blB m.delOld) []] [Sn,Sn,Sn] 3 rfl rfl rfl ⟨bf.nil _ _,bf.nil _ _,bf.nil _ _,trivial⟩ fun bq0 w2 hb S S0_=>?_
 clear hb;refine dc OX S 10 (dd (some ⟨bq0,0,none⟩) 3 3 w2) rfl fun w2 S hb=>?_
 replace S0_:=S0_.below hb;clear hb;refine dw OX S0_ 11 #[.int .i64 0,.int .i64 16,.bool true,Es,.slice (some ⟨bq0,0,none⟩) 3 3] rfl fun w3 S9=>?_
 simp only[Exit.then];refine‹∀(a:Act) (w:World),Code.wp _ _ _ a w→_› _ _ ?_;clear S;clear S0_;have o4:w3.cell? ⟨w.heap.size,18,none⟩=some (Bf):=(ap (OX.m S9.bel) 18).trans (show m.row[18]?=some (.bool false:Value) by rw[←hs];rfl);have d1:w3.cell? ⟨w.heap.size,1,none⟩=some (.int .i64 12):=OX.c S9 1 (by rw[←hop];rfl);have kc:=l9 0 16 true [] (some ⟨bq0,0,none⟩) 3 3 1 12 w3
 go_wp2_with (refine bg rfl 45 (.tmp 3) rfl wx.heap.size 45 _ (0,0) (by rfl) S9.box _ Tryz.underlying45 rfl (by rfl) ?_)
 refine ag kc ?_;rintro e w4 ⟨rfl,hb⟩;obtain⟨x4,hq,hk4,hbq⟩:=B8 OX S9 hb #[.int .i64 1,.int .i64 12,.bool true,Es,.slice (some ⟨bq0,0,none⟩) 3 3];clear kc hb S9 d1
 go_wp2_with (refine bh rfl 45 (.tmp 2) (.tmp 237) rfl (w.heap.size+1) 45 _ #[.int .i64 1,.int .i64 12,.bool true,Es,.slice (some ⟨bq0,0,none⟩) 3 3] (by rfl) (by rfl) x4 (by rfl) (by rfl) (by simp[Value.oneCell']) ?_)
 all_goals exact le (s:=2) (g:=w.heap.size+1) rfl rfl rfl hq rfl ⟨⟨_,rfl,hk4⟩,hbq⟩
theorem yO(m:Mg)(_:Ls)(w:World)(hs:m.hasSup=true)(hop:m.op=12):Calls Tryz.prog 34 #[.agg m.row] w (FoP w (.mk 1 12 true [] [.mk 0 4 false m.dn [],.mk 0 4 false m.newRdn [],.mk 0 1 false (blB m.delOld) [],.mk 2 0 false m.newSup []])):=by
 obtain⟨b0,m0,x0⟩:=B0 w m.row
 go_enter Tryz.func34,Tryz.ntmps34
 go_upto_region 1 with fail
 generalize(w.alloc (.cells m.row 28)).alloc (.cells Ze 45)=w1 at b0 m0 x0⊢;have kc:=dd none 0 0 w1
 go_wp2_with fail
 refine ag kc ?_;rintro e wx ⟨rfl,hb⟩;have OX:=Ca b0 m0 x0 hb;clear kc hb b0 m0 x0
 go_upto_region 2 with fail
 have S:EaS wx.heap.size #[.int .i64 0,.int .i64 16,.bool true,Es,Sn] wx (Sn) [] (wx.alloc (.cells #[.int .i64 0,.int .i64 16,.bool true,Es,Sn] 45)):=EaS.nil (bi _ _ _ rfl) ((ar _ _).alloc (ah _) _) (ah _);generalize wx.alloc (.cells #[.int .i64 0,.int .i64 16,.bool true,Es,Sn] 45)=w2 at S⊢;have o1:w2.cell? ⟨w.heap.size,1,none⟩=some (.int .i64 12):=OX.c S 1 (by rw[←hop];rfl)
 go_upto_region 29 with fail
 clear o1;refine rg OX S fun w2 hb S=>?_
 clear hb;refine dp OX S 0 2 rfl ?_;refine dp OX S 3 15 rfl ?_;refine dp OX S 6 17 rfl ?_;refine dl OX S 1 2 (.string ⟨m.dn.toArray⟩) rfl ?_;refine dl OX S 4 15 (.string ⟨m.newRdn.toArray⟩) rfl ?_;refine dl OX S 7 17 (.bool m.delOld) rfl ?_;refine dc OX S 2 (dr m.dn w2) rfl fun w2 S hb=>?_
 clear hb;refine dc OX S 5 (dr m.newRdn w2) rfl fun w2 S hb=>?_
 clear hb;refine dc OX S 8 (wL 1 m.delOld w2) rfl fun w2 S hb=>?_
 clear hb;refine ds OX S 9 [.mk 0 4 false m.dn [],.mk 0 4 false m.newRdn [],.mk 0 1 false (blB m.delOld) []] [Sn,Sn,Sn] 3 rfl rfl rfl ⟨bf.nil _ _,bf.nil _ _,bf.nil _ _,trivial⟩ fun bq0 w2 hb S S0_=>?_
 clear hb;refine dc OX S 10 (dd (some ⟨bq0,0,none⟩) 3 3 w2) rfl fun w2 S hb=>?_
 replace S0_:=S0_.below hb;clear hb;refine dw OX S0_ 11 #[.int .i64 0,.int .i64 16,.bool true,Es,.slice (some ⟨bq0,0,none⟩) 3 3] rfl fun w3 S9=>?_
 simp only[Exit.then];refine‹∀(a:Act) (w:World),Code.wp _ _ _ a w→_› _ _ ?_;clear S;clear S0_;have o4:w3.cell? ⟨w.heap.size,18,none⟩=some (.bool true):=(ap (OX.m S9.bel) 18).trans (show m.row[18]?=some (.bool true:Value) by rw[←hs];rfl)
 go_upto_region 31 with fail
 clear o4;have s0:=cval S9.box 4 (.slice (some ⟨bq0,0,none⟩) 3 3);refine lx (S:=fun w'=>w'.heap[w.heap.size]?=some (.cells m.row 28 (0,0))∧w'.cell? ⟨wx.heap.size,4,none⟩=some (.slice (some ⟨bq0,0,none⟩) 3 3)) (st:=9) (by kernel_rfl) ?_;clear s0;replace S9:=S9.below (ar w3.heap.size w3).drew;generalize w3.drew=w3 at S9⊢;have T:w3.heap[w.heap.size]?=some (.cells m.row 28 (0,0))∧w3.cell? ⟨wx.heap.size,4,none⟩=some (.slice (some ⟨bq0,0,none⟩) 3 3):=⟨OX.m S9.bel,(ap S9.box 4).trans rfl⟩;refine d9 0 (.pointer (some ⟨wx.heap.size,4,none⟩)) rfl (by decide) (by kernel_rfl) (by kernel_rfl) (by kernel_rfl) (fun _ _ _ h=>h) (by rfl) (fun w'=>by go_simp) (.inr T) (kkn ?_);refine d9 2 (.pointer (some ⟨w.heap.size,16,none⟩)) rfl (by decide) (by kernel_rfl) (by kernel_rfl) (by kernel_rfl) (fun _ _ _ h=>h) (by rfl) (fun w'=>by go_simp) (.inr T) (kkn ?_);refine it 1 (.slice (some ⟨bq0,0,none⟩) 3 3) rfl (by decide) rfl (by kernel_rfl) (by kernel_rfl) (by kernel_rfl) (by kernel_rfl) (fun _ _ _ h=>h) (by rfl) (fun w' hS=>by have q:=hS.2;go_simp) (by rfl) T (kkn ?_);refine it 3 (.string ⟨m.newSup.toArray⟩) rfl (by decide) rfl (by kernel_rfl) (by kernel_rfl) (by kernel_rfl) (by kernel_rfl) (fun _ _ _ h=>h) (by rfl) (fun w' hS=>by have q:=cval hS.1 16 (.string ⟨m.newSup.toArray⟩);go_simp) (by rfl) T (kkn ?_);have kc:=dr m.newSup w3;refine cr 4 (by kernel_rfl) rfl (by rfl) (fun K hK=>?_);go_simp;go_wp2_with fail
 refine ag kc ?_;rintro e w4 ⟨rfl,hb⟩;replace S9:=S9.below hb;clear kc hb;generalize w4=w3 at S9⊢;replace T:w3.heap[w.heap.size]?=some (.cells m.row 28 (0,0))∧w3.cell? ⟨wx.heap.size,4,none⟩=some (.slice (some ⟨bq0,0,none⟩) 3 3):=⟨OX.m S9.bel,(ap S9.box 4).trans rfl⟩;refine hK _ _ (.inr T) ?_;clear hK K
 have kc:=l7 0 0 4 false m.newSup none 0 0 w3;refine cr 5 (by kernel_rfl) rfl (by rfl) (fun K hK=>?_);go_simp;go_wp2_with fail
 refine ag kc ?_;rintro e w4 ⟨rfl,hb⟩;replace S9:=S9.below hb;clear kc hb;generalize w4=w3 at S9⊢;replace T:w3.heap[w.heap.size]?=some (.cells m.row 28 (0,0))∧w3.cell? ⟨wx.heap.size,4,none⟩=some (.slice (some ⟨bq0,0,none⟩) 3 3):=⟨OX.m S9.bel,(ap S9.box 4).trans rfl⟩;refine hK _ _ (.inr T) ?_;clear hK K
 have hal:=alb w3 #[.int .i64 2,.int .i64 0,Bf,.string ⟨m.newSup.toArray⟩,Sn] 45;refine cr 6 (by kernel_rfl) rfl (by rfl) (fun K hK=>?_);go_simp;refine hK _ _ (.inr ⟨OX.m (S9.below hal).bel,(ap (S9.below hal).box 4).trans rfl⟩) ?_;clear hK K hal T
 refine cr 7 (by kernel_rfl) rfl (by rfl) (fun K hK=>?_);refine wU S9 (.mk 2 0 false m.newSup []) none 0 0 (.tmp 187) (.tmp 192) rfl rfl rfl (bf.nil _ _) (by simp) ?_;intro a' c' w4 S10;clear S9;have T:w4.heap[w.heap.size]?=some (.cells m.row 28 (0,0))∧w4.cell? ⟨wx.heap.size,4,none⟩=some (.slice (some ⟨bq0,0,none⟩) 3 3):=⟨OX.m S10.bel,(ap S10.box 4).trans rfl⟩;refine hK _ _ (.inr T) ?_;clear hK K
 refine cr 8 (by kernel_rfl) rfl (by rfl) (kks (.inr T) ?_);have z:=aj S10.box 4;have s4:=T.2;refine cr 9 (by kernel_rfl) rfl (by rfl) (kks (.inl (by rfl)) ?_);have S9:EaS wx.heap.size #[.int .i64 0,.int .i64 16,.bool true,Es,.slice a' 4 c'] wx (.slice a' 4 c') [.mk 0 4 false m.dn [],.mk 0 4 false m.newRdn [],.mk 0 1 false (blB m.delOld) [],.mk 2 0 false m.newSup []] (w4.setCell ⟨wx.heap.size,4,none⟩ (.slice a' 4 c')):=S10.set 4 (.slice a' 4 c');generalize w4.setCell ⟨wx.heap.size,4,none⟩ (.slice a' 4 c')=w3 at S9⊢;clear S10 T z s4;refine nP (by kernel_rfl) ?_ _;simp only[Exit.inBlock,Exit.then];refine‹∀(a:Act) (w:World),Code.wp _ _ _ a w→_› _ _ ?_;have d1:w3.cell? ⟨w.heap.size,1,none⟩=some (.int .i64 12):=OX.c S9 1 (by rw[←hop];rfl);have kc:=l9 0 16 true [] a' 4 c' 1 12 w3
 go_wp2_with (refine bg rfl 45 (.tmp 3) rfl wx.heap.size 45 _ (0,0) (by rfl) S9.box _ Tryz.underlying45 rfl (by rfl) ?_)
 refine ag kc ?_;rintro e w4 ⟨rfl,hb⟩;obtain⟨x4,hq,hk4,hbq⟩:=B8 OX S9 hb #[.int .i64 1,.int .i64 12,.bool true,Es,.slice a' 4 c'];clear kc hb S9 d1
 go_wp2_with (refine bh rfl 45 (.tmp 2) (.tmp 237) rfl (w.heap.size+1) 45 _ #[.int .i64 1,.int .i64 12,.bool true,Es,.slice a' 4 c'] (by rfl) (by rfl) x4 (by rfl) (by rfl) (by simp[Value.oneCell']) ?_)
 all_goals exact le (s:=2) (g:=w.heap.size+1) rfl rfl rfl hq rfl ⟨⟨_,rfl,hk4⟩,hbq⟩
theorem yd(m:Mg)(_:Ls)(w:World)(hs:m.has=false)(hop:m.op=23):Calls Tryz.prog 34 #[.agg m.row] w (FoP w (.mk 1 23 true [] [.mk 2 0 false m.oid []])):=by
 obtain⟨b0,m0,x0⟩:=B0 w m.row
 go_enter Tryz.func34,Tryz.ntmps34
 go_upto_region 1 with fail
 generalize(w.alloc (.cells m.row 28)).alloc (.cells Ze 45)=w1 at b0 m0 x0⊢;have kc:=dd none 0 0 w1
 go_wp2_with fail
 refine ag kc ?_;rintro e wx ⟨rfl,hb⟩;have OX:=Ca b0 m0 x0 hb;clear kc hb b0 m0 x0
 go_upto_region 2 with fail
 have S:EaS wx.heap.size #[.int .i64 0,.int .i64 16,.bool true,Es,Sn] wx (Sn) [] (wx.alloc (.cells #[.int .i64 0,.int .i64 16,.bool true,Es,Sn] 45)):=EaS.nil (bi _ _ _ rfl) ((ar _ _).alloc (ah _) _) (ah _);generalize wx.alloc (.cells #[.int .i64 0,.int .i64 16,.bool true,Es,Sn] 45)=w2 at S⊢;have o1:w2.cell? ⟨w.heap.size,1,none⟩=some (.int .i64 23):=OX.c S 1 (by rw[←hop];rfl);have q21:w2.cell? ⟨w.heap.size,21,none⟩=some (.string ⟨m.oid.toArray⟩):=cval (OX.m S.bel) 21 (.string ⟨m.oid.toArray⟩);have kc:=dr m.oid w2
 go_wp2_with fail
 refine ag kc ?_;rintro e w3 ⟨rfl,hb⟩;replace S:=S.below hb;clear kc hb;generalize w3=w2 at S⊢;clear q21;have kc:=l7 0 0 4 false m.oid none 0 0 w2
 go_wp2_with fail
 refine ag kc ?_;rintro e w3 ⟨rfl,hb⟩;replace S:=S.below hb;clear kc hb;generalize w3=w2 at S⊢;have hal:=alb w2 #[.int .i64 2,.int .i64 0,Bf,.string ⟨m.oid.toArray⟩,Sn] 45;have S2:EaS wx.heap.size #[.int .i64 0,.int .i64 16,.bool true,Es,Sn] wx (.slice (some ⟨w2.heap.size,0,none⟩) 1 1) [.mk 2 0 false m.oid []] (w2.alloc (.cells #[.int .i64 2,.int .i64 0,Bf,.string ⟨m.oid.toArray⟩,Sn] 45)):=
  EaS.row (L:=[.mk 2 0 false m.oid []]) (us:=[Sn]) (S.below hal).box (S.below hal).bel S.lo (bi _ _ _ rfl) S.glt rfl rfl (by simp) ⟨bf.nil _ _,trivial⟩
 replace S:=S.below hal;have kc:=dd (some ⟨w2.heap.size,0,none⟩) 1 1 (w2.alloc (.cells #[.int .i64 2,.int .i64 0,Bf,.string ⟨m.oid.toArray⟩,Sn] 45));clear hal
 go_wp2_with fail
 refine ag kc ?_;rintro e w3 ⟨rfl,hb⟩;replace S:=S.below hb;have S0_:=S2.below hb;have hq0:=S0_.kids;clear kc hb S2;generalize w2.heap.size=bq0 at S0_ hq0⊢;generalize w3=w2 at S S0_ hq0⊢;have S9:=S0_.put #[.int .i64 0,.int .i64 16,.bool true,Es,.slice (some ⟨bq0,0,none⟩) 1 1];clear hq0
 go_upto_region 38 with(refine bh rfl 45 (.tmp 3) (.tmp 222) rfl wx.heap.size 45 _ #[.int .i64 0,.int .i64 16,.bool true,Es,.slice (some ⟨bq0,0,none⟩) 1 1] (by rfl) (by rfl) S0_.box (by rfl) (by rfl) (by simp[Value.oneCell']) ?_;clear S;generalize w2.setRow wx.heap.size #[.int .i64 0,.int .i64 16,.bool true,Es,.slice (some ⟨bq0,0,none⟩) 1 1]=w3 at S9⊢)
 have o4:w3.cell? ⟨w.heap.size,22,none⟩=some (Bf):=(ap (OX.m S9.bel) 22).trans (show m.row[22]?=some (.bool false:Value) by rw[←hs];rfl);have d1:w3.cell? ⟨w.heap.size,1,none⟩=some (.int .i64 23):=OX.c S9 1 (by rw[←hop];rfl);have kc:=l9 0 16 true [] (some ⟨bq0,0,none⟩) 1 1 1 23 w3
 go_wp2_with (refine bg rfl 45 (.tmp 3) rfl wx.heap.size 45 _ (0,0) (by rfl) S9.box _ Tryz.underlying45 rfl (by rfl) ?_)
 refine ag kc ?_;rintro e w4 ⟨rfl,hb⟩;obtain⟨x4,hq,hk4,hbq⟩:=B8 OX S9 hb #[.int .i64 1,.int .i64 23,.bool true,Es,.slice (some ⟨bq0,0,none⟩) 1 1];clear kc hb S9 d1
 go_wp2_with (refine bh rfl 45 (.tmp 2) (.tmp 237) rfl (w.heap.size+1) 45 _ #[.int .i64 1,.int .i64 23,.bool true,Es,.slice (some ⟨bq0,0,none⟩) 1 1] (by rfl) (by rfl) x4 (by rfl) (by rfl) (by simp[Value.oneCell']) ?_)
 all_goals exact le (s:=2) (g:=w.heap.size+1) rfl rfl rfl hq rfl ⟨⟨_,rfl,hk4⟩,hbq⟩
theorem yi(m:Mg)(_:Ls)(w:World)(hs:m.has=true)(hop:m.op=23):Calls Tryz.prog 34 #[.agg m.row] w (FoP w (.mk 1 23 true [] [.mk 2 0 false m.oid [],.mk 2 1 false m.value []])):=by
 obtain⟨b0,m0,x0⟩:=B0 w m.row
 go_enter Tryz.func34,Tryz.ntmps34
 go_upto_region 1 with fail
 generalize(w.alloc (.cells m.row 28)).alloc (.cells Ze 45)=w1 at b0 m0 x0⊢;have kc:=dd none 0 0 w1
 go_wp2_with fail
 refine ag kc ?_;rintro e wx ⟨rfl,hb⟩;have OX:=Ca b0 m0 x0 hb;clear kc hb b0 m0 x0
 go_upto_region 2 with fail
 have S:EaS wx.heap.size #[.int .i64 0,.int .i64 16,.bool true,Es,Sn] wx (Sn) [] (wx.alloc (.cells #[.int .i64 0,.int .i64 16,.bool true,Es,Sn] 45)):=EaS.nil (bi _ _ _ rfl) ((ar _ _).alloc (ah _) _) (ah _);generalize wx.alloc (.cells #[.int .i64 0,.int .i64 16,.bool true,Es,Sn] 45)=w2 at S⊢;have o1:w2.cell? ⟨w.heap.size,1,none⟩=some (.int .i64 23):=OX.c S 1 (by rw[←hop];rfl);have q21:w2.cell? ⟨w.heap.size,21,none⟩=some (.string ⟨m.oid.toArray⟩):=cval (OX.m S.bel) 21 (.string ⟨m.oid.toArray⟩);have kc:=dr m.oid w2
 go_wp2_with fail
 refine ag kc ?_;rintro e w3 ⟨rfl,hb⟩;replace S:=S.below hb;clear kc hb;generalize w3=w2 at S⊢;clear q21;have kc:=l7 0 0 4 false m.oid none 0 0 w2
 go_wp2_with fail
 refine ag kc ?_;rintro e w3 ⟨rfl,hb⟩;replace S:=S.below hb;clear kc hb;generalize w3=w2 at S⊢;have hal:=alb w2 #[.int .i64 2,.int .i64 0,Bf,.string ⟨m.oid.toArray⟩,Sn] 45;have S2:EaS wx.heap.size #[.int .i64 0,.int .i64 16,.bool true,Es,Sn] wx (.slice (some ⟨w2.heap.size,0,none⟩) 1 1) [.mk 2 0 false m.oid []] (w2.alloc (.cells #[.int .i64 2,.int .i64 0,Bf,.string ⟨m.oid.toArray⟩,Sn] 45)):=
  EaS.row (L:=[.mk 2 0 false m.oid []]) (us:=[Sn]) (S.below hal).box (S.below hal).bel S.lo (bi _ _ _ rfl) S.glt rfl rfl (by simp) ⟨bf.nil _ _,trivial⟩
 replace S:=S.below hal;have kc:=dd (some ⟨w2.heap.size,0,none⟩) 1 1 (w2.alloc (.cells #[.int .i64 2,.int .i64 0,Bf,.string ⟨m.oid.toArray⟩,Sn] 45));clear hal
 go_wp2_with fail
 refine ag kc ?_;rintro e w3 ⟨rfl,hb⟩;replace S:=S.below hb;have S0_:=S2.below hb;have hq0:=S0_.kids;clear kc hb S2;generalize w2.heap.size=bq0 at S0_ hq0⊢;generalize w3=w2 at S S0_ hq0⊢;have S9:=S0_.put #[.int .i64 0,.int .i64 16,.bool true,Es,.slice (some ⟨bq0,0,none⟩) 1 1];clear hq0
 go_upto_region 38 with(refine bh rfl 45 (.tmp 3) (.tmp 222) rfl wx.heap.size 45 _ #[.int .i64 0,.int .i64 16,.bool true,Es,.slice (some ⟨bq0,0,none⟩) 1 1] (by rfl) (by rfl) S0_.box (by rfl) (by rfl) (by simp[Value.oneCell']) ?_;clear S;generalize w2.setRow wx.heap.size #[.int .i64 0,.int .i64 16,.bool true,Es,.slice (some ⟨bq0,0,none⟩) 1 1]=w3 at S9⊢)
 have o4:w3.cell? ⟨w.heap.size,22,none⟩=some (.bool true):=(ap (OX.m S9.bel) 22).trans (show m.row[22]?=some (.bool true:Value) by rw[←hs];rfl)
 go_upto_region 39 with fail
 clear o4;have s0:=cval S9.box 4 (.slice (some ⟨bq0,0,none⟩) 1 1);refine lx (S:=fun w'=>w'.heap[w.heap.size]?=some (.cells m.row 28 (0,0))∧w'.cell? ⟨wx.heap.size,4,none⟩=some (.slice (some ⟨bq0,0,none⟩) 1 1)) (st:=9) (by kernel_rfl) ?_;clear s0;replace S9:=S9.below (ar w3.heap.size w3).drew;generalize w3.drew=w3 at S9⊢;have T:w3.heap[w.heap.size]?=some (.cells m.row 28 (0,0))∧w3.cell? ⟨wx.heap.size,4,none⟩=some (.slice (some ⟨bq0,0,none⟩) 1 1):=⟨OX.m S9.bel,(ap S9.box 4).trans rfl⟩;refine d9 0 (.pointer (some ⟨wx.heap.size,4,none⟩)) rfl (by decide) (by kernel_rfl) (by kernel_rfl) (by kernel_rfl) (fun _ _ _ h=>h) (by rfl) (fun w'=>by go_simp) (.inr T) (kkn ?_);refine d9 2 (.pointer (some ⟨w.heap.size,20,none⟩)) rfl (by decide) (by kernel_rfl) (by kernel_rfl) (by kernel_rfl) (fun _ _ _ h=>h) (by rfl) (fun w'=>by go_simp) (.inr T) (kkn ?_);refine it 1 (.slice (some ⟨bq0,0,none⟩) 1 1) rfl (by decide) rfl (by kernel_rfl) (by kernel_rfl) (by kernel_rfl) (by kernel_rfl) (fun _ _ _ h=>h) (by rfl) (fun w' hS=>by have q:=hS.2;go_simp) (by rfl) T (kkn ?_);refine it 3 (.string ⟨m.value.toArray⟩) rfl (by decide) rfl (by kernel_rfl) (by kernel_rfl) (by kernel_rfl) (by kernel_rfl) (fun _ _ _ h=>h) (by rfl) (fun w' hS=>by have q:=cval hS.1 20 (.string ⟨m.value.toArray⟩);go_simp) (by rfl) T (kkn ?_);have kc:=dr m.value w3;refine cr 4 (by kernel_rfl) rfl (by rfl) (fun K hK=>?_);go_simp;go_wp2_with fail
 refine ag kc ?_;rintro e w4 ⟨rfl,hb⟩;replace S9:=S9.below hb;clear kc hb;generalize w4=w3 at S9⊢;replace T:w3.heap[w.heap.size]?=some (.cells m.row 28 (0,0))∧w3.cell? ⟨wx.heap.size,4,none⟩=some (.slice (some ⟨bq0,0,none⟩) 1 1):=⟨OX.m S9.bel,(ap S9.box 4).trans rfl⟩;refine hK _ _ (.inr T) ?_;clear hK K
 have kc:=l7 1 0 4 false m.value none 0 0 w3;refine cr 5 (by kernel_rfl) rfl (by rfl) (fun K hK=>?_);go_simp;go_wp2_with fail
 refine ag kc ?_;rintro e w4 ⟨rfl,hb⟩;replace S9:=S9.below hb;clear kc hb;generalize w4=w3 at S9⊢;replace T:w3.heap[w.heap.size]?=some (.cells m.row 28 (0,0))∧w3.cell? ⟨wx.heap.size,4,none⟩=some (.slice (some ⟨bq0,0,none⟩) 1 1):=⟨OX.m S9.bel,(ap S9.box 4).trans rfl⟩;refine hK _ _ (.inr T) ?_;clear hK K
 have hal:=alb w3 #[.int .i64 2,.int .i64 1,Bf,.string ⟨m.value.toArray⟩,Sn] 45;refine cr 6 (by kernel_rfl) rfl (by rfl) (fun K hK=>?_);go_simp;refine hK _ _ (.inr ⟨OX.m (S9.below hal).bel,(ap (S9.below hal).box 4).trans rfl⟩) ?_;clear hK K hal T
 refine cr 7 (by kernel_rfl) rfl (by rfl) (fun K hK=>?_);refine wU S9 (.mk 2 1 false m.value []) none 0 0 (.tmp 226) (.tmp 231) rfl rfl rfl (bf.nil _ _) (by simp) ?_;intro a' c' w4 S10;clear S9;have T:w4.heap[w.heap.size]?=some (.cells m.row 28 (0,0))∧w4.cell? ⟨wx.heap.size,4,none⟩=some (.slice (some ⟨bq0,0,none⟩) 1 1):=⟨OX.m S10.bel,(ap S10.box 4).trans rfl⟩;refine hK _ _ (.inr T) ?_;clear hK K
 refine cr 8 (by kernel_rfl) rfl (by rfl) (kks (.inr T) ?_);have z:=aj S10.box 4;have s4:=T.2;refine cr 9 (by kernel_rfl) rfl (by rfl) (kks (.inl (by rfl)) ?_);have S9:EaS wx.heap.size #[.int .i64 0,.int .i64 16,.bool true,Es,.slice a' 2 c'] wx (.slice a' 2 c') [.mk 2 0 false m.oid [],.mk 2 1 false m.value []] (w4.setCell ⟨wx.heap.size,4,none⟩ (.slice a' 2 c')):=S10.set 4 (.slice a' 2 c');generalize w4.setCell ⟨wx.heap.size,4,none⟩ (.slice a' 2 c')=w3 at S9⊢;clear S10 T z s4;refine nP (by kernel_rfl) ?_ _;simp only[Exit.inBlock,Exit.then];refine‹∀(a:Act) (w:World),Code.wp _ _ _ a w→_› _ _ ?_;have d1:w3.cell? ⟨w.heap.size,1,none⟩=some (.int .i64 23):=OX.c S9 1 (by rw[←hop];rfl);have kc:=l9 0 16 true [] a' 2 c' 1 23 w3
 go_wp2_with (refine bg rfl 45 (.tmp 3) rfl wx.heap.size 45 _ (0,0) (by rfl) S9.box _ Tryz.underlying45 rfl (by rfl) ?_)
 refine ag kc ?_;rintro e w4 ⟨rfl,hb⟩;obtain⟨x4,hq,hk4,hbq⟩:=B8 OX S9 hb #[.int .i64 1,.int .i64 23,.bool true,Es,.slice a' 2 c'];clear kc hb S9 d1
 go_wp2_with (refine bh rfl 45 (.tmp 2) (.tmp 237) rfl (w.heap.size+1) 45 _ #[.int .i64 1,.int .i64 23,.bool true,Es,.slice a' 2 c'] (by rfl) (by rfl) x4 (by rfl) (by rfl) (by simp[Value.oneCell']) ?_)
 all_goals exact le (s:=2) (g:=w.heap.size+1) rfl rfl rfl hq rfl ⟨⟨_,rfl,hk4⟩,hbq⟩
end Go.Proofs.YthjaiigijbjloaaGreatDoor
