/- FsB, FsT, FsC. -/
import Derived.Deep.CutRange
import Derived.Test.YthpcpdplcicfoaaGreatDoorV7
namespace Go.Proofs.YthpcpdplcicfoaaGreatDoor
open Go.RowKit Go.Lib
set_option maxRecDepth 100000
set_option maxHeartbeats 16000000
def vL(w:World)(P X:Array Value)(wx:World):Prop:=wx.heap[w.heap.size]?=some (.cells P 167 (0,0))∧wx.heap[w.heap.size+1]?=some (.cells X 167 (0,0))∧Below w.heap.size w wx
theorem Ce(p:Fl)(u:Value)(w:World)(hu:ct w u p.any)(hok:p.ok)(hE:Env w)(hop:p.op=7):
  Cr 159 #[.agg (p.row u)] w (.bool (bU p)):=by
 obtain⟨OK,hOK⟩:=nmm (bU p);rw[hOK];have HOK:=hid hOK;clear hOK;generalize hP:p.row u=P;have hP2:P.size=7:=by rw[←hP];rfl
 obtain⟨HP,HP2⟩:=Cg hP hP2;clear hP hP2;obtain⟨k1,k2,k3,k4,k5,k6⟩:=hok;obtain⟨HK6,HE,HU⟩:=Ch k6 hE hu;clear hu hE k6;obtain⟨X0,hX0⟩:=nmm (Fl.row ⟨7,0,p.typ,[],[],[],[]⟩ (Sn));have hX1:(#[.int .i64 7,I0,.string ⟨p.typ.toArray⟩,Es,Es,Es,Sn]:Array Value)=X0:=hX0;have hX2:X0.size=7:=by rw[←hX0];rfl
 have hX3:X0.all (·.oneCell')=true:=by rw[←hX0];simp[Fl.row,Value.oneCell']
 obtain⟨HX0,HX1,HX2,HX3⟩:=Ci hX0 hX1 hX2 hX3;clear hX0 hX1 hX2 hX3;have b1:=alb w P 167;have m1:=alz w P 167;have hs1:(w.alloc (.cells P 167)).heap.size=w.heap.size+1:=by simp
 have HS1:=hid hs1;clear hs1
 go_enter Tryz.func159,Tryz.ntmps159
 go_upto_region 1 with fail
 generalize w.alloc (.cells P 167)=w1 at b1 m1 HS1⊢;have q0:w1.cell? ⟨w.heap.size,0,none⟩=some (.int .i64 7):=(aq m1 0).trans (by rw[←HP.out];simp[Fl.row,hop]);have q2:w1.cell? ⟨w.heap.size,2,none⟩=some (.string ⟨p.typ.toArray⟩):=(aq m1 2).trans (by rw[←HP.out];rfl);refine aQ ?_
 iterate 4 (refine aB rfl (kkn ?_))
 refine aB rfl fun K hK=>?_
 go_simp;rw[HX1.out];refine hK _ _ ?_;clear hK K
 refine aB rfl (kkn ?_);clear q0 q2;have b2:=b1.trans ((aA w1.heap.size w1).alloc (ah _) (.cells Zf 167)|>.mono b1.size);have m2:=(alloc_old w1 (.cells Zf 167) w.heap.size (gl m1)).trans m1;have x2:(w1.alloc (.cells Zf 167)).heap[w.heap.size+1]?=some (.cells Zf 167 (0,0)):=bC _ _ _ (by rw[HS1.out]);rw[HS1.out];clear b1 m1;generalize w1.alloc (.cells Zf 167)=w2 at b2 m2 x2⊢;refine bh rfl 167 (.tmp 3) (.tmp 8) rfl (w.heap.size+1) 167 _ X0 (by rfl) (by rfl) x2 (by rw[HX2.out];rfl) (by rw[HX2.out];rfl) HX3.out ?_;have b3:=bm b2 (g:=w.heap.size+1) (by omega) X0;have m3:=(setRow_other w2 (w.heap.size+1) w.heap.size X0 (by omega)).trans m2;have x3:=setRow_heap w2 (w.heap.size+1) _ X0 _ _ x2;clear b2 m2 x2 HX1 HX3 HS1;generalize w2.setRow (w.heap.size+1) X0=w3 at b3 m3 x3⊢;have q0:w3.cell? ⟨w.heap.size,0,none⟩=some (.int .i64 7):=(aq m3 0).trans (by rw[←HP.out];simp[Fl.row,hop]);go_simp
 go_upto_region 19 with fail
 clear q0;have ks:=gc p ⟨7,0,p.typ,[],[],[],[]⟩ u (Sn) w3 (HU.out.below b3) (⟨none,0,rfl,ah _,fun h=>absurd rfl h⟩) (by omega) (by simp;try omega);rw[HP.out,HX0.out] at ks;have hAll:OK=(di p ⟨7,0,p.typ,[],[],[],[]⟩&&gr p.typ):=by rw[←HOK.out];simp[bU,di,hop,Bool.and_assoc]
 obtain⟨B,hB⟩:=nmm (di p ⟨7,0,p.typ,[],[],[],[]⟩);rw[hB] at ks hAll;have HALL:=hid hAll;clear hAll hB
 go_wp2_with (first|(refine bg rfl 167 (.tmp 1) rfl w.heap.size 167 _ (0,0) (by rfl) m3 _ Tryz.underlying167 rfl (by rw[HP2.out];rfl) ?_)|(refine bg rfl 167 (.tmp 3) rfl (w.heap.size+1) 167 _ (0,0) (by rfl) x3 _ Tryz.underlying167 rfl (by rw[HX2.out];rfl) ?_))
 refine ag ks ?_;rintro e w20 ⟨rfl,hb⟩;have m20:=bkk hb m3;have b20:=btt b3 hb;clear ks hb m3 x3 b3;cases B
 ·go_wp2_with fail
  go_ret
  exact⟨by rw[HALL.out];rfl,b20⟩
 ·have q2:w20.cell? ⟨w.heap.size,2,none⟩=some (.string ⟨p.typ.toArray⟩):=(aq m20 2).trans (by rw[←HP.out];rfl)
  have ki:=iT p.typ w20 (by omega) (HE.out.below b20)
  go_wp2_with fail
  refine ag ki ?_;rintro e w21 ⟨rfl,hb⟩;have b21:=btt b20 hb;clear ki hb b20 q2 m20
  go_wp2_with fail
  go_ret
  exact⟨by rw[HALL.out];simp,b21⟩
theorem oa(p:Fl)(u:Value)(w:World)(hu:ct w u p.any)(hok:p.ok)(hE:Env w)(hn:p.op∉([0,1,2,3,4,5,6,7,8]:List Int)):
  Cr 159 #[.agg (p.row u)] w (.bool (bU p)):=by
 obtain⟨OK,hOK⟩:=nmm (bU p);rw[hOK];have HOK:=hid hOK;clear hOK;generalize hP:p.row u=P;have hP2:P.size=7:=by rw[←hP];rfl
 obtain⟨HP,HP2⟩:=Cg hP hP2;clear hP hP2;obtain⟨k1,k2,k3,k4,k5,k6⟩:=hok;obtain⟨HK6,HE,HU⟩:=Ch k6 hE hu;clear hu hE k6;obtain⟨X0,hX0⟩:=nmm (Fl.row ⟨p.op,0,p.typ,[],[],[],[]⟩ (Sn));have hX1:(#[.int .i64 p.op,I0,.string ⟨p.typ.toArray⟩,Es,Es,Es,Sn]:Array Value)=X0:=hX0;have hX2:X0.size=7:=by rw[←hX0];rfl
 have hX3:X0.all (·.oneCell')=true:=by rw[←hX0];simp[Fl.row,Value.oneCell']
 obtain⟨HX0,HX1,HX2,HX3⟩:=Ci hX0 hX1 hX2 hX3;clear hX0 hX1 hX2 hX3;have b1:=alb w P 167;have m1:=alz w P 167;have hs1:(w.alloc (.cells P 167)).heap.size=w.heap.size+1:=by simp
 have HS1:=hid hs1;clear hs1
 go_enter Tryz.func159,Tryz.ntmps159
 go_upto_region 1 with fail
 generalize w.alloc (.cells P 167)=w1 at b1 m1 HS1⊢;have q0:w1.cell? ⟨w.heap.size,0,none⟩=some (.int .i64 p.op):=(aq m1 0).trans (by rw[←HP.out];rfl);have q2:w1.cell? ⟨w.heap.size,2,none⟩=some (.string ⟨p.typ.toArray⟩):=(aq m1 2).trans (by rw[←HP.out];rfl);refine aQ ?_
 iterate 4 (refine aB rfl (kkn ?_))
 refine aB rfl fun K hK=>?_
 go_simp;rw[HX1.out];refine hK _ _ ?_;clear hK K
 refine aB rfl (kkn ?_);clear q0 q2;have b2:=b1.trans ((aA w1.heap.size w1).alloc (ah _) (.cells Zf 167)|>.mono b1.size);have m2:=(alloc_old w1 (.cells Zf 167) w.heap.size (gl m1)).trans m1;have x2:(w1.alloc (.cells Zf 167)).heap[w.heap.size+1]?=some (.cells Zf 167 (0,0)):=bC _ _ _ (by rw[HS1.out]);rw[HS1.out];clear b1 m1;generalize w1.alloc (.cells Zf 167)=w2 at b2 m2 x2⊢;refine bh rfl 167 (.tmp 3) (.tmp 8) rfl (w.heap.size+1) 167 _ X0 (by rfl) (by rfl) x2 (by rw[HX2.out];rfl) (by rw[HX2.out];rfl) HX3.out ?_;have b3:=bm b2 (g:=w.heap.size+1) (by omega) X0;have m3:=(setRow_other w2 (w.heap.size+1) w.heap.size X0 (by omega)).trans m2;have x3:=setRow_heap w2 (w.heap.size+1) _ X0 _ _ x2;clear b2 m2 x2 HX1 HX3 HS1;generalize w2.setRow (w.heap.size+1) X0=w3 at b3 m3 x3⊢;have q0:w3.cell? ⟨w.heap.size,0,none⟩=some (.int .i64 p.op):=(aq m3 0).trans (by rw[←HP.out];rfl);go_simp;have f0:(p.op==0)=false:=aE (fun h=>by rw[h] at hn;exact hn (by decide));have f1:(p.op==1)=false:=aE (fun h=>by rw[h] at hn;exact hn (by decide));have f2:(p.op==2)=false:=aE (fun h=>by rw[h] at hn;exact hn (by decide));have f3:(p.op==3)=false:=aE (fun h=>by rw[h] at hn;exact hn (by decide));have f4:(p.op==4)=false:=aE (fun h=>by rw[h] at hn;exact hn (by decide));have f5:(p.op==5)=false:=aE (fun h=>by rw[h] at hn;exact hn (by decide));have f6:(p.op==6)=false:=aE (fun h=>by rw[h] at hn;exact hn (by decide));have f7:(p.op==7)=false:=aE (fun h=>by rw[h] at hn;exact hn (by decide));have f8:(p.op==8)=false:=aE (fun h=>by rw[h] at hn;exact hn (by decide));have hO:OK=false:=by
  rw[←HOK.out];simp only[aY,aZ,or_false,not_or] at hn
  simp[bU,hn]
 have HO:=hid hO;clear hO hn
 go_wp2_with fail
 go_ret
 exact⟨by rw[HO.out];rfl,b3⟩
theorem bl{T K c:Int}(h:T=K):(T==c)=(K==c):=by rw[h]
theorem xS(T:Int)(hT:T=3∨T=5∨T=6∨T=8)(p:Fl)(u:Value)(w:World)(hu:ct w u p.any)(hok:p.ok)(hE:Env w)(hop:p.op=T):
  Cr 159 #[.agg (p.row u)] w (.bool (bU p)):=by
 rcases hT with hT|hT|hT|hT
 all_goals
  have HT:=hid hT;have j0:=bl (c:=0) hT;have j1:=bl (c:=1) hT;have j2:=bl (c:=2) hT;have j3:=bl (c:=3) hT;have j5:=bl (c:=5) hT;have j6:=bl (c:=6) hT;have j8:=bl (c:=8) hT;have j4:=bl (c:=4) hT;have j7:=bl (c:=7) hT;clear hT;obtain⟨OK,hOK⟩:=nmm (bU p);rw[hOK];have HOK:=hid hOK;clear hOK;generalize hP:p.row u=P;have hP2:P.size=7:=by rw[←hP];rfl
  obtain⟨HP,HP2⟩:=Cg hP hP2;clear hP hP2;obtain⟨k1,k2,k3,k4,k5,k6⟩:=hok;obtain⟨HK6,HE,HU⟩:=Ch k6 hE hu;clear hu hE k6;obtain⟨X0,hX0⟩:=nmm (Fl.row ⟨T,0,p.typ,[],[],[],[]⟩ (Sn));have hX1:(#[.int .i64 T,I0,.string ⟨p.typ.toArray⟩,Es,Es,Es,Sn]:Array Value)=X0:=hX0;have hX2:X0.size=7:=by rw[←hX0];rfl
  have hX3:X0.all (·.oneCell')=true:=by rw[←hX0];simp[Fl.row,Value.oneCell']
  obtain⟨HX0,HX1,HX2,HX3⟩:=Ci hX0 hX1 hX2 hX3;clear hX0 hX1 hX2 hX3;have b1:=alb w P 167;have m1:=alz w P 167;have hs1:(w.alloc (.cells P 167)).heap.size=w.heap.size+1:=by simp
  have HS1:=hid hs1;clear hs1
  go_enter Tryz.func159,Tryz.ntmps159
  go_upto_region 1 with fail
  generalize w.alloc (.cells P 167)=w1 at b1 m1 HS1⊢;have q0:w1.cell? ⟨w.heap.size,0,none⟩=some (.int .i64 T):=(aq m1 0).trans (by rw[←HP.out];simp[Fl.row,hop]);have q2:w1.cell? ⟨w.heap.size,2,none⟩=some (.string ⟨p.typ.toArray⟩):=(aq m1 2).trans (by rw[←HP.out];rfl);refine aQ ?_
  iterate 4 (refine aB rfl (kkn ?_))
  refine aB rfl fun K hK=>?_
  go_simp;rw[HX1.out];refine hK _ _ ?_;clear hK K
  refine aB rfl (kkn ?_);clear q0 q2;have b2:=b1.trans ((aA w1.heap.size w1).alloc (ah _) (.cells Zf 167)|>.mono b1.size);have m2:=(alloc_old w1 (.cells Zf 167) w.heap.size (gl m1)).trans m1;have x2:(w1.alloc (.cells Zf 167)).heap[w.heap.size+1]?=some (.cells Zf 167 (0,0)):=bC _ _ _ (by rw[HS1.out]);rw[HS1.out];clear b1 m1;generalize w1.alloc (.cells Zf 167)=w2 at b2 m2 x2⊢;refine bh rfl 167 (.tmp 3) (.tmp 8) rfl (w.heap.size+1) 167 _ X0 (by rfl) (by rfl) x2 (by rw[HX2.out];rfl) (by rw[HX2.out];rfl) HX3.out ?_;have b3:=bm b2 (g:=w.heap.size+1) (by omega) X0;have m3:=(setRow_other w2 (w.heap.size+1) w.heap.size X0 (by omega)).trans m2;have x3:=setRow_heap w2 (w.heap.size+1) _ X0 _ _ x2;clear b2 m2 x2 HX1 HX3 HS1;generalize w2.setRow (w.heap.size+1) X0=w3 at b3 m3 x3⊢;have q0:w3.cell? ⟨w.heap.size,0,none⟩=some (.int .i64 T):=(aq m3 0).trans (by rw[←HP.out];simp[Fl.row,hop]);go_simp;have q3:w3.cell? ⟨w.heap.size,3,none⟩=some (.string ⟨p.value.toArray⟩):=(aq m3 3).trans (by rw[←HP.out];rfl);have x3':w3.heap[w.heap.size+1]?=some (.cells (Fl.row ⟨T,0,p.typ,[],[],[],[]⟩ (Sn)) 167 (0,0)):=by rw[HX0.out];exact x3
  have s3:=cval x3' 3 Es;have z3:=aj x3' 3
  go_upto_region 19 with fail
  have x4s:(w3.setCell ⟨w.heap.size+1,3,none⟩ (.string ⟨p.value.toArray⟩)).heap[w.heap.size+1]?=some (.cells (Fl.row ⟨T,0,p.typ,p.value,[],[],[]⟩ (Sn)) 167 (0,0)):=cq (i:=3) (u:=.string ⟨p.value.toArray⟩) x3';have m4:=(aX w3 ⟨w.heap.size+1,3,none⟩ (.string ⟨p.value.toArray⟩) w.heap.size (by show w.heap.size≠w.heap.size+1;omega)).trans m3;have b4:=b3.setCell (p:=⟨w.heap.size+1,3,none⟩) (by show w.heap.size≤w.heap.size+1;omega) (.string ⟨p.value.toArray⟩);obtain⟨X4,hX4⟩:=nmm (Fl.row ⟨T,0,p.typ,p.value,[],[],[]⟩ (Sn));have x4:(w3.setCell ⟨w.heap.size+1,3,none⟩ (.string ⟨p.value.toArray⟩)).heap[w.heap.size+1]?=some (.cells X4 167 (0,0)):=by rw[←hX4];exact x4s
  have hX5:X4.size=7:=by rw[←hX4];rfl
  obtain⟨HX4,HX5⟩:=Cg hX4 hX5;clear hX4 hX5 x4s x3' x3 m3 b3 s3 z3 q3 q0 HX0 HX2;generalize w3.setCell ⟨w.heap.size+1,3,none⟩ (.string ⟨p.value.toArray⟩)=w4 at x4 m4 b4⊢;have ks:=gc p ⟨T,0,p.typ,p.value,[],[],[]⟩ u (Sn) w4 (HU.out.below b4) (⟨none,0,rfl,ah _,fun h=>absurd rfl h⟩) (by omega) (by simp;try omega);rw[HP.out,HX4.out] at ks;have hAll:OK=(di p ⟨T,0,p.typ,p.value,[],[],[]⟩&&gr p.typ):=by rw[←HOK.out];simp[bU,di,hop,HT.out,Bool.and_assoc]
  obtain⟨B,hB⟩:=nmm (di p ⟨T,0,p.typ,p.value,[],[],[]⟩);rw[hB] at ks hAll;have HALL:=hid hAll;clear hAll hB
  go_wp2_with (first|(refine bg rfl 167 (.tmp 1) rfl w.heap.size 167 _ (0,0) (by rfl) m4 _ Tryz.underlying167 rfl (by rw[HP2.out];rfl) ?_)|(refine bg rfl 167 (.tmp 3) rfl (w.heap.size+1) 167 _ (0,0) (by rfl) x4 _ Tryz.underlying167 rfl (by rw[HX5.out];rfl) ?_))
  refine ag ks ?_;rintro e w20 ⟨rfl,hb⟩;have m20:=bkk hb m4;have b20:=btt b4 hb;clear ks hb m4 x4 b4;cases B
  ·go_wp2_with fail
   go_ret
   exact⟨by rw[HALL.out];rfl,b20⟩
  ·have q2:w20.cell? ⟨w.heap.size,2,none⟩=some (.string ⟨p.typ.toArray⟩):=(aq m20 2).trans (by rw[←HP.out];rfl)
   have ki:=iT p.typ w20 (by omega) (HE.out.below b20)
   go_wp2_with fail
   refine ag ki ?_;rintro e w21 ⟨rfl,hb⟩;have b21:=btt b20 hb;clear ki hb b20 q2 m20
   go_wp2_with fail
   go_ret
   exact⟨by rw[HALL.out];simp,b21⟩
theorem Cf(p:Fl)(u:Value)(w:World)(hu:ct w u p.any)(hok:p.ok)(hE:Env w)(hop:p.op=0):
  Cr 159 #[.agg (p.row u)] w (.bool (bU p)):=by
 obtain⟨OK,hOK⟩:=nmm (bU p);rw[hOK];have HOK:=hid hOK;clear hOK;generalize hP:p.row u=P;have hP2:P.size=7:=by rw[←hP];rfl
 obtain⟨HP,HP2⟩:=Cg hP hP2;clear hP hP2;obtain⟨k1,k2,k3,k4,k5,k6⟩:=hok;obtain⟨HK6,HE,HU⟩:=Ch k6 hE hu;clear hu hE k6;obtain⟨X0,hX0⟩:=nmm (Fl.row ⟨0,0,p.typ,[],[],[],[]⟩ (Sn));have hX1:(#[I0,I0,.string ⟨p.typ.toArray⟩,Es,Es,Es,Sn]:Array Value)=X0:=hX0;have hX2:X0.size=7:=by rw[←hX0];rfl
 have hX3:X0.all (·.oneCell')=true:=by rw[←hX0];simp[Fl.row,Value.oneCell']
 obtain⟨HX0,HX1,HX2,HX3⟩:=Ci hX0 hX1 hX2 hX3;clear hX0 hX1 hX2 hX3;have b1:=alb w P 167;have m1:=alz w P 167;have hs1:(w.alloc (.cells P 167)).heap.size=w.heap.size+1:=by simp
 have HS1:=hid hs1;clear hs1
 go_enter Tryz.func159,Tryz.ntmps159
 go_upto_region 1 with fail
 generalize w.alloc (.cells P 167)=w1 at b1 m1 HS1⊢;have q0:w1.cell? ⟨w.heap.size,0,none⟩=some (I0):=(aq m1 0).trans (by rw[←HP.out];simp[Fl.row,hop]);have q2:w1.cell? ⟨w.heap.size,2,none⟩=some (.string ⟨p.typ.toArray⟩):=(aq m1 2).trans (by rw[←HP.out];rfl);refine aQ ?_
 iterate 4 (refine aB rfl (kkn ?_))
 refine aB rfl fun K hK=>?_
 go_simp;rw[HX1.out];refine hK _ _ ?_;clear hK K
 refine aB rfl (kkn ?_);clear q0 q2;have b2:=b1.trans ((aA w1.heap.size w1).alloc (ah _) (.cells Zf 167)|>.mono b1.size);have m2:=(alloc_old w1 (.cells Zf 167) w.heap.size (gl m1)).trans m1;have x2:(w1.alloc (.cells Zf 167)).heap[w.heap.size+1]?=some (.cells Zf 167 (0,0)):=bC _ _ _ (by rw[HS1.out]);rw[HS1.out];clear b1 m1;generalize w1.alloc (.cells Zf 167)=w2 at b2 m2 x2⊢;refine bh rfl 167 (.tmp 3) (.tmp 8) rfl (w.heap.size+1) 167 _ X0 (by rfl) (by rfl) x2 (by rw[HX2.out];rfl) (by rw[HX2.out];rfl) HX3.out ?_;have b3:=bm b2 (g:=w.heap.size+1) (by omega) X0;have m3:=(setRow_other w2 (w.heap.size+1) w.heap.size X0 (by omega)).trans m2;have x3:=setRow_heap w2 (w.heap.size+1) _ X0 _ _ x2;clear b2 m2 x2 HX1 HX3 HS1;generalize w2.setRow (w.heap.size+1) X0=w3 at b3 m3 x3⊢;have q0:w3.cell? ⟨w.heap.size,0,none⟩=some (I0):=(aq m3 0).trans (by rw[←HP.out];simp[Fl.row,hop]);go_simp
 go_upto_region 7 with fail
 clear q0;have T:w3.drew.heap[w.heap.size]?=some (.cells P 167 (0,0)):=m3;have D:Below w.heap.size w w3.drew:=b3.drew;have Y:w3.drew.heap[w.heap.size+1]?=some (.cells (Fl.row ⟨0,0,p.typ,[],[],[],[]⟩ (Sn)) 167 (0,0)):=by rw[HX0.out];exact x3
 refine aR (S:=fun w'=>w'.heap[w.heap.size]?=some (.cells P 167 (0,0))) (by kernel_rfl) ?_
 change wpAnyH _ _ _ _ _ _ _ _ w3.drew
 clear m3 b3 x3 HX0 HX2;generalize w3.drew=w4 at T D Y⊢;refine tp 0 ⟨w.heap.size,1,none⟩ rfl T ?_;refine tn 1 (.int .i64 p.n) rfl (fun w' hS=>by have q:=(aq hS 1).trans (show _=some (Value.int .i64 p.n) from by rw[←HP.out];rfl);go_simp) T ?_;refine tp 2 ⟨w.heap.size+1,2,none⟩ rfl T ?_;have s:=cval Y 2 (.string ⟨p.typ.toArray⟩);have z:=aj Y 2;have Y1:(w4.setCell ⟨w.heap.size+1,2,none⟩ (Es)).heap[w.heap.size+1]?=some (.cells (Fl.row ⟨0,0,[],[],[],[],[]⟩ (Sn)) 167 (0,0)):=cq (i:=2) (u:=Es) Y;have T1:(w4.setCell ⟨w.heap.size+1,2,none⟩ (Es)).heap[w.heap.size]?=some (.cells P 167 (0,0)):=(aX w4 ⟨w.heap.size+1,2,none⟩ _ w.heap.size (by show w.heap.size≠w.heap.size+1;omega)).trans T;have D1:=D.setCell (p:=⟨w.heap.size+1,2,none⟩) (by show w.heap.size≤w.heap.size+1;omega) (Es);refine ao 3 rfl (kks T1 ?_);clear s z Y T D;generalize w4.setCell ⟨w.heap.size+1,2,none⟩ (Es)=w5 at T1 D1 Y1⊢;refine tp 4 ⟨w.heap.size+1,1,none⟩ rfl T1 ?_;have s:=cval Y1 1 I0;have z:=aj Y1 1;have x6s:(w5.setCell ⟨w.heap.size+1,1,none⟩ (.int .i64 p.n)).heap[w.heap.size+1]?=some (.cells (Fl.row ⟨0,p.n,[],[],[],[],[]⟩ (Sn)) 167 (0,0)):=cq (i:=1) (u:=.int .i64 p.n) Y1;have m6:(w5.setCell ⟨w.heap.size+1,1,none⟩ (.int .i64 p.n)).heap[w.heap.size]?=some (.cells P 167 (0,0)):=(aX w5 ⟨w.heap.size+1,1,none⟩ _ w.heap.size (by show w.heap.size≠w.heap.size+1;omega)).trans T1;have b6:=D1.setCell (p:=⟨w.heap.size+1,1,none⟩) (by show w.heap.size≤w.heap.size+1;omega) (.int .i64 p.n);refine ao 5 rfl (kks m6 ?_);clear s z Y1 T1 D1;refine ba (by kernel_rfl) ?_ _
 try simp only[Exit.then]
 refine‹∀(a:Act) (w:World),Code.wp _ _ _ a w→_› _ _ ?_;obtain⟨X6,hX6⟩:=nmm (Fl.row ⟨0,p.n,[],[],[],[],[]⟩ (Sn));have x6:(w5.setCell ⟨w.heap.size+1,1,none⟩ (.int .i64 p.n)).heap[w.heap.size+1]?=some (.cells X6 167 (0,0)):=by rw[←hX6];exact x6s
 have hX7:X6.size=7:=by rw[←hX6];rfl
 obtain⟨HX6,HX7⟩:=Cg hX6 hX7;clear hX6 hX7 x6s;generalize w5.setCell ⟨w.heap.size+1,1,none⟩ (.int .i64 p.n)=w6 at x6 m6 b6⊢;have ks:=gc p ⟨0,p.n,[],[],[],[],[]⟩ u (Sn) w6 (HU.out.below b6) (⟨none,0,rfl,ah _,fun h=>absurd rfl h⟩) (by omega) (by simp);rw[HP.out,HX6.out] at ks;have hAll:OK=(di p ⟨0,p.n,[],[],[],[],[]⟩&&decide (0≤p.n)&&(decide ((0:Int)≠2)||decide (p.n=1))):=by rw[←HOK.out];simp[bU,di,hop,Bool.and_assoc]
 obtain⟨B,hB⟩:=nmm (di p ⟨0,p.n,[],[],[],[],[]⟩);rw[hB] at ks hAll;have HALL:=hid hAll;clear hAll hB
 go_wp2_with (first|(refine bg rfl 167 (.tmp 1) rfl w.heap.size 167 _ (0,0) (by rfl) m6 _ Tryz.underlying167 rfl (by rw[HP2.out];rfl) ?_)|(refine bg rfl 167 (.tmp 3) rfl (w.heap.size+1) 167 _ (0,0) (by rfl) x6 _ Tryz.underlying167 rfl (by rw[HX7.out];rfl) ?_))
 refine ag ks ?_;rintro e w20 ⟨rfl,hb⟩;have m20:=bkk hb m6;have b20:=btt b6 hb;clear ks hb m6 x6 b6;have q0:w20.cell? ⟨w.heap.size,0,none⟩=some (I0):=(aq m20 0).trans (by rw[←HP.out];simp[Fl.row,hop]);have q1:w20.cell? ⟨w.heap.size,1,none⟩=some (.int .i64 p.n):=(aq m20 1).trans (by rw[←HP.out];rfl);cases B
 ·go_wp2_with fail
  go_ret
  exact⟨by rw[HALL.out];rfl,b20⟩
 ·by_cases hn:0≤p.n
  ·have f0:decide (p.n≥0)=true:=aC hn
   have f1:decide (0≤p.n)=true:=aC hn;have hO:OK=true:=by rw[HALL.out,f1];rfl
   have HO:=hid hO;clear hO HALL
   go_wp2_with fail
   go_ret
   exact⟨by rw[HO.out];rfl,b20⟩
  ·have f0:decide (p.n≥0)=false:=an hn
   have f1:decide (0≤p.n)=false:=an hn;have hO:OK=false:=by rw[HALL.out,f1];rfl
   have HO:=hid hO;clear hO HALL
   go_wp2_with fail
   go_ret
   exact⟨by rw[HO.out];rfl,b20⟩
theorem tA(p:Fl)(u:Value)(w:World)(hu:ct w u p.any)(hok:p.ok)(hE:Env w)(hop:p.op=1):
  Cr 159 #[.agg (p.row u)] w (.bool (bU p)):=by
 obtain⟨OK,hOK⟩:=nmm (bU p);rw[hOK];have HOK:=hid hOK;clear hOK;generalize hP:p.row u=P;have hP2:P.size=7:=by rw[←hP];rfl
 obtain⟨HP,HP2⟩:=Cg hP hP2;clear hP hP2;obtain⟨k1,k2,k3,k4,k5,k6⟩:=hok;obtain⟨HK6,HE,HU⟩:=Ch k6 hE hu;clear hu hE k6;obtain⟨X0,hX0⟩:=nmm (Fl.row ⟨1,0,p.typ,[],[],[],[]⟩ (Sn));have hX1:(#[.int .i64 1,I0,.string ⟨p.typ.toArray⟩,Es,Es,Es,Sn]:Array Value)=X0:=hX0;have hX2:X0.size=7:=by rw[←hX0];rfl
 have hX3:X0.all (·.oneCell')=true:=by rw[←hX0];simp[Fl.row,Value.oneCell']
 obtain⟨HX0,HX1,HX2,HX3⟩:=Ci hX0 hX1 hX2 hX3;clear hX0 hX1 hX2 hX3;have b1:=alb w P 167;have m1:=alz w P 167;have hs1:(w.alloc (.cells P 167)).heap.size=w.heap.size+1:=by simp
 have HS1:=hid hs1;clear hs1
 go_enter Tryz.func159,Tryz.ntmps159
 go_upto_region 1 with fail
 generalize w.alloc (.cells P 167)=w1 at b1 m1 HS1⊢;have q0:w1.cell? ⟨w.heap.size,0,none⟩=some (.int .i64 1):=(aq m1 0).trans (by rw[←HP.out];simp[Fl.row,hop]);have q2:w1.cell? ⟨w.heap.size,2,none⟩=some (.string ⟨p.typ.toArray⟩):=(aq m1 2).trans (by rw[←HP.out];rfl);refine aQ ?_
 iterate 4 (refine aB rfl (kkn ?_))
 refine aB rfl fun K hK=>?_
 go_simp;rw[HX1.out];refine hK _ _ ?_;clear hK K
 refine aB rfl (kkn ?_);clear q0 q2;have b2:=b1.trans ((aA w1.heap.size w1).alloc (ah _) (.cells Zf 167)|>.mono b1.size);have m2:=(alloc_old w1 (.cells Zf 167) w.heap.size (gl m1)).trans m1;have x2:(w1.alloc (.cells Zf 167)).heap[w.heap.size+1]?=some (.cells Zf 167 (0,0)):=bC _ _ _ (by rw[HS1.out]);rw[HS1.out];clear b1 m1;generalize w1.alloc (.cells Zf 167)=w2 at b2 m2 x2⊢;refine bh rfl 167 (.tmp 3) (.tmp 8) rfl (w.heap.size+1) 167 _ X0 (by rfl) (by rfl) x2 (by rw[HX2.out];rfl) (by rw[HX2.out];rfl) HX3.out ?_;have b3:=bm b2 (g:=w.heap.size+1) (by omega) X0;have m3:=(setRow_other w2 (w.heap.size+1) w.heap.size X0 (by omega)).trans m2;have x3:=setRow_heap w2 (w.heap.size+1) _ X0 _ _ x2;clear b2 m2 x2 HX1 HX3 HS1;generalize w2.setRow (w.heap.size+1) X0=w3 at b3 m3 x3⊢;have q0:w3.cell? ⟨w.heap.size,0,none⟩=some (.int .i64 1):=(aq m3 0).trans (by rw[←HP.out];simp[Fl.row,hop]);go_simp
 go_upto_region 7 with fail
 clear q0;have T:w3.drew.heap[w.heap.size]?=some (.cells P 167 (0,0)):=m3;have D:Below w.heap.size w w3.drew:=b3.drew;have Y:w3.drew.heap[w.heap.size+1]?=some (.cells (Fl.row ⟨1,0,p.typ,[],[],[],[]⟩ (Sn)) 167 (0,0)):=by rw[HX0.out];exact x3
 refine aR (S:=fun w'=>w'.heap[w.heap.size]?=some (.cells P 167 (0,0))) (by kernel_rfl) ?_
 change wpAnyH _ _ _ _ _ _ _ _ w3.drew
 clear m3 b3 x3 HX0 HX2;generalize w3.drew=w4 at T D Y⊢;refine tp 0 ⟨w.heap.size,1,none⟩ rfl T ?_;refine tn 1 (.int .i64 p.n) rfl (fun w' hS=>by have q:=(aq hS 1).trans (show _=some (Value.int .i64 p.n) from by rw[←HP.out];rfl);go_simp) T ?_;refine tp 2 ⟨w.heap.size+1,2,none⟩ rfl T ?_;have s:=cval Y 2 (.string ⟨p.typ.toArray⟩);have z:=aj Y 2;have Y1:(w4.setCell ⟨w.heap.size+1,2,none⟩ (Es)).heap[w.heap.size+1]?=some (.cells (Fl.row ⟨1,0,[],[],[],[],[]⟩ (Sn)) 167 (0,0)):=cq (i:=2) (u:=Es) Y;have T1:(w4.setCell ⟨w.heap.size+1,2,none⟩ (Es)).heap[w.heap.size]?=some (.cells P 167 (0,0)):=(aX w4 ⟨w.heap.size+1,2,none⟩ _ w.heap.size (by show w.heap.size≠w.heap.size+1;omega)).trans T;have D1:=D.setCell (p:=⟨w.heap.size+1,2,none⟩) (by show w.heap.size≤w.heap.size+1;omega) (Es);refine ao 3 rfl (kks T1 ?_);clear s z Y T D;generalize w4.setCell ⟨w.heap.size+1,2,none⟩ (Es)=w5 at T1 D1 Y1⊢;refine tp 4 ⟨w.heap.size+1,1,none⟩ rfl T1 ?_;have s:=cval Y1 1 I0;have z:=aj Y1 1;have x6s:(w5.setCell ⟨w.heap.size+1,1,none⟩ (.int .i64 p.n)).heap[w.heap.size+1]?=some (.cells (Fl.row ⟨1,p.n,[],[],[],[],[]⟩ (Sn)) 167 (0,0)):=cq (i:=1) (u:=.int .i64 p.n) Y1;have m6:(w5.setCell ⟨w.heap.size+1,1,none⟩ (.int .i64 p.n)).heap[w.heap.size]?=some (.cells P 167 (0,0)):=(aX w5 ⟨w.heap.size+1,1,none⟩ _ w.heap.size (by show w.heap.size≠w.heap.size+1;omega)).trans T1;have b6:=D1.setCell (p:=⟨w.heap.size+1,1,none⟩) (by show w.heap.size≤w.heap.size+1;omega) (.int .i64 p.n);refine ao 5 rfl (kks m6 ?_);clear s z Y1 T1 D1;refine ba (by kernel_rfl) ?_ _
 try simp only[Exit.then]
 refine‹∀(a:Act) (w:World),Code.wp _ _ _ a w→_› _ _ ?_;obtain⟨X6,hX6⟩:=nmm (Fl.row ⟨1,p.n,[],[],[],[],[]⟩ (Sn));have x6:(w5.setCell ⟨w.heap.size+1,1,none⟩ (.int .i64 p.n)).heap[w.heap.size+1]?=some (.cells X6 167 (0,0)):=by rw[←hX6];exact x6s
 have hX7:X6.size=7:=by rw[←hX6];rfl
 obtain⟨HX6,HX7⟩:=Cg hX6 hX7;clear hX6 hX7 x6s;generalize w5.setCell ⟨w.heap.size+1,1,none⟩ (.int .i64 p.n)=w6 at x6 m6 b6⊢;have ks:=gc p ⟨1,p.n,[],[],[],[],[]⟩ u (Sn) w6 (HU.out.below b6) (⟨none,0,rfl,ah _,fun h=>absurd rfl h⟩) (by omega) (by simp);rw[HP.out,HX6.out] at ks;have hAll:OK=(di p ⟨1,p.n,[],[],[],[],[]⟩&&decide (0≤p.n)&&(decide ((1:Int)≠2)||decide (p.n=1))):=by rw[←HOK.out];simp[bU,di,hop,Bool.and_assoc]
 obtain⟨B,hB⟩:=nmm (di p ⟨1,p.n,[],[],[],[],[]⟩);rw[hB] at ks hAll;have HALL:=hid hAll;clear hAll hB
 go_wp2_with (first|(refine bg rfl 167 (.tmp 1) rfl w.heap.size 167 _ (0,0) (by rfl) m6 _ Tryz.underlying167 rfl (by rw[HP2.out];rfl) ?_)|(refine bg rfl 167 (.tmp 3) rfl (w.heap.size+1) 167 _ (0,0) (by rfl) x6 _ Tryz.underlying167 rfl (by rw[HX7.out];rfl) ?_))
 refine ag ks ?_;rintro e w20 ⟨rfl,hb⟩;have m20:=bkk hb m6;have b20:=btt b6 hb;clear ks hb m6 x6 b6;have q0:w20.cell? ⟨w.heap.size,0,none⟩=some (.int .i64 1):=(aq m20 0).trans (by rw[←HP.out];simp[Fl.row,hop]);have q1:w20.cell? ⟨w.heap.size,1,none⟩=some (.int .i64 p.n):=(aq m20 1).trans (by rw[←HP.out];rfl);cases B
 ·go_wp2_with fail
  go_ret
  exact⟨by rw[HALL.out];rfl,b20⟩
 ·by_cases hn:0≤p.n
  ·have f0:decide (p.n≥0)=true:=aC hn
   have f1:decide (0≤p.n)=true:=aC hn;have hO:OK=true:=by rw[HALL.out,f1];rfl
   have HO:=hid hO;clear hO HALL
   go_wp2_with fail
   go_ret
   exact⟨by rw[HO.out];rfl,b20⟩
  ·have f0:decide (p.n≥0)=false:=an hn
   have f1:decide (0≤p.n)=false:=an hn;have hO:OK=false:=by rw[HALL.out,f1];rfl
   have HO:=hid hO;clear hO HALL
   go_wp2_with fail
   go_ret
   exact⟨by rw[HO.out];rfl,b20⟩
theorem tB(p:Fl)(u:Value)(w:World)(hu:ct w u p.any)(hok:p.ok)(hE:Env w)(hop:p.op=2):
  Cr 159 #[.agg (p.row u)] w (.bool (bU p)):=by
 obtain⟨OK,hOK⟩:=nmm (bU p);rw[hOK];have HOK:=hid hOK;clear hOK;generalize hP:p.row u=P;have hP2:P.size=7:=by rw[←hP];rfl
 obtain⟨HP,HP2⟩:=Cg hP hP2;clear hP hP2;obtain⟨k1,k2,k3,k4,k5,k6⟩:=hok;obtain⟨HK6,HE,HU⟩:=Ch k6 hE hu;clear hu hE k6;obtain⟨X0,hX0⟩:=nmm (Fl.row ⟨2,0,p.typ,[],[],[],[]⟩ (Sn));have hX1:(#[.int .i64 2,I0,.string ⟨p.typ.toArray⟩,Es,Es,Es,Sn]:Array Value)=X0:=hX0;have hX2:X0.size=7:=by rw[←hX0];rfl
 have hX3:X0.all (·.oneCell')=true:=by rw[←hX0];simp[Fl.row,Value.oneCell']
 obtain⟨HX0,HX1,HX2,HX3⟩:=Ci hX0 hX1 hX2 hX3;clear hX0 hX1 hX2 hX3;have b1:=alb w P 167;have m1:=alz w P 167;have hs1:(w.alloc (.cells P 167)).heap.size=w.heap.size+1:=by simp
 have HS1:=hid hs1;clear hs1
 go_enter Tryz.func159,Tryz.ntmps159
 go_upto_region 1 with fail
 generalize w.alloc (.cells P 167)=w1 at b1 m1 HS1⊢;have q0:w1.cell? ⟨w.heap.size,0,none⟩=some (.int .i64 2):=(aq m1 0).trans (by rw[←HP.out];simp[Fl.row,hop]);have q2:w1.cell? ⟨w.heap.size,2,none⟩=some (.string ⟨p.typ.toArray⟩):=(aq m1 2).trans (by rw[←HP.out];rfl);refine aQ ?_
 iterate 4 (refine aB rfl (kkn ?_))
 refine aB rfl fun K hK=>?_
 go_simp;rw[HX1.out];refine hK _ _ ?_;clear hK K
 refine aB rfl (kkn ?_);clear q0 q2;have b2:=b1.trans ((aA w1.heap.size w1).alloc (ah _) (.cells Zf 167)|>.mono b1.size);have m2:=(alloc_old w1 (.cells Zf 167) w.heap.size (gl m1)).trans m1;have x2:(w1.alloc (.cells Zf 167)).heap[w.heap.size+1]?=some (.cells Zf 167 (0,0)):=bC _ _ _ (by rw[HS1.out]);rw[HS1.out];clear b1 m1;generalize w1.alloc (.cells Zf 167)=w2 at b2 m2 x2⊢;refine bh rfl 167 (.tmp 3) (.tmp 8) rfl (w.heap.size+1) 167 _ X0 (by rfl) (by rfl) x2 (by rw[HX2.out];rfl) (by rw[HX2.out];rfl) HX3.out ?_;have b3:=bm b2 (g:=w.heap.size+1) (by omega) X0;have m3:=(setRow_other w2 (w.heap.size+1) w.heap.size X0 (by omega)).trans m2;have x3:=setRow_heap w2 (w.heap.size+1) _ X0 _ _ x2;clear b2 m2 x2 HX1 HX3 HS1;generalize w2.setRow (w.heap.size+1) X0=w3 at b3 m3 x3⊢;have q0:w3.cell? ⟨w.heap.size,0,none⟩=some (.int .i64 2):=(aq m3 0).trans (by rw[←HP.out];simp[Fl.row,hop]);go_simp
 go_upto_region 7 with fail
 clear q0;have T:w3.drew.heap[w.heap.size]?=some (.cells P 167 (0,0)):=m3;have D:Below w.heap.size w w3.drew:=b3.drew;have Y:w3.drew.heap[w.heap.size+1]?=some (.cells (Fl.row ⟨2,0,p.typ,[],[],[],[]⟩ (Sn)) 167 (0,0)):=by rw[HX0.out];exact x3
 refine aR (S:=fun w'=>w'.heap[w.heap.size]?=some (.cells P 167 (0,0))) (by kernel_rfl) ?_
 change wpAnyH _ _ _ _ _ _ _ _ w3.drew
 clear m3 b3 x3 HX0 HX2;generalize w3.drew=w4 at T D Y⊢;refine tp 0 ⟨w.heap.size,1,none⟩ rfl T ?_;refine tn 1 (.int .i64 p.n) rfl (fun w' hS=>by have q:=(aq hS 1).trans (show _=some (Value.int .i64 p.n) from by rw[←HP.out];rfl);go_simp) T ?_;refine tp 2 ⟨w.heap.size+1,2,none⟩ rfl T ?_;have s:=cval Y 2 (.string ⟨p.typ.toArray⟩);have z:=aj Y 2;have Y1:(w4.setCell ⟨w.heap.size+1,2,none⟩ (Es)).heap[w.heap.size+1]?=some (.cells (Fl.row ⟨2,0,[],[],[],[],[]⟩ (Sn)) 167 (0,0)):=cq (i:=2) (u:=Es) Y;have T1:(w4.setCell ⟨w.heap.size+1,2,none⟩ (Es)).heap[w.heap.size]?=some (.cells P 167 (0,0)):=(aX w4 ⟨w.heap.size+1,2,none⟩ _ w.heap.size (by show w.heap.size≠w.heap.size+1;omega)).trans T;have D1:=D.setCell (p:=⟨w.heap.size+1,2,none⟩) (by show w.heap.size≤w.heap.size+1;omega) (Es);refine ao 3 rfl (kks T1 ?_);clear s z Y T D;generalize w4.setCell ⟨w.heap.size+1,2,none⟩ (Es)=w5 at T1 D1 Y1⊢;refine tp 4 ⟨w.heap.size+1,1,none⟩ rfl T1 ?_;have s:=cval Y1 1 I0;have z:=aj Y1 1;have x6s:(w5.setCell ⟨w.heap.size+1,1,none⟩ (.int .i64 p.n)).heap[w.heap.size+1]?=some (.cells (Fl.row ⟨2,p.n,[],[],[],[],[]⟩ (Sn)) 167 (0,0)):=cq (i:=1) (u:=.int .i64 p.n) Y1;have m6:(w5.setCell ⟨w.heap.size+1,1,none⟩ (.int .i64 p.n)).heap[w.heap.size]?=some (.cells P 167 (0,0)):=(aX w5 ⟨w.heap.size+1,1,none⟩ _ w.heap.size (by show w.heap.size≠w.heap.size+1;omega)).trans T1;have b6:=D1.setCell (p:=⟨w.heap.size+1,1,none⟩) (by show w.heap.size≤w.heap.size+1;omega) (.int .i64 p.n);refine ao 5 rfl (kks m6 ?_);clear s z Y1 T1 D1;refine ba (by kernel_rfl) ?_ _
 try simp only[Exit.then]
 refine‹∀(a:Act) (w:World),Code.wp _ _ _ a w→_› _ _ ?_;obtain⟨X6,hX6⟩:=nmm (Fl.row ⟨2,p.n,[],[],[],[],[]⟩ (Sn));have x6:(w5.setCell ⟨w.heap.size+1,1,none⟩ (.int .i64 p.n)).heap[w.heap.size+1]?=some (.cells X6 167 (0,0)):=by rw[←hX6];exact x6s
 have hX7:X6.size=7:=by rw[←hX6];rfl
 obtain⟨HX6,HX7⟩:=Cg hX6 hX7;clear hX6 hX7 x6s;generalize w5.setCell ⟨w.heap.size+1,1,none⟩ (.int .i64 p.n)=w6 at x6 m6 b6⊢;have ks:=gc p ⟨2,p.n,[],[],[],[],[]⟩ u (Sn) w6 (HU.out.below b6) (⟨none,0,rfl,ah _,fun h=>absurd rfl h⟩) (by omega) (by simp);rw[HP.out,HX6.out] at ks;have hAll:OK=(di p ⟨2,p.n,[],[],[],[],[]⟩&&decide (0≤p.n)&&(decide ((2:Int)≠2)||decide (p.n=1))):=by rw[←HOK.out];simp[bU,di,hop,Bool.and_assoc]
 obtain⟨B,hB⟩:=nmm (di p ⟨2,p.n,[],[],[],[],[]⟩);rw[hB] at ks hAll;have HALL:=hid hAll;clear hAll hB
 go_wp2_with (first|(refine bg rfl 167 (.tmp 1) rfl w.heap.size 167 _ (0,0) (by rfl) m6 _ Tryz.underlying167 rfl (by rw[HP2.out];rfl) ?_)|(refine bg rfl 167 (.tmp 3) rfl (w.heap.size+1) 167 _ (0,0) (by rfl) x6 _ Tryz.underlying167 rfl (by rw[HX7.out];rfl) ?_))
 refine ag ks ?_;rintro e w20 ⟨rfl,hb⟩;have m20:=bkk hb m6;have b20:=btt b6 hb;clear ks hb m6 x6 b6;have q0:w20.cell? ⟨w.heap.size,0,none⟩=some (.int .i64 2):=(aq m20 0).trans (by rw[←HP.out];simp[Fl.row,hop]);have q1:w20.cell? ⟨w.heap.size,1,none⟩=some (.int .i64 p.n):=(aq m20 1).trans (by rw[←HP.out];rfl);cases B
 ·go_wp2_with fail
  go_ret
  exact⟨by rw[HALL.out];rfl,b20⟩
 ·by_cases hn:0≤p.n
  ·have f0:decide (p.n≥0)=true:=aC hn
   have f1:decide (0≤p.n)=true:=aC hn
   by_cases h1:p.n=1
   ·have f2:(p.n==1)=true:=by simpa using h1
    have hO:OK=true:=by rw[HALL.out,f1,aC h1];rfl
    have HO:=hid hO;clear hO h1 HALL
    go_wp2_with fail
    go_ret
    exact⟨by rw[HO.out];rfl,b20⟩
   ·have f2:(p.n==1)=false:=aE h1
    have hO:OK=false:=by rw[HALL.out,f1,an h1];rfl
    have HO:=hid hO;clear hO h1 HALL
    go_wp2_with fail
    go_ret
    exact⟨by rw[HO.out];rfl,b20⟩
  ·have f0:decide (p.n≥0)=false:=an hn
   have f1:decide (0≤p.n)=false:=an hn;have hO:OK=false:=by rw[HALL.out,f1];rfl
   have HO:=hid hO;clear hO HALL
   go_wp2_with fail
   go_ret
   exact⟨by rw[HO.out];rfl,b20⟩
end Go.Proofs.YthpcpdplcicfoaaGreatDoor
