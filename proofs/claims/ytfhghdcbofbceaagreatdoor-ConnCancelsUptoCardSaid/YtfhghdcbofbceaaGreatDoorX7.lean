/- FsD, FsE, ElJ. -/
import Derived.Deep.CutRange
import Derived.Test.YtfhghdcbofbceaaGreatDoorX6
namespace Go.Proofs.YtfhghdcbofbceaaGreatDoor
open Go.RowKit Go.Lib
set_option maxRecDepth 100000
set_option maxHeartbeats 16000000
theorem tC(p:Fl)(u:Value)(w:World)(hu:ct w u p.any)(hok:p.ok)(hE:Env w)(hop:p.op=4):
  Cr 123 #[.agg (p.row u)] w (.bool (bU p)):=by
 obtain⟨OK,hOK⟩:=nmm (bU p);rw[hOK];have HOK:=hid hOK;clear hOK;generalize hP:p.row u=P;have hP2:P.size=7:=by rw[←hP];rfl
 obtain⟨HP,HP2⟩:=Cg hP hP2;clear hP hP2;obtain⟨k1,k2,k3,k4,k5,k6⟩:=hok;obtain⟨HK6,HE,HU⟩:=Ch k6 hE hu;clear hu hE k6;obtain⟨X0,hX0⟩:=nmm (Fl.row ⟨4,0,p.typ,[],[],[],[]⟩ (Sn));have hX1:(#[.int .i64 4,I0,.string ⟨p.typ.toArray⟩,Es,Es,Es,Sn]:Array Value)=X0:=hX0;have hX2:X0.size=7:=by rw[←hX0];rfl
 have hX3:X0.all (·.oneCell')=true:=by rw[←hX0];simp[Fl.row,Value.oneCell']
 obtain⟨HX0,HX1,HX2,HX3⟩:=Ci hX0 hX1 hX2 hX3;clear hX0 hX1 hX2 hX3;have b1:=alb w P 141;have m1:=alz w P 141;have hs1:(w.alloc (.cells P 141)).heap.size=w.heap.size+1:=by simp
 have HS1:=hid hs1;clear hs1
 go_enter Tryz.func123,Tryz.ntmps123
 go_upto_region 1 with fail
 generalize w.alloc (.cells P 141)=w1 at b1 m1 HS1⊢;have q0:w1.cell? ⟨w.heap.size,0,none⟩=some (.int .i64 4):=(aq m1 0).trans (by rw[←HP.out];simp[Fl.row,hop]);have q2:w1.cell? ⟨w.heap.size,2,none⟩=some (.string ⟨p.typ.toArray⟩):=(aq m1 2).trans (by rw[←HP.out];rfl);refine aQ ?_
 iterate 4 (refine aB rfl (kkn ?_))
 refine aB rfl fun K hK=>?_
 go_simp;rw[HX1.out];refine hK _ _ ?_;clear hK K
 refine aB rfl (kkn ?_);clear q0 q2;have b2:=b1.trans ((aA w1.heap.size w1).alloc (ah _) (.cells Zf 141)|>.mono b1.size);have m2:=(alloc_old w1 (.cells Zf 141) w.heap.size (gl m1)).trans m1;have x2:Hc (w1.alloc (.cells Zf 141)) (w.heap.size+1) Zf 141:=fb _ _ _ (by rw[HS1.out]);rw[HS1.out];clear b1 m1;generalize w1.alloc (.cells Zf 141)=w2 at b2 m2 x2⊢;refine bh rfl 141 (.tmp 3) (.tmp 8) rfl (w.heap.size+1) 141 _ X0 (by rfl) (by rfl) x2 (by rw[HX2.out];rfl) (by rw[HX2.out];rfl) HX3.out ?_;have b3:=xo b2 (g:=w.heap.size+1) (by omega) X0;have m3:=(setRow_other w2 (w.heap.size+1) w.heap.size X0 (by omega)).trans m2;have x3:=setRow_heap w2 (w.heap.size+1) _ X0 _ _ x2;clear b2 m2 x2 HX1 HX3 HS1;generalize w2.setRow (w.heap.size+1) X0=w3 at b3 m3 x3⊢;have q0:w3.cell? ⟨w.heap.size,0,none⟩=some (.int .i64 4):=(aq m3 0).trans (by rw[←HP.out];simp[Fl.row,hop]);go_simp
 go_upto_region 15 with fail
 clear q0;have T:Hc w3.drew w.heap.size P 141:=m3;have D:Bw w w3.drew:=b3.drew;have Y0:Hc w3.drew (w.heap.size+1) (Fl.row ⟨4,0,p.typ,[],[],[],[]⟩ (Sn)) 141:=by rw[HX0.out];exact x3
 obtain⟨au,cu,hus⟩:∃a c,u=.slice a p.any.length c:=by obtain⟨a,c,h,_,_⟩:=HU.out;exact⟨a,c,h⟩
 refine aR (S:=fun w'=>Hc w' w.heap.size P 141) (by kernel_rfl) ?_
 change wpAnyH _ _ _ _ _ _ _ _ w3.drew
 clear m3 b3 x3 HX0 HX2;generalize w3.drew=wr0 at T D Y0⊢;refine tp 0 ⟨w.heap.size,4,none⟩ rfl T ?_;refine tn 1 (.string ⟨p.init.toArray⟩) rfl (fun w' hS=>by have q:=(aq hS 4).trans (show _=some (.string ⟨p.init.toArray⟩) from by rw[←HP.out];rfl);go_simp) T ?_;refine tp 2 ⟨w.heap.size,6,none⟩ rfl T ?_;refine tn 3 (.slice au p.any.length cu) rfl (fun w' hS=>by have q:=(aq hS 6).trans (show _=some (.slice au p.any.length cu) from by rw[←HP.out,←hus];rfl);go_simp) T ?_;refine tp 4 ⟨w.heap.size,5,none⟩ rfl T ?_;refine tn 5 (.string ⟨p.final.toArray⟩) rfl (fun w' hS=>by have q:=(aq hS 5).trans (show _=some (.string ⟨p.final.toArray⟩) from by rw[←HP.out];rfl);go_simp) T ?_;refine tp 6 ⟨w.heap.size+1,4,none⟩ rfl T ?_;have s:=cval Y0 4 Es;have z:=aj Y0 4;have Y1:Hc (wr0.setCell ⟨w.heap.size+1,4,none⟩ (.string ⟨p.init.toArray⟩)) (w.heap.size+1) (Fl.row ⟨4,0,p.typ,[],p.init,[],[]⟩ (Sn)) 141:=cq (i:=4) (u:=.string ⟨p.init.toArray⟩) Y0;have T':Hc (wr0.setCell ⟨w.heap.size+1,4,none⟩ (.string ⟨p.init.toArray⟩)) w.heap.size P 141:=(aX wr0 ⟨w.heap.size+1,4,none⟩ _ w.heap.size (by show w.heap.size≠w.heap.size+1;omega)).trans T;have D':=D.setCell (p:=⟨w.heap.size+1,4,none⟩) (by show w.heap.size≤w.heap.size+1;omega) (.string ⟨p.init.toArray⟩);refine ao 7 rfl (kks T' ?_);clear s z Y0 T D;have T:=T';have D:=D';clear T' D';generalize wr0.setCell ⟨w.heap.size+1,4,none⟩ (.string ⟨p.init.toArray⟩)=wr1 at T D Y1⊢;refine tp 8 ⟨w.heap.size+1,6,none⟩ rfl T ?_;have s:=cval Y1 6 Sn;have z:=aj Y1 6;have Y2:Hc (wr1.setCell ⟨w.heap.size+1,6,none⟩ (.slice au p.any.length cu)) (w.heap.size+1) (Fl.row ⟨4,0,p.typ,[],p.init,[],p.any⟩ (.slice au p.any.length cu)) 141:=cq (i:=6) (u:=.slice au p.any.length cu) Y1;have T':Hc (wr1.setCell ⟨w.heap.size+1,6,none⟩ (.slice au p.any.length cu)) w.heap.size P 141:=(aX wr1 ⟨w.heap.size+1,6,none⟩ _ w.heap.size (by show w.heap.size≠w.heap.size+1;omega)).trans T;have D':=D.setCell (p:=⟨w.heap.size+1,6,none⟩) (by show w.heap.size≤w.heap.size+1;omega) (.slice au p.any.length cu);refine ao 9 rfl (kks T' ?_);clear s z Y1 T D;have T:=T';have D:=D';clear T' D';generalize wr1.setCell ⟨w.heap.size+1,6,none⟩ (.slice au p.any.length cu)=wr2 at T D Y2⊢;refine tp 10 ⟨w.heap.size+1,5,none⟩ rfl T ?_;have s:=cval Y2 5 Es;have z:=aj Y2 5;have Y3:Hc (wr2.setCell ⟨w.heap.size+1,5,none⟩ (.string ⟨p.final.toArray⟩)) (w.heap.size+1) (Fl.row ⟨4,0,p.typ,[],p.init,p.final,p.any⟩ (.slice au p.any.length cu)) 141:=cq (i:=5) (u:=.string ⟨p.final.toArray⟩) Y2;have T':Hc (wr2.setCell ⟨w.heap.size+1,5,none⟩ (.string ⟨p.final.toArray⟩)) w.heap.size P 141:=(aX wr2 ⟨w.heap.size+1,5,none⟩ _ w.heap.size (by show w.heap.size≠w.heap.size+1;omega)).trans T
 have D':=D.setCell (p:=⟨w.heap.size+1,5,none⟩) (by show w.heap.size≤w.heap.size+1;omega) (.string ⟨p.final.toArray⟩);refine ao 11 rfl (kks T' ?_);clear s z Y2 T D;have T:=T';have D:=D';clear T' D';generalize wr2.setCell ⟨w.heap.size+1,5,none⟩ (.string ⟨p.final.toArray⟩)=wr3 at T D Y3⊢;refine xk (by kernel_rfl) ?_ _
 try simp only[Exit.then]
 refine‹∀(a:Act) (w:World),Code.wp _ _ _ a w→_› _ _ ?_;obtain⟨X6,hX6⟩:=nmm (Fl.row ⟨4,0,p.typ,[],p.init,p.final,p.any⟩ (.slice au p.any.length cu));rw[hX6] at Y3;have hX7:X6.size=7:=by rw[←hX6];rfl
 obtain⟨HX6,HX7,HUS⟩:=Ch hX6 hX7 hus;clear hX6 hX7 hus;have q4:wr3.cell? ⟨w.heap.size,4,none⟩=some (.string ⟨p.init.toArray⟩):=(aq T 4).trans (by rw[←HP.out];rfl);have q5:wr3.cell? ⟨w.heap.size,5,none⟩=some (.string ⟨p.final.toArray⟩):=(aq T 5).trans (by rw[←HP.out];rfl);have q6:wr3.cell? ⟨w.heap.size,6,none⟩=some (.slice au p.any.length cu):=(aq T 6).trans (by rw[←HP.out,←HUS.out];rfl);have kc:=mW u p.any wr3 (HU.out.below D) (by omega);rw[HUS.out] at kc;obtain⟨CB,hCB⟩:=nmm (p.any.contains []);rw[hCB] at kc;have HCB:=hid hCB;clear hCB;obtain⟨BAD,hBAD⟩:=nmm ((p.init.isEmpty&&p.final.isEmpty&&((p.any.length:Int)==0))||CB);have HBAD:=hid hBAD;clear hBAD
 go_upto_region 16 with fail
 go_cut [74] from 56 to 74 (fun s74 wx=>s74=.bool BAD∧vL w P X6 wx)
 case first=>
  rcases h1:p.init.isEmpty with _|_
  ·go_wp2_with fail
   refine ag kc ?_;rintro e w9 ⟨rfl,hb⟩;have hBB:BAD=CB:=by rw[←HBAD.out];simp[h1]
   have HBB:=hid hBB;clear hBB
   go_wp2_with fail
   go_meet
   exact⟨by rw[HBB.out];try rfl,(bkk hb T),(bkk hb Y3),(btt D hb)⟩
  rcases h2:p.final.isEmpty with _|_
  ·go_wp2_with fail
   refine ag kc ?_;rintro e w9 ⟨rfl,hb⟩;have hBB:BAD=CB:=by rw[←HBAD.out];simp[h1,h2]
   have HBB:=hid hBB;clear hBB
   go_wp2_with fail
   go_meet
   exact⟨by rw[HBB.out];try rfl,(bkk hb T),(bkk hb Y3),(btt D hb)⟩
  rcases h3:((p.any.length:Int)==0) with _|_
  ·go_wp2_with fail
   refine ag kc ?_;rintro e w9 ⟨rfl,hb⟩;have hBB:BAD=CB:=by rw[←HBAD.out];rw[h1,h2,h3];simp
   have HBB:=hid hBB;clear hBB
   go_wp2_with fail
   go_meet
   exact⟨by rw[HBB.out];try rfl,(bkk hb T),(bkk hb Y3),(btt D hb)⟩
  have hBB:BAD=true:=by rw[←HBAD.out,h1,h2,h3];simp
  have HBB:=hid hBB;clear hBB kc
  go_wp2_with fail
  go_meet
  exact⟨by rw[HBB.out],T,Y3,D⟩
 case rest=>
  obtain⟨rfl,m9,x9,b9⟩:=hcut;clear q4 q5 q6 kc T Y3 D;obtain⟨w9,hw9⟩:=nmm wc;rw[hw9] at m9 x9 b9⊢;clear hw9;cases BAD;rotate_left
  ·have hO:OK=false:=by
    have h:=HBAD.out;rw[←HOK.out];rw[←HCB.out] at h;simp only[Bool.or_eq_true,aI,List.isEmpty_iff,beq_iff_eq] at h;rcases h with⟨⟨h1,h2⟩,h3⟩|h
    ·have h4:p.any=[]:=List.length_eq_zero_iff.1 (by omega)
     simp[bU,hop,h1,h2,h4]
    ·have h5:[]∈p.any:=by simpa using h
     simp[bU,hop,h5]
   have HO:=hid hO;clear hO
   go_wp2_with fail
   go_ret
   exact⟨by rw[HO.out];rfl,b9⟩
  ·go_upto_region 19 with fail
   have hWhy:bU p=(di p ⟨4,0,p.typ,[],p.init,p.final,p.any⟩&&gr p.typ):=by
    have h:=HBAD.out;rw[←HCB.out] at h;simp only[Bool.or_eq_false_iff] at h;obtain⟨h1,h2⟩:=h;have h3:(decide (p.init=[])&&decide (p.final=[])&&decide (p.any=[]))=false:=by
     rw[←h1];cases p.init<;>cases p.final<;>cases p.any<;>simp
     try omega
    simp only[bU,hop,h2,h3]
    simp[di,hop,Bool.and_assoc]
   have ks:=gc p ⟨4,0,p.typ,[],p.init,p.final,p.any⟩ u (.slice au p.any.length cu) w9 (HU.out.below b9) (by rw[←HUS.out];exact HU.out.below b9) (by omega) (by show p.any.length≤1000000000;omega);rw[HP.out,HX6.out] at ks;have hAll:OK=(di p ⟨4,0,p.typ,[],p.init,p.final,p.any⟩&&gr p.typ):=by rw[←HOK.out];exact hWhy
   obtain⟨B,hB⟩:=nmm (di p ⟨4,0,p.typ,[],p.init,p.final,p.any⟩);rw[hB] at ks hAll;have HALL:=hid hAll;clear hAll hB
   go_wp2_with (first|(refine bg rfl 141 (.tmp 1) rfl w.heap.size 141 _ (0,0) (by rfl) m9 _ Tryz.underlying141 rfl (by rw[HP2.out];rfl) ?_)|(refine bg rfl 141 (.tmp 3) rfl (w.heap.size+1) 141 _ (0,0) (by rfl) x9 _ Tryz.underlying141 rfl (by rw[HX7.out];rfl) ?_))
   refine ag ks ?_;rintro e w20 ⟨rfl,hb⟩;have m20:=bkk hb m9;have b20:=btt b9 hb;clear ks hb m9 x9 b9;cases B
   ·go_wp2_with fail
    go_ret
    exact⟨by rw[HALL.out];rfl,b20⟩
   ·have q2:w20.cell? ⟨w.heap.size,2,none⟩=some (.string ⟨p.typ.toArray⟩):=(aq m20 2).trans (by rw[←HP.out];rfl)
    have ki:=iT p.typ w20 (by omega) (HE.out.below b20)
    go_wp2_with fail
    refine ag ki ?_;rintro e w21 ⟨rfl,hb⟩;have b21:=btt b20 hb;clear ki hb b20 q2 m20
    go_wp2_with fail
    go_ret
    exact⟨by rw[HALL.out];simp,b21⟩
theorem Cc(p:Fl)(u:Value)(w:World)(hu:ct w u p.any)(hok:p.ok)(hE:Env w):
  Cr 123 #[.agg (p.row u)] w (.bool (bU p)):=by
 by_cases h0:p.op=0
 ·exact Cf p u w hu hok hE h0
 by_cases h1:p.op=1
 ·exact tA p u w hu hok hE h1
 by_cases h2:p.op=2
 ·exact tB p u w hu hok hE h2
 by_cases h3:p.op=3
 ·exact xS 3 (by decide) p u w hu hok hE h3
 by_cases h4:p.op=4
 ·exact tC p u w hu hok hE h4
 by_cases h5:p.op=5
 ·exact xS 5 (by decide) p u w hu hok hE h5
 by_cases h6:p.op=6
 ·exact xS 6 (by decide) p u w hu hok hE h6
 by_cases h7:p.op=7
 ·exact Ce p u w hu hok hE h7
 by_cases h8:p.op=8
 ·exact xS 8 (by decide) p u w hu hok hE h8
 exact oa p u w hu hok hE (by simp only[aY,aZ,or_false,not_or];exact⟨h0,h1,h2,h3,h4,h5,h6,h7,h8⟩)
def eP(f:List Fl):Prop:=f.length≤100000000∧∀p∈f,p.ok∧p.n≤9223372036854775807
theorem eP.tail{p:Fl}{f:List Fl}(h:eP (p::f)):eP f:=⟨by have:=h.1;simp at this;omega,fun q hq=>h.2 q (by simp[hq])⟩
theorem eP.suf{f r:List Fl}(h:eP f)(hs:r<:+f):eP r:=⟨by have:=h.1;have:=hs.length_le;omega,fun q hq=>h.2 q (hs.subset hq)⟩
def dQ(w:World)(k:Nat)(f:List Fl)(e:Ending)(w':World):Prop:=
 (match bG k f with
  |some r=>∃v',e=.returned (.tuple #[v',.bool true])∧de w' v' r
  |none=>e=.returned (.tuple #[Sn,Bf]))∧Bw w w'
theorem dQ.of_none{w w':World}{k:Nat}{f:List Fl}(h:bG k f=none)(hb:Bw w w'):dQ w k f (.returned (.tuple #[Sn,Bf])) w':=by
 unfold dQ;rw[h];exact⟨rfl,hb⟩
theorem dQ.of_some{w w':World}{k:Nat}{f r:List Fl}{v':Value}(h:bG k f=some r)(hv:de w' v' r)(hb:Bw w w'):dQ w k f (.returned (.tuple #[v',.bool true])) w':=by
 unfold dQ;rw[h];exact⟨⟨_,rfl,hv⟩,hb⟩
def vM(w:World)(k:Nat)(f:List Fl)(n0:Nat)(v n ok:Value)(wr:World):Prop:=
 ∃(m:Int) (fi:List Fl),n=.int .i64 m∧ok=.bool true∧0≤m∧m≤9223372036854775807∧de wr v fi∧fi<:+f∧fg (bG k) m.toNat fi=fg (bG k) n0 f∧Bw w wr
theorem pK(k d:Nat)(hkd:k+d=19)
  (ih:∀(f:List Fl) (v:Value) (w:World),de w v f→eP f→Env w→Calls Tryz.prog 106 #[v,.int .i64 ((d+1:Nat):Int)] w (dQ w k f))
  (p:Fl) (f:List Fl) (v:Value) (w:World) (hv:de w v (p::f)) (hok:eP (p::f)) (hE:Env w):
  Calls Tryz.prog 106 #[v,.int .i64 (d:Int)] w (dQ w (k+1) (p::f)):=by
 obtain⟨IH,HE⟩:=Cg ih hE;obtain⟨hpo,hpn⟩:=hok.2 p (by simp);have HOK:=hid hok.tail;have hdr:=hv.drop;obtain⟨g,o,cap,rfl,hcap,c0,c1,c2,c3,c4,c5,u,c6,hu⟩:=hv.first;have HDR:=hid hdr;obtain⟨au,cu,hus,hcu,-⟩:=id hu;subst hus;have ks:=Cc p _ w hu hpo hE;unfold Fl.row at ks;obtain⟨B,hB⟩:=nmm (bU p);rw[hB] at ks;have HB:=hid hB;have hl:f.length≤100000000:=HOK.out.1;obtain⟨NF,hNF⟩:=nmm f.length;rw[hNF] at hl hcap⊢;have hnf:((NF:Int)+1==0)=false:=by rw[beq_eq_false_iff_ne];omega
 have f1:decide ((d:Int)≥20)=false:=an (by omega);have f2:decide ((20:Int)≤(d:Int))=false:=an (by omega);obtain⟨V,hV⟩:=nmm (eH (.slice (some ⟨g,o,none⟩) (NF+1) cap));rw[hNF,hV] at HDR;obtain⟨HV,HNF⟩:=Cg hV hNF;clear ih hE hok hdr hv hu hpo hB hV hNF hcu
 go_enter Tryz.func106,Tryz.ntmps106
 go_wp2_with fail
 refine ag ks ?_;rintro e w1 ⟨rfl,b1⟩;clear ks;cases B
 ·go_wp2_with fail
  go_ret2
  exact dQ.of_none (by simp[bG,HB.out]) b1
 ·have HD1:=hid (HDR.out.below b1)
  have q1:=(b1.cell (bj c1)).trans c1;clear c0 c1 c2 c3 c4 c5 c6 HDR;have hn0:0≤p.n:=by
   by_cases hc:p.op=0∨p.op=1∨p.op=2
   ·have h:=HB.out
    unfold bU at h;rw[if_pos hc] at h;simp only[aI,aT] at h;exact h.1.2
   ·have:=iQ HB.out hc
    omega
  have hw:bG (k+1) (p::f)=fg (bG k) p.n.toNat f:=by simp[bG,HB.out]
  have HW:=hid hw;clear hw HB
  go_upto_region 4 with fail
  clear q1
  go_cut [0] from 26 to 27 (fun s0 wx=>s0=V∧wx=w1)
  case first=>
   by_cases hc1:cap=1
   ·have hVV:V=.slice (some ⟨g,o,none⟩) 0 0:=by rw[←HV.out];simp[eH,hc1]
    have HVV:=hid hVV;have hnf0:NF=0:=by omega
    subst hc1 hnf0;clear hVV
    go_wp2_with fail
    go_meet
    exact⟨by rw[HVV.out],rfl⟩
   ·have hVV:V=.slice (some ⟨g,o+7,none⟩) NF (cap -1):=by rw[←HV.out];simp[eH,hc1]
    have HVV:=hid hVV;have hc2:¬(cap≤1):=by omega
    have hc3:1≤cap:=by omega
    clear hVV
    go_wp2_with fail
    go_meet
    exact⟨by rw[HVV.out],rfl⟩
  case rest=>
   obtain⟨rfl,rfl⟩:=hcut;obtain⟨av,cv,hvs⟩:=HD1.out.shape;clear HV;obtain⟨W1,hW1⟩:=nmm wc;rw[hW1] at HD1 b1⊢;clear hW1
   go_upto_region 5 with fail
   go_wp2_with fail
   go_loopw [0,6,7] (fun v n ok wr=>vM w k f p.n.toNat v n ok wr) (fun _ n _ _=>(RowKit.intOf n).toNat)
   case atStart=>exact⟨p.n,f,rfl,rfl,hn0,hpn,HD1.out,List.suffix_refl _,rfl,b1⟩
   case round=>
    clear HD1 b1;obtain⟨m,fi,rfl,rfl,hm0,hm1,hfv,hsuf,hit,hbe⟩:=hrel;obtain⟨af,cf,hfs⟩:=hfv.shape;subst hfs;obtain⟨HS,HIT,HF⟩:=Ch hsuf hit hfv
    by_cases hmz:0<m
    ·have i1:decide (m>0)=true:=aC hmz
     have i2:decide (0<m)=true:=aC hmz;have i3:IntKind.i64.wrap (m -1)=m -1:=by rw[aK];omega
     have i4:IntKind.i64.wrap ((d:Int)+1)=(d:Int)+1:=by rw[aK];omega
     have kc:=IH.out fi _ wr hfv (HOK.out.suf hsuf) (HE.out.below hbe);rw[show((d+1:Nat):Int)=(d:Int)+1 by omega] at kc;unfold dQ at kc;have hst:fg (bG k) m.toNat fi=(match bG k fi with|none=>none|some r=>fg (bG k) (m -1).toNat r):=by
      rw[show m.toNat=(m -1).toNat+1 by omega];rfl
     cases hr:bG k fi with
     |none=>
      rw[hr] at kc hst;have hnone:bG (k+1) (p::f)=none:=by rw[HW.out,←hit,hst]
      have HN:=hid hnone;clear hnone hst hr hit hfv hsuf
      go_wp2_with fail
      refine ag kc ?_;rintro e w2 ⟨he,hb2⟩
      try simp only at he
      subst he;have b2:=btt hbe hb2;clear kc hb2 hbe
      go_wp2_with fail
      go_ret2
      exact dQ.of_none HN.out b2
     |some r=>
      rw[hr] at kc hst;simp only at hst;have hsr:=fR k fi r hr;obtain⟨HSR,HST⟩:=Cg (hsr.trans hsuf) hst;clear hst hr hit hfv hsuf hsr
      go_wp2_with fail
      refine ag kc ?_;rintro e w2 ⟨he,hb2⟩
      try simp only at he
      obtain⟨v',he1,hv'⟩:=he;subst he1;have b2:=btt hbe hb2;have HV2:=hid hv';clear kc hb2 hbe hv'
      go_wp2_with fail
      refine⟨⟨m -1,r,rfl,rfl,by omega,by omega,HV2.out,HSR.out,by rw[←HST.out,HIT.out],b2⟩,?_⟩;simp only[RowKit.intOf];omega
    ·have hmz0:m=0:=by omega
     subst hmz0;have hnone:bG (k+1) (p::f)=some fi:=by rw[HW.out,←hit];rfl
     have HN:=hid hnone;clear hnone hit hfv hsuf
     go_wp2_with fail
     go_ret2
     exact dQ.of_some HN.out HF.out hbe
theorem rh(k d:Nat)(hkd:k+d=20)(v:Value)(w:World)(hv:de w v []):Calls Tryz.prog 106 #[v,.int .i64 (d:Int)] w (dQ w k []):=by
 obtain⟨a,c,rfl⟩:=hv.shape;have hw:bG k []=none:=by cases k<;>rfl
 clear hv;simp only[aU]
 go_enter Tryz.func106,Tryz.ntmps106
 go_wp2_with fail
 go_ret2
 exact dQ.of_none hw (aA _ _)
theorem pL(p:Fl)(f:List Fl)(v:Value)(w:World)(hv:de w v (p::f))(hl:f.length≤100000000):Calls Tryz.prog 106 #[v,.int .i64 20] w (dQ w 0 (p::f)):=by
 obtain⟨a,c,rfl⟩:=hv.shape;clear hv;simp only[aG];obtain⟨NF,hNF⟩:=nmm f.length;rw[hNF] at hl⊢;have hnf:((NF:Int)+1==0)=false:=by rw[beq_eq_false_iff_ne];omega
 have HN:=hid hNF;clear hNF
 go_enter Tryz.func106,Tryz.ntmps106
 go_wp2_with fail
 go_ret2
 exact dQ.of_none rfl (aA _ _)
theorem lO:∀(k d:Nat),k+d=20→∀(f:List Fl) (v:Value) (w:World),de w v f→eP f→Env w→Calls Tryz.prog 106 #[v,.int .i64 (d:Int)] w (dQ w k f)
 |k,d,hkd,[],v,w,hv,_,_=>rh k d hkd v w hv
 |0,d,hkd,p::f,v,w,hv,hok,_=>by
  obtain rfl:d=20:=by omega
  exact pL p f v w hv hok.tail.1
 |k+1,d,hkd,p::f,v,w,hv,hok,hE=>pK k d (by omega) (fun f v w h1 h2 h3=>lO k (d+1) (by omega) f v w h1 h2 h3) p f v w hv hok hE
theorem gu(f:List Fl)(v:Value)(w:World)(hv:de w v f)(hok:eP f)(hE:Env w):
  Cr 70 #[v] w (.bool (dz f)):=by
 have kc:=lO 20 0 rfl f v w hv hok hE;unfold dQ at kc;obtain⟨a,c,rfl⟩:=hv.shape;have hl:=hok.1;clear hv hok hE
 by_cases h1:f.length≤100
 ·have f1:decide ((f.length:Int)>100)=false:=an (by omega)
  have f2:decide ((100:Int)<(f.length:Int))=false:=an (by omega);cases hr:bG 20 f with
  |none=>
   rw[hr] at kc;have hO:dz f=false:=by simp[dz,hr]
   have HO:=hid hO;clear hO hr
   go_enter Tryz.func70,Tryz.ntmps70
   go_wp2_with fail
   refine ag kc ?_;rintro e w2 ⟨he,hb2⟩
   try simp only at he
   subst he;clear kc
   go_wp2_with fail
   go_ret
   exact⟨by rw[HO.out];rfl,hb2⟩
  |some r=>
   rw[hr] at kc;have hO:dz f=r.isEmpty:=by cases r<;>simp[dz,hr,h1]
   have HO:=hid hO;clear hO hr
   go_enter Tryz.func70,Tryz.ntmps70
   go_wp2_with fail
   refine ag kc ?_;rintro e w2 ⟨he,hb2⟩
   try simp only at he
   obtain⟨v',he1,hv'⟩:=he;subst he1;obtain⟨a2,c2,rfl⟩:=hv'.shape;clear kc hv';cases r with
   |nil=>
    simp only[aU]
    go_wp2_with fail
    go_ret
    exact⟨by rw[HO.out];rfl,hb2⟩
   |cons q r=>
    simp only[aG];obtain⟨NF,hNF⟩:=nmm r.length;rw[hNF];have hnf:((NF:Int)+1==0)=false:=by rw[beq_eq_false_iff_ne];omega
    clear hNF
    go_wp2_with fail
    go_ret
    exact⟨by rw[HO.out];rfl,hb2⟩
 ·have f1:decide ((f.length:Int)>100)=true:=aC (by omega)
  have f2:decide ((100:Int)<(f.length:Int))=true:=aC (by omega);have hO:dz f=false:=by simp[dz,h1]
  have HO:=hid hO;clear hO kc
  go_enter Tryz.func70,Tryz.ntmps70
  go_wp2_with fail
  go_ret
  exact⟨by rw[HO.out];rfl,aA _ _⟩
def FiP(w0 w:World)(el:El)(r:List Fl)(e:Ending)(w':World):Prop:=
 (∃u v',e=.returned (.tuple #[.agg (elA el u),v'])∧bf (fun g=>w.heap.size≤g) w' u el.kids∧de w0 v' r)∧Bw w w'
theorem pM(p:Fl)(f:List Fl)(v:Value)(w0 w:World)(h0:Bw w0 w)(hv:de w0 v (p::f))(hok:eP (p::f))(hln:f.length≤100)(hop:p.op=7):
  Calls Tryz.prog 80 #[v] w (FiP w0 w (er p) f):=by
 unfold FiP;have HOP:=hid hop;clear hop;obtain⟨EX,hEX⟩:=nmm ((er p:El):El);rw[hEX];have HEX:=hid hEX;clear hEX;obtain⟨PR,hPR⟩:∃PR:Ending→World→Prop,PR=fun e w'=>(∃u v',e=.returned (.tuple #[.agg (elA EX u),v'])∧bf (fun g=>w.heap.size≤g) w' u EX.kids∧de w0 v' f)∧Bw w w':=⟨_,rfl⟩
 rw[←hPR];have HPR:=hid hPR;clear hPR;have hpo:=(hok.2 p (by simp)).1;obtain⟨HPO,HOK⟩:=Cg hpo hok.tail;have hdr:=hv.drop;obtain⟨g,o,cap,rfl,hcap,c0,c1,c2,c3,c4,c5,u0,c6,hu⟩:=hv.first;obtain⟨au,cu,hus,hcu,-⟩:=id hu;subst hus;have HU:=hid (hu.below h0);obtain⟨NF,hNF⟩:=nmm f.length;rw[hNF] at hcap hdr hln⊢;obtain⟨V,hV⟩:=nmm (eH (.slice (some ⟨g,o,none⟩) (NF+1) cap));rw[hV] at hdr;obtain⟨HDR,HV,HNF⟩:=Ch hdr hV hNF;obtain⟨P,hP⟩:=nmm (p.row (.slice au p.any.length cu));have hP1:(#[.int .i64 p.op,.int .i64 p.n,.string ⟨p.typ.toArray⟩,.string ⟨p.value.toArray⟩,.string ⟨p.init.toArray⟩,.string ⟨p.final.toArray⟩,.slice au p.any.length cu]:Array Value)=P:=hP;have hP2:P.size=7:=by rw[←hP];rfl
 obtain⟨HP,HP1,HP2⟩:=Ch hP hP1 hP2;have b1:=alb w Ze 40;have t1:=alz w Ze 40;have hs1:(w.alloc (.cells Ze 40)).heap.size=w.heap.size+1:=by simp
 have h01:=btt h0 b1;have q0:=(h01.cell (bj c0)).trans c0;have q1:=(h01.cell (bj c1)).trans c1;have q2:=(h01.cell (bj c2)).trans c2;have q3:=(h01.cell (bj c3)).trans c3;have q4:=(h01.cell (bj c4)).trans c4;have q5:=(h01.cell (bj c5)).trans c5;have q6:=(h01.cell (bj c6)).trans c6;obtain⟨HS1,H0⟩:=Cg hs1 h0;clear hv hok hpo hdr hu hcu hNF hV hP hP1 hP2 c0 c1 c2 c3 c4 c5 c6 hs1 h01 h0
 go_enter Tryz.func80,Tryz.ntmps80
 go_upto_region 1 with fail
 generalize w.alloc (.cells Ze 40)=w1 at b1 t1 q0 q1 q2 q3 q4 q5 q6 HS1⊢
 go_upto_region 2 with fail
 rw[HP1.out];have b2:=b1.trans ((aA w1.heap.size w1).alloc (ah _) (.cells P 141)|>.mono b1.size);have t2:=(alloc_old w1 (.cells P 141) w.heap.size (gl t1)).trans t1;have m2:Hc (w1.alloc (.cells P 141)) (w.heap.size+1) P 141:=fb _ _ _ (by rw[HS1.out]);have hs2:(w1.alloc (.cells P 141)).heap.size=w.heap.size+2:=by simp[HS1.out]
 rw[HS1.out];have HS2:=hid hs2;clear q0 q1 q2 q3 q4 q5 q6 b1 t1 HS1 HP1 hs2;generalize w1.alloc (.cells P 141)=w2 at b2 t2 m2 HS2⊢
 go_cut [0] from 11 to 12 (fun s0 wx=>s0=V∧wx=w2)
 case first=>
  by_cases hc1:cap=1
  ·have hVV:V=.slice (some ⟨g,o,none⟩) 0 0:=by rw[←HV.out];simp[eH,hc1]
   have HVV:=hid hVV;have hnf0:NF=0:=by omega
   subst hc1 hnf0;clear hVV
   go_wp2_with fail
   go_meet
   exact⟨by rw[HVV.out],rfl⟩
  ·have hVV:V=.slice (some ⟨g,o+7,none⟩) NF (cap -1):=by rw[←HV.out];simp[eH,hc1]
   have HVV:=hid hVV;have hc2:¬(cap≤1):=by omega
   have hc3:1≤cap:=by omega
   clear hVV
   go_wp2_with fail
   go_meet
   exact⟨by rw[HVV.out],rfl⟩
 case rest=>
  obtain⟨hs0,hwc⟩:=hcut;rw[hs0,hwc];clear HV hs0 hwc;have b3:=b2.trans ((aA w2.heap.size w2).alloc (ah _) (.cells Ze 40)|>.mono b2.size);have t3:=(alloc_old w2 (.cells Ze 40) w.heap.size (gl t2)).trans t2;have m3:=(alloc_old w2 (.cells Ze 40) (w.heap.size+1) (gl m2)).trans m2;have x3:Hc (w2.alloc (.cells Ze 40)) (w.heap.size+2) Ze 40:=fb _ _ _ (by rw[HS2.out]);have hs3:(w2.alloc (.cells Ze 40)).heap.size=w.heap.size+3:=by simp[HS2.out]
  go_upto_region 4 with fail
  rw[HS2.out];have HS3:=hid hs3;clear b2 t2 m2 HS2 hs3;generalize w2.alloc (.cells Ze 40)=w3 at b3 t3 m3 x3 HS3⊢;have q0:w3.cell? ⟨w.heap.size+1,0,none⟩=some (.int .i64 7):=(aq m3 0).trans (by rw[←HP.out];simp[Fl.row,HOP.out]);have q2:w3.cell? ⟨w.heap.size+1,2,none⟩=some (.string ⟨p.typ.toArray⟩):=(aq m3 2).trans (by rw[←HP.out];rfl);have kc:=bz p.typ w3;have hELX:El.mk 2 7 false p.typ []=EX:=by rw[←HEX.out];simp[er,HOP.out]
  have HELX:Hid (El.mk 2 7 (El.cons (.mk 0 4 false p.typ [])) (El.bytes (.mk 0 4 false p.typ [])) (El.kids (.mk 0 4 false p.typ []))=EX):=hid hELX;clear hELX;have hsm:SmE (.mk 0 4 false p.typ []):=by have:=HPO.out.1;simp[SmE,SmL];omega
  have HSM:=hid hsm;clear hsm
  go_wp2_with fail
  refine ag kc ?_;rintro e w4 ⟨rfl,hb⟩;clear kc q0 q2 HS3;have t4:=bkk hb t3;have m4:=bkk hb m3;have x4:=bkk hb x3;have b4:=btt b3 hb;clear hb t3 m3 x3 b3;obtain⟨E0,hE0⟩:=nmm (elA (.mk 0 4 false p.typ []) (.slice none 0 0));have hE0a:E0.all (·.oneCell')=true:=by rw[←hE0];simp[elA,Value.oneCell']
  have hE0s:E0.size=5:=by rw[←hE0];rfl
  rw[hE0];obtain⟨HE0,HE0a,HE0s⟩:=Ch hE0 hE0a hE0s;clear hE0 hE0a hE0s;have hz:=(gl x4);have m5:=(setRow_other w4 (w.heap.size+2) (w.heap.size+1) E0 (by omega)).trans m4;have t5:=(setRow_other w4 (w.heap.size+2) w.heap.size E0 (by omega)).trans t4;have x5:=setRow_heap w4 (w.heap.size+2) _ E0 _ _ x4;have b5:=xo b4 (g:=w.heap.size+2) (by omega) E0
  go_upto_region 21 with(refine stE (.tmp 5) (.tmp 47) E0 x4 HE0s.out HE0a.out ?_)
  clear t4 m4 x4 b4;generalize w4.setRow (w.heap.size+2) E0=w5 at t5 m5 x5 b5⊢;rw[←HE0.out] at x5⊢;have hk:bf (fun _=>True) w5 (.slice none 0 0) []:=bf.nil _ _;have HK:=hid hk;clear hk;have q0:w5.cell? ⟨w.heap.size+1,0,none⟩=some (.int .i64 7):=(aq m5 0).trans (by rw[←HP.out];simp[Fl.row,HOP.out]);obtain⟨E1,hE1⟩:=nmm (elA (.mk 0 4 false p.typ []) (.slice none 0 0));rw[hE1] at x5;have hE1s:E1.size=5:=by rw[←hE1];rfl
  have kc:=BY (.mk 0 4 false p.typ []) (.slice none 0 0) (7) w5 (HK.out.mono (fun _ _ _=>trivial)) HSM.out;rw[hE1,HELX.out,show El.kids (.mk 0 4 false p.typ [])=EX.kids from by rw[←HELX.out];rfl] at kc;have HE1:=hid hE1s;clear hE1 hE1s
  go_wp2_with (refine ldE (.tmp 5) x5 HE1.out ?_)
  refine ag kc ?_;rintro e w50 ⟨⟨u5,rfl,hu5⟩,hb⟩;have t50:=bkk hb t5;have b50:=btt b5 hb;have hsz:=(gl t5);clear kc hb t5 b5 m5 x5 q0;obtain⟨E,hE⟩:=nmm (elA EX u5);have hEa:E.all (·.oneCell')=true:=by
   obtain⟨a,c,hsl⟩:=hu5.shape;subst hsl;rw[←hE];simp[elA,Value.oneCell']
  have hEs:E.size=5:=by rw[←hE];rfl
  rw[hE];have bF:=xo b50 (g:=w.heap.size) (ah _) E;have tF:=setRow_heap w50 w.heap.size _ E _ _ t50;have uF:bf (fun g=>w.heap.size≤g) (w50.setRow w.heap.size E) u5 EX.kids:=hu5.kept fun g hg hl=>⟨setRow_other w50 w.heap.size g E (by omega),by omega⟩
  obtain⟨HE,HEa,HEs⟩:=Ch hE hEa hEs;have Tryz.underlying141:=hid uF;clear hu5 hE hEa hEs uF b50
  go_wp2_with (refine stE (.tmp 2) (.tmp 60) E t50 HEs.out HEa.out ?_)
  refine aH (v:=.tuple #[.agg E,V]) ?_ rfl (by rw[HPR.out];exact⟨⟨u5,_,by rw[HE.out],Tryz.underlying141.out,HDR.out⟩,bF⟩);have hr:=rlE tF HEs.out
  simp[results,Tryz.f80]
  show((Sem.run Tryz.prog (loadVar 40 ⟨w.heap.size,0,none⟩) (w50.setRow w.heap.size E)).andThen fun a w'=>Result.ok (Value.tuple #[a,V]) w')=_;rw[hr]
  simp
theorem pN(p:Fl)(f:List Fl)(v:Value)(w0 w:World)(h0:Bw w0 w)(hv:de w0 v (p::f))(hok:eP (p::f))(hln:f.length≤100)(hop:p.op=4):
  Calls Tryz.prog 80 #[v] w (FiP w0 w (er p) f):=by
 unfold FiP;have HOP:=hid hop;clear hop;obtain⟨EX,hEX⟩:=nmm ((er p:El):El);rw[hEX];have HEX:=hid hEX;clear hEX;obtain⟨PR,hPR⟩:∃PR:Ending→World→Prop,PR=fun e w'=>(∃u v',e=.returned (.tuple #[.agg (elA EX u),v'])∧bf (fun g=>w.heap.size≤g) w' u EX.kids∧de w0 v' f)∧Bw w w':=⟨_,rfl⟩
 rw[←hPR];have HPR:=hid hPR;clear hPR;have hpo:=(hok.2 p (by simp)).1;obtain⟨HPO,HOK⟩:=Cg hpo hok.tail;have hdr:=hv.drop;obtain⟨g,o,cap,rfl,hcap,c0,c1,c2,c3,c4,c5,u0,c6,hu⟩:=hv.first;obtain⟨au,cu,hus,hcu,-⟩:=id hu;subst hus;have HU:=hid (hu.below h0);obtain⟨NF,hNF⟩:=nmm f.length;rw[hNF] at hcap hdr hln⊢;obtain⟨V,hV⟩:=nmm (eH (.slice (some ⟨g,o,none⟩) (NF+1) cap));rw[hV] at hdr;obtain⟨HDR,HV,HNF⟩:=Ch hdr hV hNF;obtain⟨P,hP⟩:=nmm (p.row (.slice au p.any.length cu));have hP1:(#[.int .i64 p.op,.int .i64 p.n,.string ⟨p.typ.toArray⟩,.string ⟨p.value.toArray⟩,.string ⟨p.init.toArray⟩,.string ⟨p.final.toArray⟩,.slice au p.any.length cu]:Array Value)=P:=hP;have hP2:P.size=7:=by rw[←hP];rfl
 obtain⟨HP,HP1,HP2⟩:=Ch hP hP1 hP2;have b1:=alb w Ze 40;have t1:=alz w Ze 40;have hs1:(w.alloc (.cells Ze 40)).heap.size=w.heap.size+1:=by simp
 have h01:=btt h0 b1;have q0:=(h01.cell (bj c0)).trans c0;have q1:=(h01.cell (bj c1)).trans c1;have q2:=(h01.cell (bj c2)).trans c2;have q3:=(h01.cell (bj c3)).trans c3;have q4:=(h01.cell (bj c4)).trans c4;have q5:=(h01.cell (bj c5)).trans c5;have q6:=(h01.cell (bj c6)).trans c6;obtain⟨HS1,H0⟩:=Cg hs1 h0;clear hv hok hpo hdr hu hcu hNF hV hP hP1 hP2 c0 c1 c2 c3 c4 c5 c6 hs1 h01 h0
 go_enter Tryz.func80,Tryz.ntmps80
 go_upto_region 1 with fail
 generalize w.alloc (.cells Ze 40)=w1 at b1 t1 q0 q1 q2 q3 q4 q5 q6 HS1⊢
 go_upto_region 2 with fail
 rw[HP1.out];have b2:=b1.trans ((aA w1.heap.size w1).alloc (ah _) (.cells P 141)|>.mono b1.size);have t2:=(alloc_old w1 (.cells P 141) w.heap.size (gl t1)).trans t1;have m2:Hc (w1.alloc (.cells P 141)) (w.heap.size+1) P 141:=fb _ _ _ (by rw[HS1.out]);have hs2:(w1.alloc (.cells P 141)).heap.size=w.heap.size+2:=by simp[HS1.out]
 rw[HS1.out];have HS2:=hid hs2;clear q0 q1 q2 q3 q4 q5 q6 b1 t1 HS1 HP1 hs2;generalize w1.alloc (.cells P 141)=w2 at b2 t2 m2 HS2⊢
 go_cut [0] from 11 to 12 (fun s0 wx=>s0=V∧wx=w2)
 case first=>
  by_cases hc1:cap=1
  ·have hVV:V=.slice (some ⟨g,o,none⟩) 0 0:=by rw[←HV.out];simp[eH,hc1]
   have HVV:=hid hVV;have hnf0:NF=0:=by omega
   subst hc1 hnf0;clear hVV
   go_wp2_with fail
   go_meet
   exact⟨by rw[HVV.out],rfl⟩
  ·have hVV:V=.slice (some ⟨g,o+7,none⟩) NF (cap -1):=by rw[←HV.out];simp[eH,hc1]
   have HVV:=hid hVV;have hc2:¬(cap≤1):=by omega
   have hc3:1≤cap:=by omega
   clear hVV
   go_wp2_with fail
   go_meet
   exact⟨by rw[HVV.out],rfl⟩
 case rest=>
  obtain⟨hs0,hwc⟩:=hcut;rw[hs0,hwc];clear HV hs0 hwc;have b3:=b2.trans ((aA w2.heap.size w2).alloc (ah _) (.cells Ze 40)|>.mono b2.size);have t3:=(alloc_old w2 (.cells Ze 40) w.heap.size (gl t2)).trans t2;have m3:=(alloc_old w2 (.cells Ze 40) (w.heap.size+1) (gl m2)).trans m2;have x3:Hc (w2.alloc (.cells Ze 40)) (w.heap.size+2) Ze 40:=fb _ _ _ (by rw[HS2.out]);have hs3:(w2.alloc (.cells Ze 40)).heap.size=w.heap.size+3:=by simp[HS2.out]
  go_upto_region 4 with fail
  rw[HS2.out];have HS3:=hid hs3;clear b2 t2 m2 HS2 hs3;generalize w2.alloc (.cells Ze 40)=w3 at b3 t3 m3 x3 HS3⊢;have q0:w3.cell? ⟨w.heap.size+1,0,none⟩=some (.int .i64 4):=(aq m3 0).trans (by rw[←HP.out];simp[Fl.row,HOP.out]);have hELX:El.mk 2 (4) true [] [cj p.typ,.mk 0 16 true [] (bL p)]=EX:=by rw[←HEX.out];simp[er,HOP.out]
  have HELX:Hid (El.mk 2 (4) (El.cons (.mk 0 16 true [] [cj p.typ,.mk 0 16 true [] (bL p)])) (El.bytes (.mk 0 16 true [] [cj p.typ,.mk 0 16 true [] (bL p)])) (El.kids (.mk 0 16 true [] [cj p.typ,.mk 0 16 true [] (bL p)]))=EX):=hid hELX;clear hELX;have hpo:=HPO.out;have hsm:SmE (.mk 0 16 true [] [cj p.typ,.mk 0 16 true [] (bL p)]):=by
   obtain⟨k1,k2,k3,k4,k5,k6⟩:=hpo;have:=jq p HPO.out;have:=iR p HPO.out;simp only[SmE,SmL,cj]
   simp
   exact⟨by omega,by assumption,by assumption⟩
  have HSM:=hid hsm;clear hsm hpo
  go_upto_region 20 with fail
  clear q0;have T:Hc w3.drew (w.heap.size+1) P 141∧Hc w3.drew (w.heap.size+2) Ze 40:=⟨m3,x3⟩;have D:Bw w w3.drew:=b3.drew;have R:Hc w3.drew w.heap.size Ze 40:=t3;refine aR (S:=(fun w'=>Hc w' (w.heap.size+1) P 141)) (by kernel_rfl) ?_
  change wpAnyH _ _ _ _ _ _ _ _ w3.drew
  clear m3 x3 b3 t3 HS3;generalize w3.drew=w4 at T D R⊢;refine tp 0 ⟨w.heap.size+1,2,none⟩ rfl T.1 ?_;refine tn 1 (.string ⟨p.typ.toArray⟩) rfl (fun w' hS=>by have q:=(aq hS 2).trans (show _=some (Value.string ⟨p.typ.toArray⟩) from by rw[←HP.out];rfl);go_simp) T.1 ?_;refine tn 3 (.agg P) rfl (fun w' hS=>by exact cU 141 (.tmp 4) rfl (w.heap.size+1) 141 _ (0,0) (by rfl) hS _ Tryz.underlying141 rfl (by rw[HP2.out];rfl)) T.1 ?_;have kc:=bz p.typ w4;refine ao 2 rfl (fun K hK=>?_);go_simp;go_wp2_with fail
  refine ag kc ?_;rintro e w5 ⟨rfl,hb⟩;have T9:Hc w5 (w.heap.size+1) P 141∧Hc w5 (w.heap.size+2) Ze 40:=⟨(hb.block _ (gl T.1)).trans T.1,(hb.block _ (gl T.2)).trans T.2⟩;have D9:=btt D hb;have R9:=bkk hb R;clear kc hb T D R;have T:=T9;have D:=D9;have R:=R9;clear T9 D9 R9;refine hK _ _ T.1 ?_;clear hK K
  have kc:=pI p _ w5 (HU.out.below D) HPO.out;rw[HP.out] at kc;refine ao 4 rfl (fun K hK=>?_);go_simp;go_wp2_with fail
  refine ag kc ?_;rintro e w6 ⟨⟨u6,rfl,hu6⟩,hb⟩;obtain⟨a6,c6,hs6⟩:=hu6.shape;subst hs6;have T9:Hc w6 (w.heap.size+1) P 141∧Hc w6 (w.heap.size+2) Ze 40:=⟨(hb.block _ (gl T.1)).trans T.1,(hb.block _ (gl T.2)).trans T.2⟩;have D9:=btt D hb;have R9:=bkk hb R;clear kc hb T D R;have T:=T9;have D:=D9;have R:=R9;clear T9 D9 R9;refine hK _ _ T.1 ?_;clear hK K
  simp only[elA,El.cls,El.tag,El.cons,El.bytes];have hb:=alb w6 #[.int .i64 0,.int .i64 4,.bool false,.string ⟨p.typ.toArray⟩,.slice none 0 0,.int .i64 0,.int .i64 16,.bool true,Es,.slice a6 (bL p).length c6] 40;have x:=alz w6 #[.int .i64 0,.int .i64 4,.bool false,.string ⟨p.typ.toArray⟩,.slice none 0 0,.int .i64 0,.int .i64 16,.bool true,Es,.slice a6 (bL p).length c6] 40;have o7:bJ (w.heap.size+1) (w6.alloc (.cells #[.int .i64 0,.int .i64 4,.bool false,.string ⟨p.typ.toArray⟩,.slice none 0 0,.int .i64 0,.int .i64 16,.bool true,Es,.slice a6 (bL p).length c6] 40)) (.slice (some ⟨w6.heap.size,0,none⟩) 2 2) [cj p.typ,.mk 0 16 true [] (bL p)]:=
   bJ.flat (l:=[cj p.typ,.mk 0 16 true [] (bL p)]) (us:=[.slice none 0 0,.slice a6 (bL p).length c6]) x (by simp[cx,cj,El.cls,El.tag,El.cons,El.bytes]) rfl (by have:=(gl R);omega) (by simp) (fun j e u q1 q2=>by
    have h3:j=0∨j=1:=by have h9:=(List.getElem?_eq_some_iff.1 q1).1;simp at h9;omega
    rcases h3 with rfl|rfl
    ·simp at q1 q2;subst q1;subst q2;exact bf.no _ _ _ _
    ·simp at q1 q2;subst q1;subst q2;exact hu6.kept fun g hg hl=>⟨hb.block g hl,fun h=>by cases h;omega⟩)
  have T9:Hc (w6.alloc (.cells #[.int .i64 0,.int .i64 4,.bool false,.string ⟨p.typ.toArray⟩,.slice none 0 0,.int .i64 0,.int .i64 16,.bool true,Es,.slice a6 (bL p).length c6] 40)) (w.heap.size+1) P 141∧Hc (w6.alloc (.cells #[.int .i64 0,.int .i64 4,.bool false,.string ⟨p.typ.toArray⟩,.slice none 0 0,.int .i64 0,.int .i64 16,.bool true,Es,.slice a6 (bL p).length c6] 40)) (w.heap.size+2) Ze 40:=⟨(hb.block _ (gl T.1)).trans T.1,(hb.block _ (gl T.2)).trans T.2⟩;have D9:=btt D hb;have R9:=bkk hb R;clear hb x T D R hu6;refine ao 5 rfl (kks T9.1 ?_);generalize w6.alloc (.cells #[.int .i64 0,.int .i64 4,.bool false,.string ⟨p.typ.toArray⟩,.slice none 0 0,.int .i64 0,.int .i64 16,.bool true,Es,.slice a6 (bL p).length c6] 40)=w7 at T9 D9 R9 o7⊢;generalize w6.heap.size=y at o7⊢;have kc:=cH [cj p.typ,.mk 0 16 true [] (bL p)] _ w7 o7.kids (by have h:=HSM.out;simp only[SmE] at h;exact h.2.2) (by simp);have T:=T9;have D:=D9;have R:=R9;clear T9 D9 R9 o7;refine ao 6 rfl (fun K hK=>?_);go_simp;go_wp2_with fail
  refine ag kc ?_;rintro e w8 ⟨⟨u8,rfl,hu8⟩,hb⟩;have m8:=(hb.block _ (gl T.1)).trans T.1;have x8:=(hb.block _ (gl T.2)).trans T.2;have b8:=btt D hb;have t8:=bkk hb R;have hz3:=D.size;have hz4:=(gl T.2);clear kc hb T D R;refine hK _ _ m8 ?_;clear hK K
  obtain⟨E0,hE0⟩:=nmm (elA (.mk 0 16 true [] [cj p.typ,.mk 0 16 true [] (bL p)]) u8);have hE0a:E0.all (·.oneCell')=true:=by
   obtain⟨a,c,hsl⟩:=hu8.shape;subst hsl;rw[←hE0];simp[elA,Value.oneCell']
  have hE0s:E0.size=5:=by rw[←hE0];rfl
  rw[hE0];obtain⟨HE0,HE0a,HE0s⟩:=Ch hE0 hE0a hE0s;clear hE0 hE0a hE0s;have m9:=(setRow_other w8 (w.heap.size+2) (w.heap.size+1) E0 (by omega)).trans m8;have t9:=(setRow_other w8 (w.heap.size+2) w.heap.size E0 (by omega)).trans t8;have x9:=setRow_heap w8 (w.heap.size+2) _ E0 _ _ x8;have b9:=xo b8 (g:=w.heap.size+2) (by omega) E0;have hk:bf (fun _=>True) (w8.setRow (w.heap.size+2) E0) u8 [cj p.typ,.mk 0 16 true [] (bL p)]:=hu8.kept fun g hg hl=>⟨setRow_other w8 (w.heap.size+2) g E0 (by omega),trivial⟩
  have HK:=hid hk;clear hk hu8;refine ao 7 rfl (fun K hK=>?_);refine xx 40 (.tmp 5) (.tmp 56) rfl (w.heap.size+2) 40 _ E0 (by rfl) (by rfl) x8 (by rw[HE0s.out];rfl) (by rw[HE0s.out];rfl) HE0a.out ?_;refine hK _ _ m9 ?_;clear hK K
  refine xk (by kernel_rfl) ?_ _
  try simp only[Exit.then]
  refine‹∀(a:Act) (w:World),Code.wp _ _ _ a w→_› _ _ ?_;clear t8 m8 x8 b8;generalize w8.setRow (w.heap.size+2) E0=w9 at t9 m9 x9 b9 HK⊢;rw[←HE0.out] at x9;have q0:w9.cell? ⟨w.heap.size+1,0,none⟩=some (.int .i64 4):=(aq m9 0).trans (by rw[←HP.out];simp[Fl.row,HOP.out]);obtain⟨E1,hE1⟩:=nmm (elA (.mk 0 16 true [] [cj p.typ,.mk 0 16 true [] (bL p)]) (u8));rw[hE1] at x9;have hE1s:E1.size=5:=by rw[←hE1];rfl
  have kc:=BY (.mk 0 16 true [] [cj p.typ,.mk 0 16 true [] (bL p)]) (u8) (4) w9 (HK.out.mono (fun _ _ _=>trivial)) HSM.out;rw[hE1,HELX.out,show El.kids (.mk 0 16 true [] [cj p.typ,.mk 0 16 true [] (bL p)])=EX.kids from by rw[←HELX.out];rfl] at kc;have HE1:=hid hE1s;clear hE1 hE1s
  go_wp2_with (refine ldE (.tmp 5) x9 HE1.out ?_)
  refine ag kc ?_;rintro e w50 ⟨⟨u5,rfl,hu5⟩,hb⟩;have t50:=bkk hb t9;have b50:=btt b9 hb;have hsz:=(gl t9);clear kc hb t9 b9 m9 x9 q0;obtain⟨E,hE⟩:=nmm (elA EX u5);have hEa:E.all (·.oneCell')=true:=by
   obtain⟨a,c,hsl⟩:=hu5.shape;subst hsl;rw[←hE];simp[elA,Value.oneCell']
  have hEs:E.size=5:=by rw[←hE];rfl
  rw[hE];have bF:=xo b50 (g:=w.heap.size) (ah _) E;have tF:=setRow_heap w50 w.heap.size _ E _ _ t50;have uF:bf (fun g=>w.heap.size≤g) (w50.setRow w.heap.size E) u5 EX.kids:=hu5.kept fun g hg hl=>⟨setRow_other w50 w.heap.size g E (by omega),by omega⟩
  obtain⟨HE,HEa,HEs⟩:=Ch hE hEa hEs;have Tryz.underlying141:=hid uF;clear hu5 hE hEa hEs uF b50
  go_wp2_with (refine stE (.tmp 2) (.tmp 60) E t50 HEs.out HEa.out ?_)
  refine aH (v:=.tuple #[.agg E,V]) ?_ rfl (by rw[HPR.out];exact⟨⟨u5,_,by rw[HE.out],Tryz.underlying141.out,HDR.out⟩,bF⟩);have hr:=rlE tF HEs.out
  simp[results,Tryz.f80]
  show((Sem.run Tryz.prog (loadVar 40 ⟨w.heap.size,0,none⟩) (w50.setRow w.heap.size E)).andThen fun a w'=>Result.ok (Value.tuple #[a,V]) w')=_;rw[hr]
  simp
theorem lZ(p:Fl)(f:List Fl)(v:Value)(w0 w:World)(h0:Bw w0 w)(hv:de w0 v (p::f))(hok:eP (p::f))(hln:f.length≤100)(hop:p.op∉([0,1,2,4,7]:List Int)):
  Calls Tryz.prog 80 #[v] w (FiP w0 w (er p) f):=by
 unfold FiP;have HOP:=hid hop;clear hop;obtain⟨EX,hEX⟩:=nmm ((er p:El):El);rw[hEX];have HEX:=hid hEX;clear hEX;obtain⟨PR,hPR⟩:∃PR:Ending→World→Prop,PR=fun e w'=>(∃u v',e=.returned (.tuple #[.agg (elA EX u),v'])∧bf (fun g=>w.heap.size≤g) w' u EX.kids∧de w0 v' f)∧Bw w w':=⟨_,rfl⟩
 rw[←hPR];have HPR:=hid hPR;clear hPR;have hpo:=(hok.2 p (by simp)).1;obtain⟨HPO,HOK⟩:=Cg hpo hok.tail;have hdr:=hv.drop;obtain⟨g,o,cap,rfl,hcap,c0,c1,c2,c3,c4,c5,u0,c6,hu⟩:=hv.first;obtain⟨au,cu,hus,hcu,-⟩:=id hu;subst hus;have HU:=hid (hu.below h0);obtain⟨NF,hNF⟩:=nmm f.length;rw[hNF] at hcap hdr hln⊢;obtain⟨V,hV⟩:=nmm (eH (.slice (some ⟨g,o,none⟩) (NF+1) cap));rw[hV] at hdr;obtain⟨HDR,HV,HNF⟩:=Ch hdr hV hNF;obtain⟨P,hP⟩:=nmm (p.row (.slice au p.any.length cu));have hP1:(#[.int .i64 p.op,.int .i64 p.n,.string ⟨p.typ.toArray⟩,.string ⟨p.value.toArray⟩,.string ⟨p.init.toArray⟩,.string ⟨p.final.toArray⟩,.slice au p.any.length cu]:Array Value)=P:=hP;have hP2:P.size=7:=by rw[←hP];rfl
 obtain⟨HP,HP1,HP2⟩:=Ch hP hP1 hP2;have b1:=alb w Ze 40;have t1:=alz w Ze 40;have hs1:(w.alloc (.cells Ze 40)).heap.size=w.heap.size+1:=by simp
 have h01:=btt h0 b1;have q0:=(h01.cell (bj c0)).trans c0;have q1:=(h01.cell (bj c1)).trans c1;have q2:=(h01.cell (bj c2)).trans c2;have q3:=(h01.cell (bj c3)).trans c3;have q4:=(h01.cell (bj c4)).trans c4;have q5:=(h01.cell (bj c5)).trans c5;have q6:=(h01.cell (bj c6)).trans c6;obtain⟨HS1,H0⟩:=Cg hs1 h0;clear hv hok hpo hdr hu hcu hNF hV hP hP1 hP2 c0 c1 c2 c3 c4 c5 c6 hs1 h01 h0
 go_enter Tryz.func80,Tryz.ntmps80
 go_upto_region 1 with fail
 generalize w.alloc (.cells Ze 40)=w1 at b1 t1 q0 q1 q2 q3 q4 q5 q6 HS1⊢
 go_upto_region 2 with fail
 rw[HP1.out];have b2:=b1.trans ((aA w1.heap.size w1).alloc (ah _) (.cells P 141)|>.mono b1.size);have t2:=(alloc_old w1 (.cells P 141) w.heap.size (gl t1)).trans t1;have m2:Hc (w1.alloc (.cells P 141)) (w.heap.size+1) P 141:=fb _ _ _ (by rw[HS1.out]);have hs2:(w1.alloc (.cells P 141)).heap.size=w.heap.size+2:=by simp[HS1.out]
 rw[HS1.out];have HS2:=hid hs2;clear q0 q1 q2 q3 q4 q5 q6 b1 t1 HS1 HP1 hs2;generalize w1.alloc (.cells P 141)=w2 at b2 t2 m2 HS2⊢
 go_cut [0] from 11 to 12 (fun s0 wx=>s0=V∧wx=w2)
 case first=>
  by_cases hc1:cap=1
  ·have hVV:V=.slice (some ⟨g,o,none⟩) 0 0:=by rw[←HV.out];simp[eH,hc1]
   have HVV:=hid hVV;have hnf0:NF=0:=by omega
   subst hc1 hnf0;clear hVV
   go_wp2_with fail
   go_meet
   exact⟨by rw[HVV.out],rfl⟩
  ·have hVV:V=.slice (some ⟨g,o+7,none⟩) NF (cap -1):=by rw[←HV.out];simp[eH,hc1]
   have HVV:=hid hVV;have hc2:¬(cap≤1):=by omega
   have hc3:1≤cap:=by omega
   clear hVV
   go_wp2_with fail
   go_meet
   exact⟨by rw[HVV.out],rfl⟩
 case rest=>
  obtain⟨hs0,hwc⟩:=hcut;rw[hs0,hwc];clear HV hs0 hwc;have b3:=b2.trans ((aA w2.heap.size w2).alloc (ah _) (.cells Ze 40)|>.mono b2.size);have t3:=(alloc_old w2 (.cells Ze 40) w.heap.size (gl t2)).trans t2;have m3:=(alloc_old w2 (.cells Ze 40) (w.heap.size+1) (gl m2)).trans m2;have x3:Hc (w2.alloc (.cells Ze 40)) (w.heap.size+2) Ze 40:=fb _ _ _ (by rw[HS2.out]);have hs3:(w2.alloc (.cells Ze 40)).heap.size=w.heap.size+3:=by simp[HS2.out]
  go_upto_region 4 with fail
  rw[HS2.out];have HS3:=hid hs3;clear b2 t2 m2 HS2 hs3;generalize w2.alloc (.cells Ze 40)=w3 at b3 t3 m3 x3 HS3⊢;have q0:w3.cell? ⟨w.heap.size+1,0,none⟩=some (.int .i64 p.op):=(aq m3 0).trans (by rw[←HP.out];rfl);have hc:∀k:Int,k∈([0,1,2,4,7]:List Int)→(p.op==k)=false:=fun k hk=>aE (fun h=>by have h2:=HOP.out;rw[h] at h2;exact h2 hk)
  have f0:=hc 0 (by decide);have f1:=hc 1 (by decide);have f2:=hc 2 (by decide);have f4:=hc 4 (by decide);have f7:=hc 7 (by decide);clear hc;have hELX:El.mk 2 (p.op) true [] [cj p.typ,cj p.value]=EX:=by rw[←HEX.out];unfold er;rw[if_neg (by simpa using f7),if_neg (by simpa using f4)]
  have HELX:Hid (El.mk 2 (p.op) (El.cons (.mk 0 16 true [] [cj p.typ,cj p.value])) (El.bytes (.mk 0 16 true [] [cj p.typ,cj p.value])) (El.kids (.mk 0 16 true [] [cj p.typ,cj p.value]))=EX):=hid hELX;clear hELX;have hpo:=HPO.out;have hsm:SmE (.mk 0 16 true [] [cj p.typ,cj p.value]):=by
   obtain⟨k1,k2,k3,k4,k5,k6⟩:=hpo;simp only[SmE,SmL,cj]
   simp
   omega
  have HSM:=hid hsm;clear hsm hpo
  go_upto_region 5 with fail
  clear q0;have T:Hc w3.drew (w.heap.size+1) P 141∧Hc w3.drew (w.heap.size+2) Ze 40:=⟨m3,x3⟩;have D:Bw w w3.drew:=b3.drew;have R:Hc w3.drew w.heap.size Ze 40:=t3;refine aR (S:=(fun w'=>Hc w' (w.heap.size+1) P 141)) (by kernel_rfl) ?_
  change wpAnyH _ _ _ _ _ _ _ _ w3.drew
  clear m3 x3 b3 t3 HS3;generalize w3.drew=w4 at T D R⊢;refine tp 0 ⟨w.heap.size+1,2,none⟩ rfl T.1 ?_;refine tn 1 (.string ⟨p.typ.toArray⟩) rfl (fun w' hS=>by have q:=(aq hS 2).trans (show _=some (Value.string ⟨p.typ.toArray⟩) from by rw[←HP.out];rfl);go_simp) T.1 ?_;refine tp 3 ⟨w.heap.size+1,3,none⟩ rfl T.1 ?_;refine tn 4 (.string ⟨p.value.toArray⟩) rfl (fun w' hS=>by have q:=(aq hS 3).trans (show _=some (Value.string ⟨p.value.toArray⟩) from by rw[←HP.out];rfl);go_simp) T.1 ?_;have kc:=bz p.typ w4;refine ao 2 rfl (fun K hK=>?_);go_simp;go_wp2_with fail
  refine ag kc ?_;rintro e w5 ⟨rfl,hb⟩;have T9:Hc w5 (w.heap.size+1) P 141∧Hc w5 (w.heap.size+2) Ze 40:=⟨(hb.block _ (gl T.1)).trans T.1,(hb.block _ (gl T.2)).trans T.2⟩;have D9:=btt D hb;have R9:=bkk hb R;clear kc hb T D R;have T:=T9;have D:=D9;have R:=R9;clear T9 D9 R9;refine hK _ _ T.1 ?_;clear hK K
  have kc:=bz p.value w5;refine ao 5 rfl (fun K hK=>?_);go_simp;go_wp2_with fail
  refine ag kc ?_;rintro e w6 ⟨rfl,hb⟩;have T9:Hc w6 (w.heap.size+1) P 141∧Hc w6 (w.heap.size+2) Ze 40:=⟨(hb.block _ (gl T.1)).trans T.1,(hb.block _ (gl T.2)).trans T.2⟩;have D9:=btt D hb;have R9:=bkk hb R;clear kc hb T D R;have T:=T9;have D:=D9;have R:=R9;clear T9 D9 R9;refine hK _ _ T.1 ?_;clear hK K
  have hu6:bf (fun _=>True) w6 (.slice none 0 0) []:=bf.nil _ _;simp only[elA,El.cls,El.tag,El.cons,El.bytes];have hb:=alb w6 #[.int .i64 0,.int .i64 4,.bool false,.string ⟨p.typ.toArray⟩,.slice none 0 0,.int .i64 0,.int .i64 4,.bool false,.string ⟨p.value.toArray⟩,.slice none 0 0] 40;have x:=alz w6 #[.int .i64 0,.int .i64 4,.bool false,.string ⟨p.typ.toArray⟩,.slice none 0 0,.int .i64 0,.int .i64 4,.bool false,.string ⟨p.value.toArray⟩,.slice none 0 0] 40;have o7:bJ (w.heap.size+1) (w6.alloc (.cells #[.int .i64 0,.int .i64 4,.bool false,.string ⟨p.typ.toArray⟩,.slice none 0 0,.int .i64 0,.int .i64 4,.bool false,.string ⟨p.value.toArray⟩,.slice none 0 0] 40)) (.slice (some ⟨w6.heap.size,0,none⟩) 2 2) [cj p.typ,cj p.value]:=
   bJ.flat (l:=[cj p.typ,cj p.value]) (us:=[.slice none 0 0,.slice none 0 0]) x (by simp[cx,cj,El.cls,El.tag,El.cons,El.bytes]) rfl (by have:=(gl R);omega) (by simp) (fun j e u q1 q2=>by
    have h3:j=0∨j=1:=by have h9:=(List.getElem?_eq_some_iff.1 q1).1;simp at h9;omega
    rcases h3 with rfl|rfl
    ·simp at q1 q2;subst q1;subst q2;exact bf.no _ _ _ _
    ·simp at q1 q2;subst q1;subst q2;exact bf.no _ _ _ _)
  have T9:Hc (w6.alloc (.cells #[.int .i64 0,.int .i64 4,.bool false,.string ⟨p.typ.toArray⟩,.slice none 0 0,.int .i64 0,.int .i64 4,.bool false,.string ⟨p.value.toArray⟩,.slice none 0 0] 40)) (w.heap.size+1) P 141∧Hc (w6.alloc (.cells #[.int .i64 0,.int .i64 4,.bool false,.string ⟨p.typ.toArray⟩,.slice none 0 0,.int .i64 0,.int .i64 4,.bool false,.string ⟨p.value.toArray⟩,.slice none 0 0] 40)) (w.heap.size+2) Ze 40:=⟨(hb.block _ (gl T.1)).trans T.1,(hb.block _ (gl T.2)).trans T.2⟩;have D9:=btt D hb;have R9:=bkk hb R;clear hb x T D R hu6;refine ao 6 rfl (kks T9.1 ?_);generalize w6.alloc (.cells #[.int .i64 0,.int .i64 4,.bool false,.string ⟨p.typ.toArray⟩,.slice none 0 0,.int .i64 0,.int .i64 4,.bool false,.string ⟨p.value.toArray⟩,.slice none 0 0] 40)=w7 at T9 D9 R9 o7⊢;generalize w6.heap.size=y at o7⊢;have kc:=cH [cj p.typ,cj p.value] _ w7 o7.kids (by have h:=HSM.out;simp only[SmE] at h;exact h.2.2) (by simp);have T:=T9;have D:=D9;have R:=R9;clear T9 D9 R9 o7;refine ao 7 rfl (fun K hK=>?_);go_simp;go_wp2_with fail
  refine ag kc ?_;rintro e w8 ⟨⟨u8,rfl,hu8⟩,hb⟩;have m8:=(hb.block _ (gl T.1)).trans T.1;have x8:=(hb.block _ (gl T.2)).trans T.2;have b8:=btt D hb;have t8:=bkk hb R;have hz3:=D.size;have hz4:=(gl T.2);clear kc hb T D R;refine hK _ _ m8 ?_;clear hK K
  obtain⟨E0,hE0⟩:=nmm (elA (.mk 0 16 true [] [cj p.typ,cj p.value]) u8);have hE0a:E0.all (·.oneCell')=true:=by
   obtain⟨a,c,hsl⟩:=hu8.shape;subst hsl;rw[←hE0];simp[elA,Value.oneCell']
  have hE0s:E0.size=5:=by rw[←hE0];rfl
  rw[hE0];obtain⟨HE0,HE0a,HE0s⟩:=Ch hE0 hE0a hE0s;clear hE0 hE0a hE0s;have m9:=(setRow_other w8 (w.heap.size+2) (w.heap.size+1) E0 (by omega)).trans m8;have t9:=(setRow_other w8 (w.heap.size+2) w.heap.size E0 (by omega)).trans t8;have x9:=setRow_heap w8 (w.heap.size+2) _ E0 _ _ x8;have b9:=xo b8 (g:=w.heap.size+2) (by omega) E0;have hk:bf (fun _=>True) (w8.setRow (w.heap.size+2) E0) u8 [cj p.typ,cj p.value]:=hu8.kept fun g hg hl=>⟨setRow_other w8 (w.heap.size+2) g E0 (by omega),trivial⟩
  have HK:=hid hk;clear hk hu8;refine ao 8 rfl (fun K hK=>?_);refine xx 40 (.tmp 5) (.tmp 22) rfl (w.heap.size+2) 40 _ E0 (by rfl) (by rfl) x8 (by rw[HE0s.out];rfl) (by rw[HE0s.out];rfl) HE0a.out ?_;refine hK _ _ m9 ?_;clear hK K
  refine xk (by kernel_rfl) ?_ _
  try simp only[Exit.then]
  refine‹∀(a:Act) (w:World),Code.wp _ _ _ a w→_› _ _ ?_;clear t8 m8 x8 b8;generalize w8.setRow (w.heap.size+2) E0=w9 at t9 m9 x9 b9 HK⊢;rw[←HE0.out] at x9;have q0:w9.cell? ⟨w.heap.size+1,0,none⟩=some (.int .i64 p.op):=(aq m9 0).trans (by rw[←HP.out];rfl);obtain⟨E1,hE1⟩:=nmm (elA (.mk 0 16 true [] [cj p.typ,cj p.value]) (u8));rw[hE1] at x9;have hE1s:E1.size=5:=by rw[←hE1];rfl
  have kc:=BY (.mk 0 16 true [] [cj p.typ,cj p.value]) (u8) (p.op) w9 (HK.out.mono (fun _ _ _=>trivial)) HSM.out;rw[hE1,HELX.out,show El.kids (.mk 0 16 true [] [cj p.typ,cj p.value])=EX.kids from by rw[←HELX.out];rfl] at kc;have HE1:=hid hE1s;clear hE1 hE1s
  go_wp2_with (refine ldE (.tmp 5) x9 HE1.out ?_)
  refine ag kc ?_;rintro e w50 ⟨⟨u5,rfl,hu5⟩,hb⟩;have t50:=bkk hb t9;have b50:=btt b9 hb;have hsz:=(gl t9);clear kc hb t9 b9 m9 x9 q0;obtain⟨E,hE⟩:=nmm (elA EX u5);have hEa:E.all (·.oneCell')=true:=by
   obtain⟨a,c,hsl⟩:=hu5.shape;subst hsl;rw[←hE];simp[elA,Value.oneCell']
  have hEs:E.size=5:=by rw[←hE];rfl
  rw[hE];have bF:=xo b50 (g:=w.heap.size) (ah _) E;have tF:=setRow_heap w50 w.heap.size _ E _ _ t50;have uF:bf (fun g=>w.heap.size≤g) (w50.setRow w.heap.size E) u5 EX.kids:=hu5.kept fun g hg hl=>⟨setRow_other w50 w.heap.size g E (by omega),by omega⟩
  obtain⟨HE,HEa,HEs⟩:=Ch hE hEa hEs;have Tryz.underlying141:=hid uF;clear hu5 hE hEa hEs uF b50
  go_wp2_with (refine stE (.tmp 2) (.tmp 60) E t50 HEs.out HEa.out ?_)
  refine aH (v:=.tuple #[.agg E,V]) ?_ rfl (by rw[HPR.out];exact⟨⟨u5,_,by rw[HE.out],Tryz.underlying141.out,HDR.out⟩,bF⟩);have hr:=rlE tF HEs.out
  simp[results,Tryz.f80]
  show((Sem.run Tryz.prog (loadVar 40 ⟨w.heap.size,0,none⟩) (w50.setRow w.heap.size E)).andThen fun a w'=>Result.ok (Value.tuple #[a,V]) w')=_;rw[hr]
  simp
end Go.Proofs.YtfhghdcbofbceaaGreatDoor
