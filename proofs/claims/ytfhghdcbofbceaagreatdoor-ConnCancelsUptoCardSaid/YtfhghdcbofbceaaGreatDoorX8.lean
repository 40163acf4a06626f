/- ElT, ElL, ElH. -/
import Derived.Deep.CutRange
import Derived.Test.YtfhghdcbofbceaaGreatDoorX7
namespace Go.Proofs.YtfhghdcbofbceaaGreatDoor
open Go.RowKit Go.Lib
set_option maxRecDepth 100000
set_option maxHeartbeats 16000000
def vN(w0 w:World)(P:Array Value)(k:Nat)(f:List Fl)(N:Nat)(r:List Fl)(s0 s6 s29:Value)(wr:World):Prop:=
 ∃(i:Nat) (fi:List Fl) (es:List El),s29=.int .i64 (i:Int)∧i≤N∧de w0 s0 fi∧fi<:+f∧fg (bG k) (N -i) fi=some r∧bJ (w.heap.size+3) wr s6 es∧es.length=i∧es++(cT (cD k) (N -i) fi).1=(cT (cD k) N f).1∧
  Hc wr w.heap.size Ze 40∧Hc wr (w.heap.size+1) P 141∧Hc wr (w.heap.size+2) Ze 40∧Bw w wr
theorem iU(T:Int)(hT:T=0∨T=1∨T=2)(k:Nat)(ih:∀(fi r:List Fl) (v:Value) (w0 w:World),Below w0.heap.size w0 w→de w0 v fi→eP fi→fi.length≤100→bG k fi=some r→Calls Tryz.prog 80 #[v] w (FiP w0 w (cD k fi).1 r))(p:Fl)(f:List Fl)(v:Value)(w0 w:World)(h0:Below w0.heap.size w0 w)(hv:de w0 v (p::f))(hok:eP (p::f))(hln:f.length≤100)(r:List Fl)(hn0:0≤p.n)(hit:fg (bG k) p.n.toNat f=some r)(hop:p.op=T):
  Calls Tryz.prog 80 #[v] w (FiP w0 w (.mk 2 T true [] (cT (cD k) p.n.toNat f).1) r):=by
 unfold FiP;have HOP:=hid hop;clear hop;have IH:=hid ih;clear ih;obtain⟨N,hN⟩:=nmm p.n.toNat;have hpn:p.n=(N:Int):=by omega
 rw[hN] at hit⊢;obtain⟨HIT,HPN⟩:=Cg hit hpn;have hNl:=Cv (gt k) _ _ _ hit;have hNl2:N≤100:=by omega
 have hsmi:(∀q∈f,q.ok)→SmL (cT (cD k) N f).1:=fun hq=>kT (fun f r hf=>⟨mA k f r hf,fR k f r hf⟩) (jr k) N f r hq hln hit
 have HSMI:=hid (hsmi (fun q hq=>(hok.2 q (by simp[hq])).1));clear hN hpn hit hn0 hNl hsmi;obtain⟨EX,hEX⟩:=nmm ((.mk 2 T true [] (cT (cD k) N f).1:El):El);rw[hEX];have HEX:=hid hEX;clear hEX;rcases hT with rfl|rfl|rfl
 all_goals
  obtain⟨PR,hPR⟩:∃PR:Ending→World→Prop,PR=fun e w'=>(∃u v',e=.returned (.tuple #[.agg (elA EX u),v'])∧bf (fun g=>w.heap.size≤g) w' u EX.kids∧de w0 v' r)∧Below w.heap.size w w':=⟨_,rfl⟩
  rw[←hPR];have HPR:=hid hPR;clear hPR;have hpo:=(hok.2 p (by simp)).1;obtain⟨HPO,HOK⟩:=Cg hpo hok.tail;have hdr:=hv.drop;obtain⟨g,o,cap,rfl,hcap,c0,c1,c2,c3,c4,c5,u0,c6,hu⟩:=hv.first;obtain⟨au,cu,hus,hcu,-⟩:=id hu;subst hus;have HU:=hid (hu.below h0);obtain⟨NF,hNF⟩:=nmm f.length;rw[hNF] at hcap hdr hln⊢;obtain⟨V,hV⟩:=nmm (eH (.slice (some ⟨g,o,none⟩) (NF+1) cap));rw[hV] at hdr;obtain⟨HDR,HV,HNF⟩:=Ch hdr hV hNF;obtain⟨P,hP⟩:=nmm (p.row (.slice au p.any.length cu));have hP1:(#[.int .i64 p.op,.int .i64 p.n,.string ⟨p.typ.toArray⟩,.string ⟨p.value.toArray⟩,.string ⟨p.init.toArray⟩,.string ⟨p.final.toArray⟩,.slice au p.any.length cu]:Array Value)=P:=hP;have hP2:P.size=7:=by rw[←hP];rfl
  obtain⟨HP,HP1,HP2⟩:=Ch hP hP1 hP2;have b1:=alb w Ze 40;have t1:=alz w Ze 40;have hs1:(w.alloc (.cells Ze 40)).heap.size=w.heap.size+1:=by simp
  have h01:=btt h0 b1;have q0:=(h01.cell (bj c0)).trans c0;have q1:=(h01.cell (bj c1)).trans c1;have q2:=(h01.cell (bj c2)).trans c2;have q3:=(h01.cell (bj c3)).trans c3;have q4:=(h01.cell (bj c4)).trans c4;have q5:=(h01.cell (bj c5)).trans c5;have q6:=(h01.cell (bj c6)).trans c6;obtain⟨HS1,H0⟩:=Cg hs1 h0;clear hv hok hpo hdr hu hcu hNF hV hP hP1 hP2 c0 c1 c2 c3 c4 c5 c6 hs1 h01 h0
  go_enter Tryz.func80,Tryz.ntmps80
  go_upto_region 1 with fail
  generalize w.alloc (.cells Ze 40)=w1 at b1 t1 q0 q1 q2 q3 q4 q5 q6 HS1⊢
  go_upto_region 2 with fail
  rw[HP1.out];have b2:=b1.trans ((aA w1.heap.size w1).alloc (ah _) (.cells P 141)|>.mono b1.size);have t2:=(alloc_old w1 (.cells P 141) w.heap.size (gl t1)).trans t1;have m2:Hc (w1.alloc (.cells P 141)) (w.heap.size+1) P 141:=fb _ _ _ (by rw[HS1.out]);have hs2:(w1.alloc (.cells P 141)).heap.size=w.heap.size+2:=by simp[HS1.out]
  rw[HS1.out];have HS2:=hid hs2;clear q0 q1 q2 q3 q4 q5 q6 b1 t1 HS1 HP1 hs2;generalize w1.alloc (.cells P 141)=w2 at b2 t2 m2 HS2⊢
  go_cut [0] from 11 to 12 (fun s0 wx=>s0=V∧wx=w2)
  case first=>
   by_cases hc1:cap=1
   ·have hVV:V=.slice (some ⟨g,o,none⟩) 0 0:=by rw[←HV.out];simp[eH,hc1]
    have HVV:=hid hVV;have hnf0:NF=0:=by omega
    subst hc1 hnf0;clear hVV
    go_wp2_with fail
    go_meet
    exact⟨by rw[HVV.out],rfl⟩
   ·have hVV:V=.slice (some ⟨g,o+7,none⟩) NF (cap -1):=by rw[←HV.out];simp[eH,hc1]
    have HVV:=hid hVV;have hc2:¬(cap≤1):=by omega
    have hc3:1≤cap:=by omega
    clear hVV
    go_wp2_with fail
    go_meet
    exact⟨by rw[HVV.out],rfl⟩
  case rest=>
   obtain⟨hs0,hwc⟩:=hcut;rw[hs0,hwc];clear HV hs0 hwc;have b3:=b2.trans ((aA w2.heap.size w2).alloc (ah _) (.cells Ze 40)|>.mono b2.size);have t3:=(alloc_old w2 (.cells Ze 40) w.heap.size (gl t2)).trans t2;have m3:=(alloc_old w2 (.cells Ze 40) (w.heap.size+1) (gl m2)).trans m2;have x3:Hc (w2.alloc (.cells Ze 40)) (w.heap.size+2) Ze 40:=fb _ _ _ (by rw[HS2.out]);have hs3:(w2.alloc (.cells Ze 40)).heap.size=w.heap.size+3:=by simp[HS2.out]
   go_upto_region 4 with fail
   rw[HS2.out];have HS3:=hid hs3;clear b2 t2 m2 HS2 hs3;generalize w2.alloc (.cells Ze 40)=w3 at b3 t3 m3 x3 HS3⊢;have q0:=(aq m3 0).trans (show _=some (Value.int .i64 p.op) from by rw[←HP.out];simp[Fl.row]);rw[HOP.out] at q0;have q1:w3.cell? ⟨w.heap.size+1,1,none⟩=some (.int .i64 (N:Int)):=(aq m3 1).trans (by rw[←HP.out,←HPN.out];rfl);obtain⟨av,cv,hvs⟩:=HDR.out.shape;rw[HNF.out] at hvs;have HDV:=HDR.out;rw[hvs] at HDV⊢;have HD:=hid HDV;clear HDV hvs HDR
   go_wp2_with fail
   go_loopw [0,6,7,29] (fun s0 s6 _ s29 wr=>vN w0 w P k f N r s0 s6 s29 wr) (fun _ _ _ i _=>N -(RowKit.intOf i).toNat)
   case atStart=>exact⟨0,f,[],rfl,Nat.zero_le _,HD.out,List.suffix_refl _,HIT.out,bJ.nil _ _,rfl,by simp,t3,m3,x3,b3⟩
   case round=>
    clear t3 m3 x3 b3 HD HS3 q0 q1;obtain⟨i,fi,es,rfl,hi,hfv,hsuf,hit,ho,hel,hes,t3,m3,x3,b3⟩:=hrel;obtain⟨a0,d0,hfs⟩:=hfv.shape;subst hfs;obtain⟨a6,c6,hos⟩:=ho.shape;subst hos
    by_cases hiN:i<N
    ·have i1:decide ((i:Int)<(N:Int))=true:=aC (by omega)
     have i2:(i:Int)<(N:Int):=by omega
     obtain⟨m,hm⟩:∃m,N -i=m+1:=⟨N -i -1,by omega⟩;have hm2:N -(i+1)=m:=by omega
     rw[hm] at hit hes;obtain⟨ALL,hALL⟩:=nmm ((cT (cD k) N f).1);rw[hALL] at hes;have HALL:=hid hALL;clear hALL;unfold fg at hit;unfold cT at hes;cases hr:bG k fi with
     |none=>rw[hr] at hit;cases hit
     |some r1=>
      rw[hr] at hit;simp only at hit;have hfe:=mA k fi r1 hr;rw[hfe] at hes;have hs1:=fR k fi r1 hr;obtain⟨el,hel0⟩:=nmm ((cD k fi).1);rw[hel0] at hes;obtain⟨HES,HI2,HS2⟩:=Ch hes hit (hs1.trans hsuf);have hbk:=hsuf.length_le;have n1:=alb wr Ze 40;have y1:=alz wr Ze 40;have t4:=bkk n1 t3;have m4:=bkk n1 m3;have x4:=bkk n1 x3;have b4:=btt b3 n1;have kc:=IH.out fi r1 (.slice a0 fi.length d0) w0 (wr.alloc (.cells Ze 40)) (H0.out.trans (b4.mono H0.out.size)) hfv (HOK.out.suf hsuf) (by have:=HNF.out;omega) hr;rw[hel0] at kc;unfold FiP at kc;have hzk:wr.heap.size<(wr.alloc (.cells Ze 40)).heap.size:=by simp
      have hzx:=(gl x3);have hsz0:=b3.size;have hlt:∀g,(Value.slice a6 es.length c6).ownBlock=some g→w.heap.size+3≤g∧g<wr.heap.size:=fun g hg=>ho.lt hg
      obtain⟨HO,HLT,N1,HEL⟩:=Ci ho hlt n1 hel;clear n1 hr hit hes hfe hs1 hsuf hfv ho x3 m3 t3 b3 hlt hel;obtain⟨ec,et,ek,eb,eks⟩:=el;obtain⟨Y,hY⟩:=nmm wr.heap.size;have HY:=hid hY;rw[hY] at y1 hzk hzx hsz0;clear hY
      go_upto_region 13 with fail
      rw[HY.out];generalize wr.alloc (.cells Ze 40)=w4 at y1 t4 m4 x4 b4 kc hzk N1⊢;obtain⟨L6,hL6⟩:=nmm es.length;rw[hL6] at HLT HEL⊢;have HL6:=hid hL6;clear hL6
      go_wp2_with fail
      refine ag kc ?_;rintro e w5 ⟨⟨u,v',rfl,hu5,hv5⟩,hb⟩;obtain⟨a5,c5,hus5⟩:=hu5.shape;subst hus5;obtain⟨a9,c9,hvs9⟩:=hv5.shape;subst hvs9;have hkeep:∀j,j<Y→w5.heap[j]?=wr.heap[j]?:=fun j hj=>by
       have h1:=N1.out;rw[HY.out] at h1;exact(hb.block j (by omega)).trans (h1.block j hj)
      have y5:=bkk hb y1;have t5:=bkk hb t4;have m5:=bkk hb m4;have x5:=bkk hb x4;have b5:=btt b4 hb;have hz45:=hb.size;clear kc hb y1 t4 m4 x4 b4;simp only[elA,El.cls,El.tag,El.cons,El.bytes,El.kids] at hu5⊢;obtain⟨E,hE⟩:=nmm (#[.int .i64 ec,.int .i64 et,.bool ek,.string ⟨eb.toArray⟩,.slice a5 eks.length c5]:Array Value);have hEa:E.all (·.oneCell')=true:=by rw[←hE];simp[Value.oneCell']
      have hEs:E.size=5:=by rw[←hE];rfl
      rw[hE];have hz5:=(gl y5);have k6:∀j,j<Y→(w5.setRow Y E).heap[j]?=wr.heap[j]?:=fun j hj=>(setRow_other w5 Y j E (by omega)).trans (hkeep j hj)
      have t6:=(setRow_other w5 Y w.heap.size E (by omega)).trans t5;have m6:=(setRow_other w5 Y (w.heap.size+1) E (by omega)).trans m5;have x6:=(setRow_other w5 Y (w.heap.size+2) E (by omega)).trans x5;have y6:=setRow_heap w5 Y _ E _ _ y5;have b6:=xo b5 (g:=Y) (by omega) E;have hu6:bf (fun g=>Y<g) (w5.setRow Y E) (.slice a5 eks.length c5) eks:=hu5.kept fun g hg hl=>⟨setRow_other w5 Y g E (by omega),by omega⟩
      obtain⟨HE,HEa,HEs,Y5,K6⟩:=Cj hE hEa hEs y5 k6;clear hE hEa hEs y5 t5 m5 x5 b5 hu5 hkeep k6
      go_upto_region 14 with(refine stE (.tmp 7) (.tmp 34) E Y5.out HEs.out HEa.out ?_)
      generalize w5.setRow Y E=w6 at t6 m6 x6 y6 b6 hu6 K6⊢;clear Y5;have o6:bJ (w.heap.size+3) w6 (.slice a6 L6 c6) es:=by rw[←HL6.out];exact HO.out.keep (fun j hj=>K6.out j (by rw[←HY.out];exact hj))
      rw[←HE.out] at y6⊢;have hb:=alb w6 #[.int .i64 ec,.int .i64 et,.bool ek,.string ⟨eb.toArray⟩,.slice a5 eks.length c5] 40;have xa:Hc (w6.alloc (.cells #[.int .i64 ec,.int .i64 et,.bool ek,.string ⟨eb.toArray⟩,.slice a5 eks.length c5] 40)) w6.heap.size (elA (.mk ec et ek eb eks) (.slice a5 eks.length c5)) 40:=fb _ _ _ rfl;have t7:=bkk hb t6;have m7:=bkk hb m6;have x7:=bkk hb x6;have b7:=btt b6 hb;have o7:=o6.below hb;have hu7:bf (fun g=>(Value.slice a6 L6 c6).ownBlock≠some g) (w6.alloc (.cells #[.int .i64 ec,.int .i64 et,.bool ek,.string ⟨eb.toArray⟩,.slice a5 eks.length c5] 40)) (.slice a5 eks.length c5) eks:=(hu6.below hb).mono (fun g hg hl h=>by have:=(HLT.out g h).2;rw[HY.out] at this;omega);have hs7:=b7.size;have z1:=(gl t7);have z2:=(gl m7);have z3:=(gl x7);obtain⟨T7,M7,X7,B7,O7,XA,HU7,Y6⟩:=Cx t7 m7 x7 b7 o7 xa hu7 y6;clear hb t6 m6 x6 b6 o6 hu6 t7 m7 x7 b7 o7 xa hu7 y6
      go_wp2_with (first|(refine ldE (.tmp 7) Y6.out rfl ?_)|(at_builtin;refine bO rfl (.tmp 36) (.tmp 38) rfl (w.heap.size+3) (.slice a6 L6 c6) es (by rfl) O7.out (.mk ec et ek eb eks) a5 eks.length c5 w6.heap.size rfl XA.out HU7.out (by rw[HL6.out];have:=HEL.out;omega) (by omega) ?_;intro a10 c10 w10 o10 hg;have m10:=(hg.block (w.heap.size+1) z2 (fun h=>by have:=(O7.out.lt h.symm).1;omega)).trans M7.out;have t10:=(hg.block w.heap.size z1 (fun h=>by have:=(O7.out.lt h.symm).1;omega)).trans T7.out;have x10:=(hg.block (w.heap.size+2) z3 (fun h=>by have:=(O7.out.lt h.symm).1;omega)).trans X7.out;have b10:=B7.out.grown hg hs7 (fun b hb=>by have:=(O7.out.lt hb).1;omega);clear hg hs7 z1 z2 z3 XA T7 M7 X7 B7 O7 HU7 Y6))
      rw[HL6.out] at o10⊢;refine⟨⟨i+1,r1,es++[.mk ec et ek eb eks],by go_num,by omega,hv5,HS2.out,by rw[hm2];exact HI2.out,o10,by have h1:=HEL.out;have h2:=HL6.out;simp;omega,by rw[hm2,HALL.out,←HES.out];simp,t10,m10,x10,b10⟩,?_⟩
      simp[RowKit.intOf];omega
    ·obtain rfl:i=N:=by omega
     rw[Nat.sub_self] at hit hes;simp only[fg,Option.some.injEq] at hit;simp only[cT,List.append_nil] at hes;subst hit hes;have hELX:El.mk 2 _ true [] (cT (cD k) i f).1=EX:=HEX.out;obtain⟨es,hes⟩:=nmm ((cT (cD k) i f).1);have hsl:=HSMI.out;rw[hes] at ho hELX hsl hel⊢;have HELX:Hid (El.mk 2 _ (El.cons (.mk 0 16 true [] es)) (El.bytes (.mk 0 16 true [] es)) (El.kids (.mk 0 16 true [] es))=EX):=hid hELX;have hsm:SmE (.mk 0 16 true [] es):=by simp only[SmE];exact⟨by simp,by omega,hsl⟩
     obtain⟨HSM,HRV⟩:=Cg hsm hfv;obtain⟨L6,hL6⟩:=nmm es.length;have kc:=cH es _ wr ho.kids hsl (by omega);rw[hL6] at kc⊢;have hz3:=(gl x3);have hz4:=b3.size;clear hELX hsm hsl hes ho hfv hsuf hL6;obtain⟨w5,hw5⟩:=nmm wr;rw[hw5] at t3 m3 x3 b3 kc hz3 hz4⊢;clear hw5
     go_wp2_with fail
     refine ag kc ?_;rintro e w8 ⟨⟨u8,rfl,hu8⟩,hb⟩;have m8:=bkk hb m3;have x8:=bkk hb x3;have b8:=btt b3 hb;have t8:=bkk hb t3;clear kc hb t3 m3 x3 b3;obtain⟨E0,hE0⟩:=nmm (elA (.mk 0 16 true [] es) u8);have hE0a:E0.all (·.oneCell')=true:=by
      obtain⟨a,c,hsl⟩:=hu8.shape;subst hsl;rw[←hE0];simp[elA,Value.oneCell']
     have hE0s:E0.size=5:=by rw[←hE0];rfl
     rw[hE0];obtain⟨HE0,HE0a,HE0s⟩:=Ch hE0 hE0a hE0s;clear hE0 hE0a hE0s;have m9:=(setRow_other w8 (w.heap.size+2) (w.heap.size+1) E0 (by omega)).trans m8;have t9:=(setRow_other w8 (w.heap.size+2) w.heap.size E0 (by omega)).trans t8;have x9:=setRow_heap w8 (w.heap.size+2) _ E0 _ _ x8;have b9:=xo b8 (g:=w.heap.size+2) (by omega) E0;have hk:bf (fun _=>True) (w8.setRow (w.heap.size+2) E0) u8 es:=hu8.kept fun g hg hl=>⟨setRow_other w8 (w.heap.size+2) g E0 (by omega),trivial⟩
     obtain⟨HK,X8⟩:=Cg hk x8;clear hk hu8 x8
     go_upto_region 21 with(refine stE (.tmp 5) (.tmp 42) E0 X8.out HE0s.out HE0a.out ?_)
     clear t8 m8 b8 X8;generalize w8.setRow (w.heap.size+2) E0=w9 at t9 m9 x9 b9 HK⊢;rw[←HE0.out] at x9;have q0:=(aq m9 0).trans (show _=some (Value.int .i64 p.op) from by rw[←HP.out];simp[Fl.row]);rw[HOP.out] at q0;obtain⟨E1,hE1⟩:=nmm (elA (.mk 0 16 true [] es) (u8));rw[hE1] at x9;have hE1s:E1.size=5:=by rw[←hE1];rfl
     have kc:=BY (.mk 0 16 true [] es) (u8) p.op w9 (HK.out.mono (fun _ _ _=>trivial)) HSM.out;rw[HOP.out] at kc;rw[hE1,HELX.out,show El.kids (.mk 0 16 true [] es)=EX.kids from by rw[←HELX.out];rfl] at kc;have HE1:=hid hE1s;clear hE1 hE1s
     go_wp2_with (refine ldE (.tmp 5) x9 HE1.out ?_)
     refine ag kc ?_;rintro e w50 ⟨⟨u5,rfl,hu5⟩,hb⟩;have t50:=bkk hb t9;have b50:=btt b9 hb;have hsz:=(gl t9);clear kc hb t9 b9 m9 x9 q0;obtain⟨E,hE⟩:=nmm (elA EX u5);have hEa:E.all (·.oneCell')=true:=by
      obtain⟨a,c,hsl⟩:=hu5.shape;subst hsl;rw[←hE];simp[elA,Value.oneCell']
     have hEs:E.size=5:=by rw[←hE];rfl
     rw[hE];have bF:=xo b50 (g:=w.heap.size) (ah _) E;have tF:=setRow_heap w50 w.heap.size _ E _ _ t50;have uF:bf (fun g=>w.heap.size≤g) (w50.setRow w.heap.size E) u5 EX.kids:=hu5.kept fun g hg hl=>⟨setRow_other w50 w.heap.size g E (by omega),by omega⟩
     obtain⟨HE,HEa,HEs⟩:=Ch hE hEa hEs;have Tryz.underlying141:=hid uF;clear hu5 hE hEa hEs uF b50
     go_wp2_with (refine stE (.tmp 2) (.tmp 60) E t50 HEs.out HEa.out ?_)
     refine aH (v:=.tuple #[.agg E,.slice a0 fi.length d0]) ?_ rfl (by rw[HPR.out];exact⟨⟨u5,_,by rw[HE.out],Tryz.underlying141.out,HRV.out⟩,bF⟩);have hr:=rlE tF HEs.out
     simp[results,Tryz.f80]
     show((Sem.run Tryz.prog (loadVar 40 ⟨w.heap.size,0,none⟩) (w50.setRow w.heap.size E)).andThen fun a w'=>Result.ok (Value.tuple #[a,.slice a0 fi.length d0]) w')=_;rw[hr]
     simp
theorem od{p:Fl}(h:bU p=true):(0≤p.n∧(p.op=0∨p.op=1∨p.op=2))∨p.n=0∧(p.op=7∨p.op=4∨p.op∉([0,1,2,4,7]:List Int)):=by
 by_cases hc:p.op=0∨p.op=1∨p.op=2
 ·left
  unfold bU at h;rw[if_pos hc] at h;simp only[aI,aT] at h;exact⟨h.1.2,hc⟩
 ·right
  refine⟨iQ h hc,?_⟩
  by_cases h7:p.op=7
  ·exact .inl h7
  by_cases h4:p.op=4
  ·exact .inr (.inl h4)
  simp only[not_or] at hc;exact .inr (.inr (by simp only[aY,aZ,or_false,not_or];exact⟨hc.1,hc.2.1,hc.2.2,h4,h7⟩))
theorem fS:∀(k:Nat) (f r:List Fl) (v:Value) (w0 w:World),Bw w0 w→de w0 v f→eP f→f.length≤100→bG k f=some r→Calls Tryz.prog 80 #[v] w (FiP w0 w (cD k f).1 r)
 |0,_,_,_,_,_,_,_,_,_,h=>by cases h
 |k+1,[],_,_,_,_,_,_,_,_,h=>by cases h
 |k+1,p::f,r,v,w0,w,h0,hv,hok,hl,h=>by
  simp only[aG] at hl;unfold bG at h
  by_cases hs:bU p=true
  ·rw[if_pos hs] at h
   unfold cD;rcases od hs with⟨hn,hc⟩|⟨hn,hc⟩
   ·rw[if_pos hc]
    rcases hc with hc|hc|hc
    ·have:=iU 0 (by decide) k (fS k) p f v w0 w h0 hv hok (by omega) r hn h hc
     simpa only[hc] using this
    ·have:=iU 1 (by decide) k (fS k) p f v w0 w h0 hv hok (by omega) r hn h hc
     simpa only[hc] using this
    ·have:=iU 2 (by decide) k (fS k) p f v w0 w h0 hv hok (by omega) r hn h hc
     simpa only[hc] using this
   ·have hnc:¬(p.op=0∨p.op=1∨p.op=2):=by
     rcases hc with hc|hc|hc
     ·rw[hc];decide
     ·rw[hc];decide
     ·intro h2;apply hc;rcases h2 with h2|h2|h2<;>rw[h2]<;>decide
    rw[if_neg hnc];have hr:f=r:=by rw[hn] at h;simpa[fg] using h
    subst hr;rcases hc with hc|hc|hc
    ·exact pM p f v w0 w h0 hv hok (by omega) hc
    ·exact pN p f v w0 w h0 hv hok (by omega) hc
    ·exact lZ p f v w0 w h0 hv hok (by omega) hc
  ·rw[if_neg hs] at h;cases h
def cY(dn:List UInt8)(scope deref size time:Nat)(types:Bool)(FE:El)(sel:List (List UInt8)):List El:=
 [.mk 0 4 false dn [],.mk 0 10 false (sgB scope) [],.mk 0 10 false (sgB deref) [],.mk 0 2 false (sgB size) [],.mk 0 2 false (sgB time) [],.mk 0 1 false (blB types) [],FE,.mk 0 16 true [] (sel.map cP)]
theorem xO(dn:List UInt8)(scope deref size time:Nat)(types:Bool)(FE:El)(sel:List (List UInt8))(hd:dn.length≤1000000000)(hF:SmE FE)(hs:∀s∈sel,s.length≤1000000000)(hl:sel.length≤1000000000):SmL (cY dn scope deref size time types FE sel):=by
 have h1:=(eg scope).2;have h2:=(eg deref).2;have h3:=(eg size).2;have h4:=(eg time).2;have h5:(blB types).length=1:=by cases types<;>rfl
 have h6:=gB sel hs;unfold cY;simp only[SmL,SmE,aU,List.length_map];exact⟨⟨hd,by omega,trivial⟩,⟨by omega,by omega,trivial⟩,⟨by omega,by omega,trivial⟩,⟨by omega,by omega,trivial⟩,⟨by omega,by omega,trivial⟩,⟨by omega,by omega,trivial⟩,hF,⟨by omega,hl,h6⟩,trivial⟩
theorem mX(b:Nat)(A:Array Value)(dn:List UInt8)(scope deref size time:Nat)(types:Bool)(vf vs:Value)(fl:List Fl)(sel:List (List UInt8))(w:World)(h0:Hc w b A 32)
  (h2:A[2]?=some (.string ⟨dn.toArray⟩)) (h6:A[6]?=some (.int .i64 (scope:Int))) (h7:A[7]?=some (.int .i64 (deref:Int))) (h8:A[8]?=some (.int .i64 (size:Int))) (h9:A[9]?=some (.int .i64 (time:Int))) (h10:A[10]?=some (.bool types)) (h11:A[11]?=some vf) (h12:A[12]?=some vs)
  (hd:dn.length≤1000000000) (n6:scope≤2147483647) (n7:deref≤2147483647) (n8:size≤2147483647) (n9:time≤2147483647)
  (hf:de w vf fl) (hok:eP fl) (hfl:fl.length≤100) (hwh:bG 20 fl=some []) (hs:ct w vs sel) (hsl:sel.length≤100000000) (hss:∀s∈sel,s.length≤1000000000):
  Calls Tryz.prog 79 #[.pointer (some ⟨b,0,none⟩)] w fun e w'=>(∃u,e=.returned (.agg (elA (.mk 0 16 true [] (cY dn scope deref size time types (cD 20 fl).1 sel)) u))∧bf (fun g=>w.heap.size≤g) w' u (cY dn scope deref size time types (cD 20 fl).1 sel))∧Bw w w':=by
 have b1:=alb w Ze 40;have t1:=alz w Ze 40;have m1:=bkk b1 h0;have hbl:=(gl h0);have hsmf:=jr 20 fl [] (fun p hp=>(hok.2 p hp).1) hfl hwh;have kf:=fS 20 fl [] vf w (w.alloc (.cells Ze 40)) b1 hf hok hfl hwh;obtain⟨FE,hFE⟩:=nmm ((cD 20 fl).1);rw[hFE] at hsmf kf⊢;unfold FiP at kf;obtain⟨HSM,HS,HSS,G2,G6,G7,G8,G9,G10,G11⟩:=Cz (xO dn scope deref size time types FE sel hd hsmf hss (by omega)) hs hss h2 h6 h7 h8 h9 h10 h11;have G12:=hid h12;obtain⟨af,cf,hvf⟩:=hf.shape;obtain⟨az,cz,hvs,-,-⟩:=hs;subst hvf hvs;obtain⟨NF,hNF⟩:=nmm fl.length;rw[hNF] at kf G11;clear h0 h2 h6 h7 h8 h9 h10 h11 h12 hf hok hwh hss hFE hsmf hNF hfl
 go_enter Tryz.func79,Tryz.ntmps79
 go_upto_region 1 with fail
 have hs1:(w.alloc (.cells Ze 40)).heap.size=w.heap.size+1:=by simp
 have HS1:=hid hs1;clear hs1;generalize w.alloc (.cells Ze 40)=w1 at b1 t1 m1 kf HS1⊢;have q11:=(aq m1 11).trans G11.out
 go_wp2_with fail
 refine ag kf ?_;rintro e w2 ⟨⟨uf,vf',rfl,hu2,-⟩,hb⟩;obtain⟨a2,c2,hsu⟩:=hu2.shape;subst hsu;have hu2:bf (fun g=>w.heap.size+1≤g) w2 _ _:=hu2.mono (fun g hg _=>by have:=HS1.out;omega);have t2:=bkk hb t1;have m2:=bkk hb m1;have b2:=btt b1 hb;have hz12:=hb.size;rw[HS1.out] at hz12;clear kf hb t1 m1 b1 q11 HS1;obtain⟨ec,et,ek,eb,eks⟩:=FE;simp only[elA,El.cls,El.tag,El.cons,El.bytes,El.kids] at hu2⊢;obtain⟨E,hE⟩:=nmm (#[.int .i64 ec,.int .i64 et,.bool ek,.string ⟨eb.toArray⟩,.slice a2 eks.length c2]:Array Value);have hEa:E.all (·.oneCell')=true:=by rw[←hE];simp[Value.oneCell']
 have hEs:E.size=5:=by rw[←hE];rfl
 rw[hE];obtain⟨HE,HEa,HEs⟩:=Ch hE hEa hEs;clear hE hEa hEs;have hb:=alb w2 E 40;have x3:=alz w2 Ze 40;obtain⟨Y,hY⟩:=nmm w2.heap.size;have hbz:=alb w2 Ze 40;have t3:=bkk hbz t2;have m3:=bkk hbz m2;have b3:=btt b2 hbz;have u3:bf (fun g=>w.heap.size+1≤g∧g<Y) (w2.alloc (.cells Ze 40)) (.slice a2 eks.length c2) eks:=hu2.kept fun g hg hl=>⟨hbz.block g hl,by omega,by rw[←hY];exact hl⟩
 have hbY:b<Y:=by have:=(gl m2);omega
 have hwY:w.heap.size<Y:=by omega
 rw[hY] at x3;have t4:=(setRow_other (w2.alloc (.cells Ze 40)) Y w.heap.size E (by omega)).trans t3;have m4:=(setRow_other (w2.alloc (.cells Ze 40)) Y b E (by omega)).trans m3;have x4:=setRow_heap (w2.alloc (.cells Ze 40)) Y _ E _ _ x3;have b4:=xo b3 (g:=Y) (by omega) E;have u4:bf (fun g=>w.heap.size+1≤g∧g<Y) ((w2.alloc (.cells Ze 40)).setRow Y E) (.slice a2 eks.length c2) eks:=u3.kept fun g hg hl=>⟨setRow_other _ Y g E (by omega),hg⟩
 obtain⟨X3,HY⟩:=Cg x3 hY;clear hb hbz t2 m2 b2 t3 m3 b3 x3 u3 hu2 hY
 go_upto_region 2 with(first|(refine stE (.tmp 2) (.tmp 8) E X3.out HEs.out HEa.out ?_)|(rw[HY.out];refine stE (.tmp 2) (.tmp 8) E X3.out HEs.out HEa.out ?_))
 try rw[HY.out]
 clear X3 HY;generalize(w2.alloc (.cells Ze 40)).setRow Y E=w4 at t4 m4 x4 b4 u4⊢;refine aR (S:=fun w'=>Hc w' b A 32∧Hc w' Y E 40) (by kernel_rfl) ?_;have T:Hc w4.drew b A 32∧Hc w4.drew Y E 40:=⟨m4,x4⟩;have D:Bw w w4.drew:=b4.drew;have R:Hc w4.drew w.heap.size Ze 40:=t4;have U:bf (fun g=>w.heap.size+1≤g∧g<Y) w4.drew (.slice a2 eks.length c2) eks:=u4.kept fun g hg hl=>⟨rfl,hg⟩
 change wpAnyH _ _ _ _ _ _ _ _ w4.drew
 clear m4 x4 b4 t4 u4;generalize w4.drew=w5 at T D R U⊢;refine tp 0 ⟨b,2,none⟩ rfl T ?_;refine tn 1 (.string ⟨dn.toArray⟩) rfl (fun w' hS=>by have q:=(aq hS.1 2).trans G2.out;go_simp) T ?_;refine tp 3 ⟨b,6,none⟩ rfl T ?_;refine tn 4 (.int .i64 (scope:Int)) rfl (fun w' hS=>by have q:=(aq hS.1 6).trans G6.out;go_simp) T ?_;refine tp 6 ⟨b,7,none⟩ rfl T ?_;refine tn 7 (.int .i64 (deref:Int)) rfl (fun w' hS=>by have q:=(aq hS.1 7).trans G7.out;go_simp) T ?_;refine tp 9 ⟨b,8,none⟩ rfl T ?_;refine tn 10 (.int .i64 (size:Int)) rfl (fun w' hS=>by have q:=(aq hS.1 8).trans G8.out;go_simp) T ?_;refine tp 12 ⟨b,9,none⟩ rfl T ?_;refine tn 13 (.int .i64 (time:Int)) rfl (fun w' hS=>by have q:=(aq hS.1 9).trans G9.out;go_simp) T ?_;refine tp 15 ⟨b,10,none⟩ rfl T ?_;refine tn 16 (.bool types) rfl (fun w' hS=>by have q:=(aq hS.1 10).trans G10.out;go_simp) T ?_;refine tn 18 (.agg E) rfl (fun w' hS=>by exact cU 40 (.tmp 2) rfl Y 40 _ (0,0) (by rfl) hS.2 _ Tryz.underlying40 rfl (by rw[HEs.out];rfl)) T ?_;refine tp 19 ⟨b,12,none⟩ rfl T ?_;refine tn 20 (.slice az sel.length cz) rfl (fun w' hS=>by have q:=(aq hS.1 12).trans G12.out;go_simp) T ?_;have kc:=bz dn w5;refine ao 2 rfl (fun K hK=>?_);go_simp;go_wp2_with fail
 refine ag kc ?_;rintro e w6 ⟨rfl,hb⟩;have T9:Hc w6 b A 32∧Hc w6 Y E 40:=⟨(hb.block _ (gl T.1)).trans T.1,(hb.block _ (gl T.2)).trans T.2⟩;have D9:=btt D hb;have R9:=bkk hb R;have U9:=U.below hb;clear kc hb T D R U;have T:=T9;have D:=D9;have R:=R9;have U:=U9;clear T9 D9 R9 U9;refine hK _ _ T ?_;clear hK K
 have kc:=eO 10 scope n6 w6;refine ao 5 rfl (fun K hK=>?_);go_simp;go_wp2_with fail
 refine ag kc ?_;rintro e w7 ⟨rfl,hb⟩;have T9:Hc w7 b A 32∧Hc w7 Y E 40:=⟨(hb.block _ (gl T.1)).trans T.1,(hb.block _ (gl T.2)).trans T.2⟩;have D9:=btt D hb;have R9:=bkk hb R;have U9:=U.below hb;clear kc hb T D R U;have T:=T9;have D:=D9;have R:=R9;have U:=U9;clear T9 D9 R9 U9;refine hK _ _ T ?_;clear hK K
 have kc:=eO 10 deref n7 w7;refine ao 8 rfl (fun K hK=>?_);go_simp;go_wp2_with fail
 refine ag kc ?_;rintro e w8 ⟨rfl,hb⟩;have T9:Hc w8 b A 32∧Hc w8 Y E 40:=⟨(hb.block _ (gl T.1)).trans T.1,(hb.block _ (gl T.2)).trans T.2⟩;have D9:=btt D hb;have R9:=bkk hb R;have U9:=U.below hb;clear kc hb T D R U;have T:=T9;have D:=D9;have R:=R9;have U:=U9;clear T9 D9 R9 U9;refine hK _ _ T ?_;clear hK K
 have kc:=eO 2 size n8 w8;refine ao 11 rfl (fun K hK=>?_);go_simp;go_wp2_with fail
 refine ag kc ?_;rintro e w9 ⟨rfl,hb⟩;have T9:Hc w9 b A 32∧Hc w9 Y E 40:=⟨(hb.block _ (gl T.1)).trans T.1,(hb.block _ (gl T.2)).trans T.2⟩;have D9:=btt D hb;have R9:=bkk hb R;have U9:=U.below hb;clear kc hb T D R U;have T:=T9;have D:=D9;have R:=R9;have U:=U9;clear T9 D9 R9 U9;refine hK _ _ T ?_;clear hK K
 have kc:=eO 2 time n9 w9;refine ao 14 rfl (fun K hK=>?_);go_simp;go_wp2_with fail
 refine ag kc ?_;rintro e w10 ⟨rfl,hb⟩;have T9:Hc w10 b A 32∧Hc w10 Y E 40:=⟨(hb.block _ (gl T.1)).trans T.1,(hb.block _ (gl T.2)).trans T.2⟩;have D9:=btt D hb;have R9:=bkk hb R;have U9:=U.below hb;clear kc hb T D R U;have T:=T9;have D:=D9;have R:=R9;have U:=U9;clear T9 D9 R9 U9;refine hK _ _ T ?_;clear hK K
 have kc:=iS 1 types w10;refine ao 17 rfl (fun K hK=>?_);go_simp;go_wp2_with fail
 refine ag kc ?_;rintro e w11 ⟨⟨ub,rfl,hub⟩,hb⟩;obtain⟨ab,cb,rfl⟩:=hub.empty;clear hub;have T9:Hc w11 b A 32∧Hc w11 Y E 40:=⟨(hb.block _ (gl T.1)).trans T.1,(hb.block _ (gl T.2)).trans T.2⟩;have D9:=btt D hb;have R9:=bkk hb R;have U9:=U.below hb;clear kc hb T D R U;have T:=T9;have D:=D9;have R:=R9;have U:=U9;clear T9 D9 R9 U9;refine hK _ _ T ?_;clear hK K
 have kc:=lN _ sel w11 (HS.out.below D) hsl;refine ao 21 rfl (fun K hK=>?_);go_simp;go_wp2_with fail
 refine ag kc ?_;rintro e w12 ⟨⟨vz,rfl,hz⟩,hb⟩;have T9:Hc w12 b A 32∧Hc w12 Y E 40:=⟨(hb.block _ (gl T.1)).trans T.1,(hb.block _ (gl T.2)).trans T.2⟩;have D9:=btt D hb;have R9:=bkk hb R;have U9:=U.below hb;clear kc hb T D R U;have T:=T9;have D:=D9;have R:=R9;have U:=U9;clear T9 D9 R9 U9;refine hK _ _ T ?_;clear hK K
 have kc:=cH (sel.map cP) vz w12 hz.kids (gB sel HSS.out) (by simp;omega);obtain⟨ay,cy,hvz⟩:=hz.shape;simp only[List.length_map] at hvz;subst hvz;clear hz;refine ao 22 rfl (fun K hK=>?_);go_simp;go_wp2_with fail
 refine ag kc ?_;rintro e w13 ⟨⟨u9,rfl,hu9⟩,hb⟩;obtain⟨a9,c9,hsu⟩:=hu9.shape;simp only[List.length_map] at hsu;subst hsu;have T9:Hc w13 b A 32∧Hc w13 Y E 40:=⟨(hb.block _ (gl T.1)).trans T.1,(hb.block _ (gl T.2)).trans T.2⟩;have D9:=btt D hb;have R9:=bkk hb R;have U9:=U.below hb;clear kc hb T D R U;have T:=T9;have D:=D9;have R:=R9;have U:=U9;clear T9 D9 R9 U9;refine hK _ _ T ?_;clear hK K
 rw[←HE.out];simp only[elA,El.cls,El.tag,El.cons,El.bytes];have hb:Bw w13 (w13.alloc (.cells (List.toArray (.int .i64 0::.int .i64 4::Bf::.string ⟨dn.toArray⟩::Sn::.int .i64 0::.int .i64 10::Bf::.string ⟨(sgB scope).toArray⟩::Sn::.int .i64 0::.int .i64 10::Bf::.string ⟨(sgB deref).toArray⟩::Sn::.int .i64 0::.int .i64 2::Bf::.string ⟨(sgB size).toArray⟩::Sn::.int .i64 0::.int .i64 2::Bf::.string ⟨(sgB time).toArray⟩::Sn::.int .i64 0::.int .i64 1::Bf::.string ⟨(blB types).toArray⟩::.slice ab 0 cb::.int .i64 ec::.int .i64 et::.bool ek::.string ⟨eb.toArray⟩::.slice a2 eks.length c2::.int .i64 0::.int .i64 16::.bool true::Es::.slice a9 sel.length c9::[])) 40)):=(aA _ _).alloc (ah _) _;have x:Hc (w13.alloc (.cells (List.toArray (.int .i64 0::.int .i64 4::Bf::.string ⟨dn.toArray⟩::Sn::.int .i64 0::.int .i64 10::Bf::.string ⟨(sgB scope).toArray⟩::Sn::.int .i64 0::.int .i64 10::Bf::.string ⟨(sgB deref).toArray⟩::Sn::.int .i64 0::.int .i64 2::Bf::.string ⟨(sgB size).toArray⟩::Sn::.int .i64 0::.int .i64 2::Bf::.string ⟨(sgB time).toArray⟩::Sn::.int .i64 0::.int .i64 1::Bf::.string ⟨(blB types).toArray⟩::.slice ab 0 cb::.int .i64 ec::.int .i64 et::.bool ek::.string ⟨eb.toArray⟩::.slice a2 eks.length c2::.int .i64 0::.int .i64 16::.bool true::Es::.slice a9 sel.length c9::[])) 40)) w13.heap.size (List.toArray (.int .i64 0::.int .i64 4::Bf::.string ⟨dn.toArray⟩::Sn::.int .i64 0::.int .i64 10::Bf::.string ⟨(sgB scope).toArray⟩::Sn::.int .i64 0::.int .i64 10::Bf::.string ⟨(sgB deref).toArray⟩::Sn::.int .i64 0::.int .i64 2::Bf::.string ⟨(sgB size).toArray⟩::Sn::.int .i64 0::.int .i64 2::Bf::.string ⟨(sgB time).toArray⟩::Sn::.int .i64 0::.int .i64 1::Bf::.string ⟨(blB types).toArray⟩::.slice ab 0 cb::.int .i64 ec::.int .i64 et::.bool ek::.string ⟨eb.toArray⟩::.slice a2 eks.length c2::.int .i64 0::.int .i64 16::.bool true::Es::.slice a9 sel.length c9::[])) 40:=fb _ _ _ rfl;have o7:bJ (w.heap.size+1) (w13.alloc (.cells (List.toArray (.int .i64 0::.int .i64 4::Bf::.string ⟨dn.toArray⟩::Sn::.int .i64 0::.int .i64 10::Bf::.string ⟨(sgB scope).toArray⟩::Sn::.int .i64 0::.int .i64 10::Bf::.string ⟨(sgB deref).toArray⟩::Sn::.int .i64 0::.int .i64 2::Bf::.string ⟨(sgB size).toArray⟩::Sn::.int .i64 0::.int .i64 2::Bf::.string ⟨(sgB time).toArray⟩::Sn::.int .i64 0::.int .i64 1::Bf::.string ⟨(blB types).toArray⟩::.slice ab 0 cb::.int .i64 ec::.int .i64 et::.bool ek::.string ⟨eb.toArray⟩::.slice a2 eks.length c2::.int .i64 0::.int .i64 16::.bool true::Es::.slice a9 sel.length c9::[])) 40)) (.slice (some ⟨w13.heap.size,0,none⟩) 8 8) (cY dn scope deref size time types (.mk ec et ek eb eks) sel):=
  bJ.flat (l:=cY dn scope deref size time types (.mk ec et ek eb eks) sel) (us:=[Sn,Sn,Sn,Sn,Sn,.slice ab 0 cb,.slice a2 eks.length c2,.slice a9 sel.length c9]) x (by simp[cx,cY,El.cls,El.tag,El.cons,El.bytes]) rfl (by have:=(gl R);omega) (by simp[cY]) (fun j e u q1 q2=>by
   have h3:j=0∨j=1∨j=2∨j=3∨j=4∨j=5∨j=6∨j=7:=by have h9:=(List.getElem?_eq_some_iff.1 q1).1;simp[cY] at h9;omega
   unfold cY at q1;rcases h3 with rfl|rfl|rfl|rfl|rfl|rfl|rfl|rfl
   ·simp at q1 q2;subst q1;subst q2;exact bf.no _ _ _ _
   ·simp at q1 q2;subst q1;subst q2;exact bf.no _ _ _ _
   ·simp at q1 q2;subst q1;subst q2;exact bf.no _ _ _ _
   ·simp at q1 q2;subst q1;subst q2;exact bf.no _ _ _ _
   ·simp at q1 q2;subst q1;subst q2;exact bf.no _ _ _ _
   ·simp at q1 q2;subst q1;subst q2;exact bf.no _ _ _ _
   ·simp at q1 q2;subst q1;subst q2;exact U.kept fun g hg hl=>⟨hb.block g hl,fun h=>by cases h;omega⟩
   ·simp at q1 q2;subst q1;subst q2;exact hu9.kept fun g hg hl=>⟨hb.block g hl,fun h=>by cases h;omega⟩)
 have T9:Hc (w13.alloc (.cells (List.toArray (.int .i64 0::.int .i64 4::Bf::.string ⟨dn.toArray⟩::Sn::.int .i64 0::.int .i64 10::Bf::.string ⟨(sgB scope).toArray⟩::Sn::.int .i64 0::.int .i64 10::Bf::.string ⟨(sgB deref).toArray⟩::Sn::.int .i64 0::.int .i64 2::Bf::.string ⟨(sgB size).toArray⟩::Sn::.int .i64 0::.int .i64 2::Bf::.string ⟨(sgB time).toArray⟩::Sn::.int .i64 0::.int .i64 1::Bf::.string ⟨(blB types).toArray⟩::.slice ab 0 cb::.int .i64 ec::.int .i64 et::.bool ek::.string ⟨eb.toArray⟩::.slice a2 eks.length c2::.int .i64 0::.int .i64 16::.bool true::Es::.slice a9 sel.length c9::[])) 40)) b A 32∧Hc (w13.alloc (.cells (List.toArray (.int .i64 0::.int .i64 4::Bf::.string ⟨dn.toArray⟩::Sn::.int .i64 0::.int .i64 10::Bf::.string ⟨(sgB scope).toArray⟩::Sn::.int .i64 0::.int .i64 10::Bf::.string ⟨(sgB deref).toArray⟩::Sn::.int .i64 0::.int .i64 2::Bf::.string ⟨(sgB size).toArray⟩::Sn::.int .i64 0::.int .i64 2::Bf::.string ⟨(sgB time).toArray⟩::Sn::.int .i64 0::.int .i64 1::Bf::.string ⟨(blB types).toArray⟩::.slice ab 0 cb::.int .i64 ec::.int .i64 et::.bool ek::.string ⟨eb.toArray⟩::.slice a2 eks.length c2::.int .i64 0::.int .i64 16::.bool true::Es::.slice a9 sel.length c9::[])) 40)) Y E 40:=⟨(hb.block _ (gl T.1)).trans T.1,(hb.block _ (gl T.2)).trans T.2⟩;have D9:=btt D hb;have R9:=bkk hb R;clear hb x T D R U hu9;have O7:=hid o7;clear o7;refine ao 23 rfl (kks (by rw[HE.out];exact T9) ?_);generalize w13.alloc (.cells (List.toArray (.int .i64 0::.int .i64 4::Bf::.string ⟨dn.toArray⟩::Sn::.int .i64 0::.int .i64 10::Bf::.string ⟨(sgB scope).toArray⟩::Sn::.int .i64 0::.int .i64 10::Bf::.string ⟨(sgB deref).toArray⟩::Sn::.int .i64 0::.int .i64 2::Bf::.string ⟨(sgB size).toArray⟩::Sn::.int .i64 0::.int .i64 2::Bf::.string ⟨(sgB time).toArray⟩::Sn::.int .i64 0::.int .i64 1::Bf::.string ⟨(blB types).toArray⟩::.slice ab 0 cb::.int .i64 ec::.int .i64 et::.bool ek::.string ⟨eb.toArray⟩::.slice a2 eks.length c2::.int .i64 0::.int .i64 16::.bool true::Es::.slice a9 sel.length c9::[])) 40)=w14 at T9 D9 R9 O7⊢;generalize w13.heap.size=y at O7⊢;obtain⟨KS,hKS⟩:=nmm (cY dn scope deref size time types (.mk ec et ek eb eks) sel);have hK8:KS.length=8:=by rw[←hKS];rfl
 rw[hKS] at O7 HSM;have HKS:=hid hKS;have kc:=cH KS _ w14 O7.out.kids HSM.out (by omega);clear O7 hKS hK8;refine ao 24 rfl (fun K hK=>?_);go_simp;go_wp2_with fail
 refine ag kc ?_;rintro e w15 ⟨⟨u,rfl,hu⟩,hb⟩;have m20:=(hb.block _ (gl T9.1)).trans T9.1;have x20:=(hb.block _ (gl T9.2)).trans T9.2;have b20:=btt D9 hb;have t20:=bkk hb R9;have hz5:=(gl R9);clear kc hb T9 D9 R9;refine hK _ _ (by rw[HE.out];exact⟨m20,x20⟩) ?_;clear hK K
 obtain⟨E2,hE⟩:=nmm (elA (.mk 0 16 true [] KS) u);have hE1:E2.all (·.oneCell')=true:=by
  obtain⟨a,c,hsl⟩:=hu.shape;subst hsl;rw[←hE];simp[elA,Value.oneCell']
 have hE2:E2.size=5:=by rw[←hE];rfl
 rw[hE];obtain⟨HE9,HE91,HE92⟩:=Ch hE hE1 hE2;clear hE hE1 hE2;have TF:Hc (w15.setRow w.heap.size E2) b A 32∧Hc (w15.setRow w.heap.size E2) Y E 40:=⟨(setRow_other w15 w.heap.size b E2 (by omega)).trans m20,(setRow_other w15 w.heap.size Y E2 (by omega)).trans x20⟩;have bF:=xo b20 (g:=w.heap.size) (ah _) E2;have tF:=setRow_heap w15 w.heap.size _ E2 _ _ t20;have uF:bf (fun g=>w.heap.size≤g) (w15.setRow w.heap.size E2) u KS:=hu.kept fun g hg hl=>⟨setRow_other w15 w.heap.size g E2 (by omega),by omega⟩
 refine ao 25 rfl (fun K hK=>?_);refine xx 40 (.tmp 1) (.tmp 34) rfl w.heap.size 40 _ E2 (by rfl) (by rfl) t20 (by rw[HE92.out];rfl) (by rw[HE92.out];rfl) HE91.out ?_;refine hK _ _ (by rw[HE.out];exact TF) ?_;clear hK K
 refine xk (by kernel_rfl) ?_ _
 try simp only[Exit.then]
 refine‹∀(a:Act) (w:World),Code.wp _ _ _ a w→_› _ _ ?_;clear m20 x20 t20 b20 TF hu;generalize w15.setRow w.heap.size E2=wF at bF tF uF⊢;have UF:=hid uF;clear uF
 go_wp2_with fail
 refine aH (v:=.agg E2) ?_ rfl ⟨⟨u,by rw[HKS.out,HE9.out],by rw[HKS.out];exact UF.out⟩,bF⟩;have hr:=rlE tF HE92.out
 simp[results,Tryz.f79]
 exact hr
theorem pR(A:Array Value)(n:Nat)(mt tx:List UInt8)(w:World)(h24:A[24]?=some (.int .i64 (n:Int)))(h25:A[25]?=some (.string ⟨mt.toArray⟩))(h26:A[26]?=some (.string ⟨tx.toArray⟩))(h21:A[21]?=some (.string ⟨#[]⟩))(h22:A[22]?=some (.bool false))(hn:n≤2147483647):
  Calls Tryz.prog 88 #[.agg A] w fun e w'=>(∃v,e=.returned v∧bJ w.heap.size w' v [.mk 0 10 false (sgB n) [],.mk 0 4 false mt [],.mk 0 4 false tx []])∧Bw w w':=by
 have b1:=alb w A 32;have m1:=alz w A 32;obtain⟨G24,G25,G26,G21,G22⟩:=Cj h24 h25 h26 h21 h22;clear h24 h25 h26 h21 h22
 go_enter Tryz.func88,Tryz.ntmps88
 go_upto_region 1 with fail
 generalize w.alloc (.cells A 32)=w1 at b1 m1⊢;refine aR (S:=fun w'=>Hc w' w.heap.size A 32) (by kernel_rfl) ?_;have T:Hc w1.drew w.heap.size A 32:=m1;have D:Bw w w1.drew:=b1.drew
 change wpAnyH _ _ _ _ _ _ _ _ w1.drew
 clear m1 b1;generalize w1.drew=w2 at T D⊢;refine tp 0 ⟨w.heap.size,24,none⟩ rfl T ?_;refine tn 1 (.int .i64 (n:Int)) rfl (fun w' hS=>by have q:=(aq hS 24).trans G24.out;go_simp) T ?_;refine tp 3 ⟨w.heap.size,25,none⟩ rfl T ?_;refine tn 4 (.string ⟨mt.toArray⟩) rfl (fun w' hS=>by have q:=(aq hS 25).trans G25.out;go_simp) T ?_;refine tp 6 ⟨w.heap.size,26,none⟩ rfl T ?_;refine tn 7 (.string ⟨tx.toArray⟩) rfl (fun w' hS=>by have q:=(aq hS 26).trans G26.out;go_simp) T ?_;have kc:=eO 10 n hn w2;refine ao 2 rfl (fun K hK=>?_);go_simp;go_wp2_with fail
 refine ag kc ?_;rintro e w3 ⟨rfl,hb⟩;have T9:=bkk hb T;have D9:=btt D hb;clear kc hb T D;have T:=T9;have D:=D9;clear T9 D9;refine hK _ _ T ?_;clear hK K
 have kc:=bz mt w3;refine ao 5 rfl (fun K hK=>?_);go_simp;go_wp2_with fail
 refine ag kc ?_;rintro e w4 ⟨rfl,hb⟩;have T9:=bkk hb T;have D9:=btt D hb;clear kc hb T D;have T:=T9;have D:=D9;clear T9 D9;refine hK _ _ T ?_;clear hK K
 have kc:=bz tx w4;refine ao 8 rfl (fun K hK=>?_);go_simp;go_wp2_with fail
 refine ag kc ?_;rintro e w5 ⟨rfl,hb⟩;have T9:=bkk hb T;have D9:=btt D hb;clear kc hb T D;have T:=T9;have D:=D9;clear T9 D9;refine hK _ _ T ?_;clear hK K
 simp only[elA,El.cls,El.tag,El.cons,El.bytes];have hb:=alb w5 #[I0,.int .i64 10,Bf,.string ⟨((sgB n)).toArray⟩,Sn,I0,.int .i64 4,Bf,.string ⟨mt.toArray⟩,Sn,I0,.int .i64 4,Bf,.string ⟨tx.toArray⟩,Sn] 40;have x:=alz w5 #[I0,.int .i64 10,Bf,.string ⟨((sgB n)).toArray⟩,Sn,I0,.int .i64 4,Bf,.string ⟨mt.toArray⟩,Sn,I0,.int .i64 4,Bf,.string ⟨tx.toArray⟩,Sn] 40;have z:w.heap.size+1≤w5.heap.size:=(gl T);have o6:bJ (w.heap.size+1) (w5.alloc (.cells #[I0,.int .i64 10,Bf,.string ⟨((sgB n)).toArray⟩,Sn,I0,.int .i64 4,Bf,.string ⟨mt.toArray⟩,Sn,I0,.int .i64 4,Bf,.string ⟨tx.toArray⟩,Sn] 40)) (.slice (some ⟨w5.heap.size,0,none⟩) 3 3) [.mk 0 10 false (sgB n) [],.mk 0 4 false mt [],.mk 0 4 false tx []]:=
  bJ.flat (l:=[.mk 0 10 false (sgB n) [],.mk 0 4 false mt [],.mk 0 4 false tx []]) (us:=[Sn,Sn,Sn]) x (by simp[cx,El.cls,El.tag,El.cons,El.bytes]) rfl z (by simp) (fun j e u q1 q2=>by
   have h3:j=0∨j=1∨j=2:=by have h9:=(List.getElem?_eq_some_iff.1 q1).1;simp at h9;omega
   rcases h3 with rfl|rfl|rfl
   all_goals (simp at q1 q2;subst q1;subst q2;exact bf.no _ _ _ _))
 have T9:=bkk hb T;have D9:=btt D hb;clear hb x z T D;refine ao 9 rfl (kks T9 ?_);generalize(w5.alloc (.cells #[I0,.int .i64 10,Bf,.string ⟨((sgB n)).toArray⟩,Sn,I0,.int .i64 4,Bf,.string ⟨mt.toArray⟩,Sn,I0,.int .i64 4,Bf,.string ⟨tx.toArray⟩,Sn] 40))=w6 at T9 D9 o6⊢;generalize w5.heap.size=y at o6⊢;refine ao 10 rfl (kks T9 ?_);refine xk (by kernel_rfl) ?_ _;simp only[Exit.then];refine‹∀(a:Act) (w:World),Code.wp _ _ _ a w→_› _ _ ?_;have m6:=T9;have b6:=D9;clear T9 D9;have q21:=(aq m6 21).trans G21.out
 go_upto_region 4 with fail
 clear q21;have q22:=(aq m6 22).trans G22.out;have O:=hid o6;clear o6
 go_wp2_with fail
 go_ret
 exact⟨⟨_,rfl,O.out.mono (by omega)⟩,b6⟩
theorem pS(A:Array Value)(n:Nat)(mt tx val:List UInt8)(w:World)(h24:A[24]?=some (.int .i64 (n:Int)))(h25:A[25]?=some (.string ⟨mt.toArray⟩))(h26:A[26]?=some (.string ⟨tx.toArray⟩))(h21:A[21]?=some (.string ⟨#[]⟩))(h22:A[22]?=some (.bool true))(h20:A[20]?=some (.string ⟨val.toArray⟩))(hn:n≤2147483647)(hval:val.length≤1000000000):
  Calls Tryz.prog 88 #[.agg A] w fun e w'=>(∃v,e=.returned v∧bJ w.heap.size w' v [.mk 0 10 false (sgB n) [],.mk 0 4 false mt [],.mk 0 4 false tx [],.mk 2 11 false val []])∧Bw w w':=by
 have b1:=alb w A 32;have m1:=alz w A 32;obtain⟨G24,G25,G26,G21,G22,G20⟩:=Cy h24 h25 h26 h21 h22 h20;clear h24 h25 h26 h21 h22 h20
 go_enter Tryz.func88,Tryz.ntmps88
 go_upto_region 1 with fail
 generalize w.alloc (.cells A 32)=w1 at b1 m1⊢;refine aR (S:=fun w'=>Hc w' w.heap.size A 32) (by kernel_rfl) ?_;have T:Hc w1.drew w.heap.size A 32:=m1;have D:Bw w w1.drew:=b1.drew
 change wpAnyH _ _ _ _ _ _ _ _ w1.drew
 clear m1 b1;generalize w1.drew=w2 at T D⊢;refine tp 0 ⟨w.heap.size,24,none⟩ rfl T ?_;refine tn 1 (.int .i64 (n:Int)) rfl (fun w' hS=>by have q:=(aq hS 24).trans G24.out;go_simp) T ?_;refine tp 3 ⟨w.heap.size,25,none⟩ rfl T ?_;refine tn 4 (.string ⟨mt.toArray⟩) rfl (fun w' hS=>by have q:=(aq hS 25).trans G25.out;go_simp) T ?_;refine tp 6 ⟨w.heap.size,26,none⟩ rfl T ?_;refine tn 7 (.string ⟨tx.toArray⟩) rfl (fun w' hS=>by have q:=(aq hS 26).trans G26.out;go_simp) T ?_;have kc:=eO 10 n hn w2;refine ao 2 rfl (fun K hK=>?_);go_simp;go_wp2_with fail
 refine ag kc ?_;rintro e w3 ⟨rfl,hb⟩;have T9:=bkk hb T;have D9:=btt D hb;clear kc hb T D;have T:=T9;have D:=D9;clear T9 D9;refine hK _ _ T ?_;clear hK K
 have kc:=bz mt w3;refine ao 5 rfl (fun K hK=>?_);go_simp;go_wp2_with fail
 refine ag kc ?_;rintro e w4 ⟨rfl,hb⟩;have T9:=bkk hb T;have D9:=btt D hb;clear kc hb T D;have T:=T9;have D:=D9;clear T9 D9;refine hK _ _ T ?_;clear hK K
 have kc:=bz tx w4;refine ao 8 rfl (fun K hK=>?_);go_simp;go_wp2_with fail
 refine ag kc ?_;rintro e w5 ⟨rfl,hb⟩;have T9:=bkk hb T;have D9:=btt D hb;clear kc hb T D;have T:=T9;have D:=D9;clear T9 D9;refine hK _ _ T ?_;clear hK K
 simp only[elA,El.cls,El.tag,El.cons,El.bytes];have hb:=alb w5 #[.int .i64 0,.int .i64 10,.bool false,.string ⟨((sgB n)).toArray⟩,.slice none 0 0,.int .i64 0,.int .i64 4,.bool false,.string ⟨mt.toArray⟩,.slice none 0 0,.int .i64 0,.int .i64 4,.bool false,.string ⟨tx.toArray⟩,.slice none 0 0] 40;have x:=alz w5 #[.int .i64 0,.int .i64 10,.bool false,.string ⟨((sgB n)).toArray⟩,.slice none 0 0,.int .i64 0,.int .i64 4,.bool false,.string ⟨mt.toArray⟩,.slice none 0 0,.int .i64 0,.int .i64 4,.bool false,.string ⟨tx.toArray⟩,.slice none 0 0] 40;have z:w.heap.size+1≤w5.heap.size:=(gl T);have o6:bJ (w.heap.size+1) (w5.alloc (.cells #[.int .i64 0,.int .i64 10,.bool false,.string ⟨((sgB n)).toArray⟩,.slice none 0 0,.int .i64 0,.int .i64 4,.bool false,.string ⟨mt.toArray⟩,.slice none 0 0,.int .i64 0,.int .i64 4,.bool false,.string ⟨tx.toArray⟩,.slice none 0 0] 40)) (.slice (some ⟨w5.heap.size,0,none⟩) 3 3) [.mk 0 10 false (sgB n) [],.mk 0 4 false mt [],.mk 0 4 false tx []]:=
  bJ.flat (l:=[.mk 0 10 false (sgB n) [],.mk 0 4 false mt [],.mk 0 4 false tx []]) (us:=[.slice none 0 0,.slice none 0 0,.slice none 0 0]) x (by simp[cx,El.cls,El.tag,El.cons,El.bytes]) rfl z (by simp) (fun j e u q1 q2=>by
   have h3:j=0∨j=1∨j=2:=by have h9:=(List.getElem?_eq_some_iff.1 q1).1;simp at h9;omega
   rcases h3 with rfl|rfl|rfl
   all_goals (simp at q1 q2;subst q1;subst q2;exact bf.no _ _ _ _))
 have T9:=bkk hb T;have D9:=btt D hb;clear hb x z T D;refine ao 9 rfl (kks T9 ?_);generalize(w5.alloc (.cells #[.int .i64 0,.int .i64 10,.bool false,.string ⟨((sgB n)).toArray⟩,.slice none 0 0,.int .i64 0,.int .i64 4,.bool false,.string ⟨mt.toArray⟩,.slice none 0 0,.int .i64 0,.int .i64 4,.bool false,.string ⟨tx.toArray⟩,.slice none 0 0] 40))=w6 at T9 D9 o6⊢;generalize w5.heap.size=y at o6⊢;refine ao 10 rfl (kks T9 ?_);refine xk (by kernel_rfl) ?_ _;simp only[Exit.then];refine‹∀(a:Act) (w:World),Code.wp _ _ _ a w→_› _ _ ?_;have m6:=T9;have b6:=D9;clear T9 D9;have q21:=(aq m6 21).trans G21.out
 go_upto_region 4 with fail
 clear q21;have q22:=(aq m6 22).trans G22.out
 go_upto_region 5 with fail
 clear q22;have q:=(aq m6 20).trans G20.out;have kc:=bz val w6
 go_wp2_with fail
 refine ag kc ?_;rintro e w7 ⟨rfl,hb⟩;have m7:=bkk hb m6;have b7:=btt b6 hb;have o7:=o6.below hb;clear hb m6 b6 o6 kc q;have kc:=BY (.mk 0 4 false val []) (.slice none 0 0) 11 w7 (bf.nil _ _) (by simp[SmE,SmL];exact hval)
 go_wp2_with fail
 refine ag kc ?_;rintro e w8 ⟨⟨u,rfl,hu⟩,hb⟩;obtain⟨ae8,ce8,rfl⟩:=hu.empty;have m8:=bkk hb m7;have b8:=btt b7 hb;have o8:=o7.below hb;clear hb m7 b7 o7 kc hu;simp only[elA,El.cls,El.tag,El.cons,El.bytes];have hb:=alb w8 #[.int .i64 2,.int .i64 11,.bool false,.string ⟨val.toArray⟩,.slice ae8 0 ce8] 40;have x:Hc (w8.alloc (.cells #[.int .i64 2,.int .i64 11,.bool false,.string ⟨val.toArray⟩,.slice ae8 0 ce8] 40)) w8.heap.size (elA (.mk 2 11 false val []) (.slice ae8 0 ce8)) 40:=fb _ _ _ rfl;have m9:=bkk hb m8;have b9:=btt b8 hb;have o9:=o8.below hb;clear hb m8 b8 o8;have hs:=b9.size;have z:=(gl m9);have zm:=(gl m9);obtain⟨M9,B9,O9,X⟩:=Ci m9 b9 o9 x;clear x m9 b9 o9
 go_wp2_with (at_builtin;refine bO rfl (.tmp 26) (.tmp 31) rfl (w.heap.size+1) (.slice (some ⟨y,0,none⟩) 3 3) [.mk 0 10 false (sgB n) [],.mk 0 4 false mt [],.mk 0 4 false tx []] rfl O9.out (.mk 2 11 false val []) ae8 0 ce8 w8.heap.size rfl X.out (bf.no _ _ _ _) (by simp) (by omega) ?_;intro a10 c10 w10 o10 hg;have m10:=(hg.block w.heap.size zm (fun h=>by have:=(O9.out.lt h.symm).1;omega)).trans M9.out;have b10:=B9.out.grown hg hs (fun b hb=>by have:=(O9.out.lt hb).1;omega);clear hg hs z zm X M9 B9 O9;simp only[List.cons_append,List.nil_append,aG,aU,Nat.zero_add,Nat.reduceAdd] at o10⊢)
 have O:=hid o10;clear o10
 go_wp2_with fail
 go_ret
 exact⟨⟨_,rfl,O.out.mono (by omega)⟩,b10⟩
theorem pT(A:Array Value)(n:Nat)(mt tx oid:List UInt8)(w:World)(h24:A[24]?=some (.int .i64 (n:Int)))(h25:A[25]?=some (.string ⟨mt.toArray⟩))(h26:A[26]?=some (.string ⟨tx.toArray⟩))(h21:A[21]?=some (.string ⟨oid.toArray⟩))(h22:A[22]?=some (.bool false))(hn:n≤2147483647)(hne:oid≠[])(hoid:oid.length≤1000000000):
  Calls Tryz.prog 88 #[.agg A] w fun e w'=>(∃v,e=.returned v∧bJ w.heap.size w' v [.mk 0 10 false (sgB n) [],.mk 0 4 false mt [],.mk 0 4 false tx [],.mk 2 10 false oid []])∧Bw w w':=by
 have b1:=alb w A 32;have m1:=alz w A 32;have i1:oid.isEmpty=false:=by simpa using hne
 clear hne;obtain⟨G24,G25,G26,G21,G22⟩:=Cj h24 h25 h26 h21 h22;clear h24 h25 h26 h21 h22
 go_enter Tryz.func88,Tryz.ntmps88
 go_upto_region 1 with fail
 generalize w.alloc (.cells A 32)=w1 at b1 m1⊢;refine aR (S:=fun w'=>Hc w' w.heap.size A 32) (by kernel_rfl) ?_;have T:Hc w1.drew w.heap.size A 32:=m1;have D:Bw w w1.drew:=b1.drew
 change wpAnyH _ _ _ _ _ _ _ _ w1.drew
 clear m1 b1;generalize w1.drew=w2 at T D⊢;refine tp 0 ⟨w.heap.size,24,none⟩ rfl T ?_;refine tn 1 (.int .i64 (n:Int)) rfl (fun w' hS=>by have q:=(aq hS 24).trans G24.out;go_simp) T ?_;refine tp 3 ⟨w.heap.size,25,none⟩ rfl T ?_;refine tn 4 (.string ⟨mt.toArray⟩) rfl (fun w' hS=>by have q:=(aq hS 25).trans G25.out;go_simp) T ?_;refine tp 6 ⟨w.heap.size,26,none⟩ rfl T ?_;refine tn 7 (.string ⟨tx.toArray⟩) rfl (fun w' hS=>by have q:=(aq hS 26).trans G26.out;go_simp) T ?_;have kc:=eO 10 n hn w2;refine ao 2 rfl (fun K hK=>?_);go_simp;go_wp2_with fail
 refine ag kc ?_;rintro e w3 ⟨rfl,hb⟩;have T9:=bkk hb T;have D9:=btt D hb;clear kc hb T D;have T:=T9;have D:=D9;clear T9 D9;refine hK _ _ T ?_;clear hK K
 have kc:=bz mt w3;refine ao 5 rfl (fun K hK=>?_);go_simp;go_wp2_with fail
 refine ag kc ?_;rintro e w4 ⟨rfl,hb⟩;have T9:=bkk hb T;have D9:=btt D hb;clear kc hb T D;have T:=T9;have D:=D9;clear T9 D9;refine hK _ _ T ?_;clear hK K
 have kc:=bz tx w4;refine ao 8 rfl (fun K hK=>?_);go_simp;go_wp2_with fail
 refine ag kc ?_;rintro e w5 ⟨rfl,hb⟩;have T9:=bkk hb T;have D9:=btt D hb;clear kc hb T D;have T:=T9;have D:=D9;clear T9 D9;refine hK _ _ T ?_;clear hK K
 simp only[elA,El.cls,El.tag,El.cons,El.bytes];have hb:=alb w5 #[.int .i64 0,.int .i64 10,.bool false,.string ⟨((sgB n)).toArray⟩,.slice none 0 0,.int .i64 0,.int .i64 4,.bool false,.string ⟨mt.toArray⟩,.slice none 0 0,.int .i64 0,.int .i64 4,.bool false,.string ⟨tx.toArray⟩,.slice none 0 0] 40;have x:=alz w5 #[.int .i64 0,.int .i64 10,.bool false,.string ⟨((sgB n)).toArray⟩,.slice none 0 0,.int .i64 0,.int .i64 4,.bool false,.string ⟨mt.toArray⟩,.slice none 0 0,.int .i64 0,.int .i64 4,.bool false,.string ⟨tx.toArray⟩,.slice none 0 0] 40;have z:w.heap.size+1≤w5.heap.size:=(gl T);have o6:bJ (w.heap.size+1) (w5.alloc (.cells #[.int .i64 0,.int .i64 10,.bool false,.string ⟨((sgB n)).toArray⟩,.slice none 0 0,.int .i64 0,.int .i64 4,.bool false,.string ⟨mt.toArray⟩,.slice none 0 0,.int .i64 0,.int .i64 4,.bool false,.string ⟨tx.toArray⟩,.slice none 0 0] 40)) (.slice (some ⟨w5.heap.size,0,none⟩) 3 3) [.mk 0 10 false (sgB n) [],.mk 0 4 false mt [],.mk 0 4 false tx []]:=
  bJ.flat (l:=[.mk 0 10 false (sgB n) [],.mk 0 4 false mt [],.mk 0 4 false tx []]) (us:=[.slice none 0 0,.slice none 0 0,.slice none 0 0]) x (by simp[cx,El.cls,El.tag,El.cons,El.bytes]) rfl z (by simp) (fun j e u q1 q2=>by
   have h3:j=0∨j=1∨j=2:=by have h9:=(List.getElem?_eq_some_iff.1 q1).1;simp at h9;omega
   rcases h3 with rfl|rfl|rfl
   all_goals (simp at q1 q2;subst q1;subst q2;exact bf.no _ _ _ _))
 have T9:=bkk hb T;have D9:=btt D hb;clear hb x z T D;refine ao 9 rfl (kks T9 ?_);generalize(w5.alloc (.cells #[.int .i64 0,.int .i64 10,.bool false,.string ⟨((sgB n)).toArray⟩,.slice none 0 0,.int .i64 0,.int .i64 4,.bool false,.string ⟨mt.toArray⟩,.slice none 0 0,.int .i64 0,.int .i64 4,.bool false,.string ⟨tx.toArray⟩,.slice none 0 0] 40))=w6 at T9 D9 o6⊢;generalize w5.heap.size=y at o6⊢;refine ao 10 rfl (kks T9 ?_);refine xk (by kernel_rfl) ?_ _;simp only[Exit.then];refine‹∀(a:Act) (w:World),Code.wp _ _ _ a w→_› _ _ ?_;have m6:=T9;have b6:=D9;clear T9 D9;have q21:=(aq m6 21).trans G21.out
 go_upto_region 3 with fail
 clear q21;have q:=(aq m6 21).trans G21.out;have kc:=bz oid w6
 go_wp2_with fail
 refine ag kc ?_;rintro e w7 ⟨rfl,hb⟩;have m7:=bkk hb m6;have b7:=btt b6 hb;have o7:=o6.below hb;clear hb m6 b6 o6 kc q;have kc:=BY (.mk 0 4 false oid []) (.slice none 0 0) 10 w7 (bf.nil _ _) (by simp[SmE,SmL];exact hoid)
 go_wp2_with fail
 refine ag kc ?_;rintro e w8 ⟨⟨u,rfl,hu⟩,hb⟩;obtain⟨ae8,ce8,rfl⟩:=hu.empty;have m8:=bkk hb m7;have b8:=btt b7 hb;have o8:=o7.below hb;clear hb m7 b7 o7 kc hu;simp only[elA,El.cls,El.tag,El.cons,El.bytes];have hb:=alb w8 #[.int .i64 2,.int .i64 10,.bool false,.string ⟨oid.toArray⟩,.slice ae8 0 ce8] 40;have x:Hc (w8.alloc (.cells #[.int .i64 2,.int .i64 10,.bool false,.string ⟨oid.toArray⟩,.slice ae8 0 ce8] 40)) w8.heap.size (elA (.mk 2 10 false oid []) (.slice ae8 0 ce8)) 40:=fb _ _ _ rfl;have m9:=bkk hb m8;have b9:=btt b8 hb;have o9:=o8.below hb;clear hb m8 b8 o8;have hs:=b9.size;have z:=(gl m9);have zm:=(gl m9);obtain⟨M9,B9,O9,X⟩:=Ci m9 b9 o9 x;clear x m9 b9 o9
 go_upto_region 4 with(at_builtin;refine bO rfl (.tmp 17) (.tmp 22) rfl (w.heap.size+1) (.slice (some ⟨y,0,none⟩) 3 3) [.mk 0 10 false (sgB n) [],.mk 0 4 false mt [],.mk 0 4 false tx []] rfl O9.out (.mk 2 10 false oid []) ae8 0 ce8 w8.heap.size rfl X.out (bf.no _ _ _ _) (by simp) (by omega) ?_;intro a10 c10 w10 o10 hg;have m10:=(hg.block w.heap.size zm (fun h=>by have:=(O9.out.lt h.symm).1;omega)).trans M9.out;have b10:=B9.out.grown hg hs (fun b hb=>by have:=(O9.out.lt hb).1;omega);clear hg hs z zm X M9 B9 O9;simp only[List.cons_append,List.nil_append,aG,aU,Nat.zero_add,Nat.reduceAdd] at o10⊢)
 have q22:=(aq m10 22).trans G22.out;have O:=hid o10;clear o10
 go_wp2_with fail
 go_ret
 exact⟨⟨_,rfl,O.out.mono (by omega)⟩,b10⟩
theorem pU(A:Array Value)(n:Nat)(mt tx oid val:List UInt8)(w:World)(h24:A[24]?=some (.int .i64 (n:Int)))(h25:A[25]?=some (.string ⟨mt.toArray⟩))(h26:A[26]?=some (.string ⟨tx.toArray⟩))(h21:A[21]?=some (.string ⟨oid.toArray⟩))(h22:A[22]?=some (.bool true))(h20:A[20]?=some (.string ⟨val.toArray⟩))(hn:n≤2147483647)(hne:oid≠[])(hoid:oid.length≤1000000000)(hval:val.length≤1000000000):
  Calls Tryz.prog 88 #[.agg A] w fun e w'=>(∃v,e=.returned v∧bJ w.heap.size w' v [.mk 0 10 false (sgB n) [],.mk 0 4 false mt [],.mk 0 4 false tx [],.mk 2 10 false oid [],.mk 2 11 false val []])∧Bw w w':=by
 have b1:=alb w A 32;have m1:=alz w A 32;have i1:oid.isEmpty=false:=by simpa using hne
 clear hne;obtain⟨G24,G25,G26,G21,G22,G20⟩:=Cy h24 h25 h26 h21 h22 h20;clear h24 h25 h26 h21 h22 h20
 go_enter Tryz.func88,Tryz.ntmps88
 go_upto_region 1 with fail
 generalize w.alloc (.cells A 32)=w1 at b1 m1⊢;refine aR (S:=fun w'=>Hc w' w.heap.size A 32) (by kernel_rfl) ?_;have T:Hc w1.drew w.heap.size A 32:=m1;have D:Bw w w1.drew:=b1.drew
 change wpAnyH _ _ _ _ _ _ _ _ w1.drew
 clear m1 b1;generalize w1.drew=w2 at T D⊢;refine tp 0 ⟨w.heap.size,24,none⟩ rfl T ?_;refine tn 1 (.int .i64 (n:Int)) rfl (fun w' hS=>by have q:=(aq hS 24).trans G24.out;go_simp) T ?_;refine tp 3 ⟨w.heap.size,25,none⟩ rfl T ?_;refine tn 4 (.string ⟨mt.toArray⟩) rfl (fun w' hS=>by have q:=(aq hS 25).trans G25.out;go_simp) T ?_;refine tp 6 ⟨w.heap.size,26,none⟩ rfl T ?_;refine tn 7 (.string ⟨tx.toArray⟩) rfl (fun w' hS=>by have q:=(aq hS 26).trans G26.out;go_simp) T ?_;have kc:=eO 10 n hn w2;refine ao 2 rfl (fun K hK=>?_);go_simp;go_wp2_with fail
 refine ag kc ?_;rintro e w3 ⟨rfl,hb⟩;have T9:=bkk hb T;have D9:=btt D hb;clear kc hb T D;have T:=T9;have D:=D9;clear T9 D9;refine hK _ _ T ?_;clear hK K
 have kc:=bz mt w3;refine ao 5 rfl (fun K hK=>?_);go_simp;go_wp2_with fail
 refine ag kc ?_;rintro e w4 ⟨rfl,hb⟩;have T9:=bkk hb T;have D9:=btt D hb;clear kc hb T D;have T:=T9;have D:=D9;clear T9 D9;refine hK _ _ T ?_;clear hK K
 have kc:=bz tx w4;refine ao 8 rfl (fun K hK=>?_);go_simp;go_wp2_with fail
 refine ag kc ?_;rintro e w5 ⟨rfl,hb⟩;have T9:=bkk hb T;have D9:=btt D hb;clear kc hb T D;have T:=T9;have D:=D9;clear T9 D9;refine hK _ _ T ?_;clear hK K
 simp only[elA,El.cls,El.tag,El.cons,El.bytes];have hb:=alb w5 #[.int .i64 0,.int .i64 10,.bool false,.string ⟨((sgB n)).toArray⟩,.slice none 0 0,.int .i64 0,.int .i64 4,.bool false,.string ⟨mt.toArray⟩,.slice none 0 0,.int .i64 0,.int .i64 4,.bool false,.string ⟨tx.toArray⟩,.slice none 0 0] 40;have x:=alz w5 #[.int .i64 0,.int .i64 10,.bool false,.string ⟨((sgB n)).toArray⟩,.slice none 0 0,.int .i64 0,.int .i64 4,.bool false,.string ⟨mt.toArray⟩,.slice none 0 0,.int .i64 0,.int .i64 4,.bool false,.string ⟨tx.toArray⟩,.slice none 0 0] 40;have z:w.heap.size+1≤w5.heap.size:=(gl T);have o6:bJ (w.heap.size+1) (w5.alloc (.cells #[.int .i64 0,.int .i64 10,.bool false,.string ⟨((sgB n)).toArray⟩,.slice none 0 0,.int .i64 0,.int .i64 4,.bool false,.string ⟨mt.toArray⟩,.slice none 0 0,.int .i64 0,.int .i64 4,.bool false,.string ⟨tx.toArray⟩,.slice none 0 0] 40)) (.slice (some ⟨w5.heap.size,0,none⟩) 3 3) [.mk 0 10 false (sgB n) [],.mk 0 4 false mt [],.mk 0 4 false tx []]:=
  bJ.flat (l:=[.mk 0 10 false (sgB n) [],.mk 0 4 false mt [],.mk 0 4 false tx []]) (us:=[.slice none 0 0,.slice none 0 0,.slice none 0 0]) x (by simp[cx,El.cls,El.tag,El.cons,El.bytes]) rfl z (by simp) (fun j e u q1 q2=>by
   have h3:j=0∨j=1∨j=2:=by have h9:=(List.getElem?_eq_some_iff.1 q1).1;simp at h9;omega
   rcases h3 with rfl|rfl|rfl
   all_goals (simp at q1 q2;subst q1;subst q2;exact bf.no _ _ _ _))
 have T9:=bkk hb T;have D9:=btt D hb;clear hb x z T D;refine ao 9 rfl (kks T9 ?_);generalize(w5.alloc (.cells #[.int .i64 0,.int .i64 10,.bool false,.string ⟨((sgB n)).toArray⟩,.slice none 0 0,.int .i64 0,.int .i64 4,.bool false,.string ⟨mt.toArray⟩,.slice none 0 0,.int .i64 0,.int .i64 4,.bool false,.string ⟨tx.toArray⟩,.slice none 0 0] 40))=w6 at T9 D9 o6⊢;generalize w5.heap.size=y at o6⊢;refine ao 10 rfl (kks T9 ?_);refine xk (by kernel_rfl) ?_ _;simp only[Exit.then];refine‹∀(a:Act) (w:World),Code.wp _ _ _ a w→_› _ _ ?_;have m6:=T9;have b6:=D9;clear T9 D9;have q21:=(aq m6 21).trans G21.out
 go_upto_region 3 with fail
 clear q21;have q:=(aq m6 21).trans G21.out;have kc:=bz oid w6
 go_wp2_with fail
 refine ag kc ?_;rintro e w7 ⟨rfl,hb⟩;have m7:=bkk hb m6;have b7:=btt b6 hb;have o7:=o6.below hb;clear hb m6 b6 o6 kc q;have kc:=BY (.mk 0 4 false oid []) (.slice none 0 0) 10 w7 (bf.nil _ _) (by simp[SmE,SmL];exact hoid)
 go_wp2_with fail
 refine ag kc ?_;rintro e w8 ⟨⟨u,rfl,hu⟩,hb⟩;obtain⟨ae8,ce8,rfl⟩:=hu.empty;have m8:=bkk hb m7;have b8:=btt b7 hb;have o8:=o7.below hb;clear hb m7 b7 o7 kc hu;simp only[elA,El.cls,El.tag,El.cons,El.bytes];have hb:=alb w8 #[.int .i64 2,.int .i64 10,.bool false,.string ⟨oid.toArray⟩,.slice ae8 0 ce8] 40;have x:Hc (w8.alloc (.cells #[.int .i64 2,.int .i64 10,.bool false,.string ⟨oid.toArray⟩,.slice ae8 0 ce8] 40)) w8.heap.size (elA (.mk 2 10 false oid []) (.slice ae8 0 ce8)) 40:=fb _ _ _ rfl;have m9:=bkk hb m8;have b9:=btt b8 hb;have o9:=o8.below hb;clear hb m8 b8 o8;have hs:=b9.size;have z:=(gl m9);have zm:=(gl m9);obtain⟨M9,B9,O9,X⟩:=Ci m9 b9 o9 x;clear x m9 b9 o9
 go_upto_region 4 with(at_builtin;refine bO rfl (.tmp 17) (.tmp 22) rfl (w.heap.size+1) (.slice (some ⟨y,0,none⟩) 3 3) [.mk 0 10 false (sgB n) [],.mk 0 4 false mt [],.mk 0 4 false tx []] rfl O9.out (.mk 2 10 false oid []) ae8 0 ce8 w8.heap.size rfl X.out (bf.no _ _ _ _) (by simp) (by omega) ?_;intro a10 c10 w10 o10 hg;have m10:=(hg.block w.heap.size zm (fun h=>by have:=(O9.out.lt h.symm).1;omega)).trans M9.out;have b10:=B9.out.grown hg hs (fun b hb=>by have:=(O9.out.lt hb).1;omega);clear hg hs z zm X M9 B9 O9;simp only[List.cons_append,List.nil_append,aG,aU,Nat.zero_add,Nat.reduceAdd] at o10⊢)
 have q22:=(aq m10 22).trans G22.out
 go_upto_region 5 with fail
 clear q22;have q:=(aq m10 20).trans G20.out;have kc:=bz val w10
 go_wp2_with fail
 refine ag kc ?_;rintro e w11 ⟨rfl,hb⟩;have m11:=bkk hb m10;have b11:=btt b10 hb;have o11:=o10.below hb;clear hb m10 b10 o10 kc q;have kc:=BY (.mk 0 4 false val []) (.slice none 0 0) 11 w11 (bf.nil _ _) (by simp[SmE,SmL];exact hval)
 go_wp2_with fail
 refine ag kc ?_;rintro e w12 ⟨⟨u,rfl,hu⟩,hb⟩;obtain⟨ae12,ce12,rfl⟩:=hu.empty;have m12:=bkk hb m11;have b12:=btt b11 hb;have o12:=o11.below hb;clear hb m11 b11 o11 kc hu;simp only[elA,El.cls,El.tag,El.cons,El.bytes];have hb:=alb w12 #[.int .i64 2,.int .i64 11,.bool false,.string ⟨val.toArray⟩,.slice ae12 0 ce12] 40;have x:Hc (w12.alloc (.cells #[.int .i64 2,.int .i64 11,.bool false,.string ⟨val.toArray⟩,.slice ae12 0 ce12] 40)) w12.heap.size (elA (.mk 2 11 false val []) (.slice ae12 0 ce12)) 40:=fb _ _ _ rfl;have m13:=bkk hb m12;have b13:=btt b12 hb;have o13:=o12.below hb;clear hb m12 b12 o12;have hs:=b13.size;have z:=(gl m13);have zm:=(gl m13);obtain⟨M13,B13,O13,X⟩:=Ci m13 b13 o13 x;clear x m13 b13 o13
 go_wp2_with (at_builtin;refine bO rfl (.tmp 26) (.tmp 31) rfl (w.heap.size+1) (.slice a10 4 c10) [.mk 0 10 false (sgB n) [],.mk 0 4 false mt [],.mk 0 4 false tx [],.mk 2 10 false oid []] rfl O13.out (.mk 2 11 false val []) ae12 0 ce12 w12.heap.size rfl X.out (bf.no _ _ _ _) (by simp) (by omega) ?_;intro a14 c14 w14 o14 hg;have m14:=(hg.block w.heap.size zm (fun h=>by have:=(O13.out.lt h.symm).1;omega)).trans M13.out;have b14:=B13.out.grown hg hs (fun b hb=>by have:=(O13.out.lt hb).1;omega);clear hg hs z zm X M13 B13 O13;simp only[List.cons_append,List.nil_append,aG,aU,Nat.zero_add,Nat.reduceAdd] at o14⊢)
 have O:=hid o14;clear o14
 go_wp2_with fail
 go_ret
 exact⟨⟨_,rfl,O.out.mono (by omega)⟩,b14⟩
end Go.Proofs.YtfhghdcbofbceaaGreatDoor
