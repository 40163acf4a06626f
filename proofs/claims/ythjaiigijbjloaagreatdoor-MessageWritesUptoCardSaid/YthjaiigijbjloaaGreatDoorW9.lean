/- ElT, ElL, R9F, R9G, R9H, R9A, OpR. -/
import Derived.Deep.CutRange
import Derived.Test.YthjaiigijbjloaaGreatDoorW8
namespace Go.Proofs.YthjaiigijbjloaaGreatDoor
open Go.RowKit Go.Lib
set_option maxRecDepth 100000
set_option maxHeartbeats 16000000
def vN(w0 w:World)(P:Array Value)(k:Nat)(f:List Fl)(N:Nat)(r:List Fl)(s0 s6 s29:Value)(wr:World):Prop:=
 ∃(i:Nat) (fi:List Fl) (es:List El),s29=.int .i64 (i:Int)∧i≤N∧de w0 s0 fi∧fi<:+f∧nx (bG k) (N -i) fi=some r∧bJ (w.heap.size+3) wr s6 es∧es.length=i∧es++(cT (cD k) (N -i) fi).1=(cT (cD k) N f).1∧
  wr.heap[w.heap.size]?=some (.cells Ze 45 (0,0))∧wr.heap[w.heap.size+1]?=some (.cells P 60 (0,0))∧wr.heap[w.heap.size+2]?=some (.cells Ze 45 (0,0))∧Below w.heap.size w wr
theorem iU(T:Int)(hT:T=0∨T=1∨T=2)(k:Nat)(ih:∀(fi r:List Fl) (v:Value) (w0 w:World),Below w0.heap.size w0 w→de w0 v fi→eP fi→fi.length≤100→bG k fi=some r→Calls Tryz.prog 119 #[v] w (FiP w0 w (cD k fi).1 r))(p:Fl)(f:List Fl)(v:Value)(w0 w:World)(h0:Below w0.heap.size w0 w)(hv:de w0 v (p::f))(hok:eP (p::f))(hln:f.length≤100)(r:List Fl)(hn0:0≤p.n)(hit:nx (bG k) p.n.toNat f=some r)(hop:p.op=T):
  Calls Tryz.prog 119 #[v] w (FiP w0 w (.mk 2 T true [] (cT (cD k) p.n.toNat f).1) r):=by
 unfold FiP;have HOP:=hid hop;clear hop;have IH:=hid ih;clear ih;obtain⟨N,hN⟩:=nmm p.n.toNat;have hpn:p.n=(N:Int):=by omega
 rw[hN] at hit⊢;obtain⟨HIT,HPN⟩:=Cg hit hpn;have hNl:=Cv (gt k) _ _ _ hit;have hNl2:N≤100:=by omega
 have hsmi:(∀q∈f,q.ok)→SmL (cT (cD k) N f).1:=fun hq=>kT (fun f r hf=>⟨xw k f r hf,fR k f r hf⟩) (jr k) N f r hq hln hit
 have HSMI:=hid (hsmi (fun q hq=>(hok.2 q (by simp[hq])).1));clear hN hpn hit hn0 hNl hsmi;obtain⟨EX,hEX⟩:=nmm ((.mk 2 T true [] (cT (cD k) N f).1:El):El);rw[hEX];have HEX:=hid hEX;clear hEX;rcases hT with rfl|rfl|rfl
 all_goals
  obtain⟨PR,hPR⟩:∃PR:Ending→World→Prop,PR=fun e w'=>(∃u v',e=.returned (.tuple #[.agg (elA EX u),v'])∧bf (fun g=>w.heap.size≤g) w' u EX.kids∧de w0 v' r)∧Below w.heap.size w w':=⟨_,rfl⟩
  rw[←hPR];have HPR:=hid hPR;clear hPR;have hpo:=(hok.2 p (by simp)).1;obtain⟨HPO,HOK⟩:=Cg hpo hok.tail;have hdr:=hv.drop;obtain⟨g,o,cap,rfl,hcap,c0,c1,c2,c3,c4,c5,u0,c6,hu⟩:=hv.first;obtain⟨au,cu,hus,hcu,-⟩:=id hu;subst hus;have HU:=hid (hu.below h0);obtain⟨NF,hNF⟩:=nmm f.length;rw[hNF] at hcap hdr hln⊢;obtain⟨V,hV⟩:=nmm (eH (.slice (some ⟨g,o,none⟩) (NF+1) cap));rw[hV] at hdr;obtain⟨HDR,HV,HNF⟩:=Ch hdr hV hNF;obtain⟨P,hP⟩:=nmm (p.row (.slice au p.any.length cu));have hP1:(#[.int .i64 p.op,.int .i64 p.n,.string ⟨p.typ.toArray⟩,.string ⟨p.value.toArray⟩,.string ⟨p.init.toArray⟩,.string ⟨p.final.toArray⟩,.slice au p.any.length cu]:Array Value)=P:=hP;have hP2:P.size=7:=by rw[←hP];rfl
  obtain⟨HP,HP1,HP2⟩:=Ch hP hP1 hP2;have b1:=alb w Ze 45;have t1:=alz w Ze 45;have hs1:(w.alloc (.cells Ze 45)).heap.size=w.heap.size+1:=by simp
  have h01:=btt h0 b1;have q0:=(h01.cell (bj c0)).trans c0;have q1:=(h01.cell (bj c1)).trans c1;have q2:=(h01.cell (bj c2)).trans c2;have q3:=(h01.cell (bj c3)).trans c3;have q4:=(h01.cell (bj c4)).trans c4;have q5:=(h01.cell (bj c5)).trans c5;have q6:=(h01.cell (bj c6)).trans c6;obtain⟨HS1,H0⟩:=Cg hs1 h0;clear hv hok hpo hdr hu hcu hNF hV hP hP1 hP2 c0 c1 c2 c3 c4 c5 c6 hs1 h01 h0
  go_enter Tryz.func119,Tryz.ntmps119
  go_upto_region 1 with fail
  generalize w.alloc (.cells Ze 45)=w1 at b1 t1 q0 q1 q2 q3 q4 q5 q6 HS1⊢
  go_upto_region 2 with fail
  rw[HP1.out];have b2:=b1.trans ((ar w1.heap.size w1).alloc (ah _) (.cells P 60)|>.mono b1.size);have t2:=(alloc_old w1 (.cells P 60) w.heap.size (gl t1)).trans t1;have m2:(w1.alloc (.cells P 60)).heap[w.heap.size+1]?=some (.cells P 60 (0,0)):=bi _ _ _ (by rw[HS1.out]);have hs2:(w1.alloc (.cells P 60)).heap.size=w.heap.size+2:=by simp[HS1.out]
  rw[HS1.out];have HS2:=hid hs2;clear q0 q1 q2 q3 q4 q5 q6 b1 t1 HS1 HP1 hs2;generalize w1.alloc (.cells P 60)=w2 at b2 t2 m2 HS2⊢
  go_cut [0] from 11 to 12 (fun s0 wx=>s0=V∧wx=w2)
  case first=>
   by_cases hc1:cap=1
   ·have hVV:V=.slice (some ⟨g,o,none⟩) 0 0:=by rw[←HV.out];simp[eH,hc1]
    have HVV:=hid hVV;have hnf0:NF=0:=by omega
    subst hc1 hnf0;clear hVV
    go_wp2_with fail
    go_meet
    exact⟨by rw[HVV.out],rfl⟩
   ·have hVV:V=.slice (some ⟨g,o+7,none⟩) NF (cap -1):=by rw[←HV.out];simp[eH,hc1]
    have HVV:=hid hVV;have hc2:¬(cap≤1):=by omega
    have hc3:1≤cap:=by omega
    clear hVV
    go_wp2_with fail
    go_meet
    exact⟨by rw[HVV.out],rfl⟩
  case rest=>
   obtain⟨hs0,hwc⟩:=hcut;rw[hs0,hwc];clear HV hs0 hwc;have b3:=b2.trans ((ar w2.heap.size w2).alloc (ah _) (.cells Ze 45)|>.mono b2.size);have t3:=(alloc_old w2 (.cells Ze 45) w.heap.size (gl t2)).trans t2;have m3:=(alloc_old w2 (.cells Ze 45) (w.heap.size+1) (gl m2)).trans m2;have x3:(w2.alloc (.cells Ze 45)).heap[w.heap.size+2]?=some (.cells Ze 45 (0,0)):=bi _ _ _ (by rw[HS2.out]);have hs3:(w2.alloc (.cells Ze 45)).heap.size=w.heap.size+3:=by simp[HS2.out]
   go_upto_region 4 with fail
   rw[HS2.out];have HS3:=hid hs3;clear b2 t2 m2 HS2 hs3;generalize w2.alloc (.cells Ze 45)=w3 at b3 t3 m3 x3 HS3⊢;have q0:=(ap m3 0).trans (show _=some (Value.int .i64 p.op) from by rw[←HP.out];simp[Fl.row]);rw[HOP.out] at q0;have q1:w3.cell? ⟨w.heap.size+1,1,none⟩=some (.int .i64 (N:Int)):=(ap m3 1).trans (by rw[←HP.out,←HPN.out];rfl);obtain⟨av,cv,hvs⟩:=HDR.out.shape;rw[HNF.out] at hvs;have HDV:=HDR.out;rw[hvs] at HDV⊢;have HD:=hid HDV;clear HDV hvs HDR
   go_wp2_with fail
   go_loopw [0,6,7,29] (fun s0 s6 _ s29 wr=>vN w0 w P k f N r s0 s6 s29 wr) (fun _ _ _ i _=>N -(RowKit.intOf i).toNat)
   case atStart=>exact⟨0,f,[],rfl,Nat.zero_le _,HD.out,List.suffix_refl _,HIT.out,bJ.nil _ _,rfl,by simp,t3,m3,x3,b3⟩
   case round=>
    clear t3 m3 x3 b3 HD HS3 q0 q1;obtain⟨i,fi,es,rfl,hi,hfv,hsuf,hit,ho,hel,hes,t3,m3,x3,b3⟩:=hrel;obtain⟨a0,d0,hfs⟩:=hfv.shape;subst hfs;obtain⟨a6,c6,hos⟩:=ho.shape;subst hos
    by_cases hiN:i<N
    ·have i1:decide ((i:Int)<(N:Int))=true:=aL (by omega)
     have i2:(i:Int)<(N:Int):=by omega
     obtain⟨m,hm⟩:∃m,N -i=m+1:=⟨N -i -1,by omega⟩;have hm2:N -(i+1)=m:=by omega
     rw[hm] at hit hes;obtain⟨ALL,hALL⟩:=nmm ((cT (cD k) N f).1);rw[hALL] at hes;have HALL:=hid hALL;clear hALL;unfold nx at hit;unfold cT at hes;cases hr:bG k fi with
     |none=>rw[hr] at hit;cases hit
     |some r1=>
      rw[hr] at hit;simp only at hit;have hfe:=xw k fi r1 hr;rw[hfe] at hes;have hs1:=fR k fi r1 hr;obtain⟨el,hel0⟩:=nmm ((cD k fi).1);rw[hel0] at hes;obtain⟨HES,HI2,HS2⟩:=Ch hes hit (hs1.trans hsuf);have hbk:=hsuf.length_le;have n1:=alb wr Ze 45;have y1:=alz wr Ze 45;have t4:=bkk n1 t3;have m4:=bkk n1 m3;have x4:=bkk n1 x3;have b4:=btt b3 n1;have kc:=IH.out fi r1 (.slice a0 fi.length d0) w0 (wr.alloc (.cells Ze 45)) (H0.out.trans (b4.mono H0.out.size)) hfv (HOK.out.suf hsuf) (by have:=HNF.out;omega) hr;rw[hel0] at kc;unfold FiP at kc;have hzk:wr.heap.size<(wr.alloc (.cells Ze 45)).heap.size:=by simp
      have hzx:=(gl x3);have hsz0:=b3.size;have hlt:∀g,(Value.slice a6 es.length c6).ownBlock=some g→w.heap.size+3≤g∧g<wr.heap.size:=fun g hg=>ho.lt hg
      obtain⟨HO,HLT,N1,HEL⟩:=Ci ho hlt n1 hel;clear n1 hr hit hes hfe hs1 hsuf hfv ho x3 m3 t3 b3 hlt hel;obtain⟨ec,et,ek,eb,eks⟩:=el;obtain⟨Y,hY⟩:=nmm wr.heap.size;have HY:=hid hY;rw[hY] at y1 hzk hzx hsz0;clear hY
      go_upto_region 13 with fail
      rw[HY.out];generalize wr.alloc (.cells Ze 45)=w4 at y1 t4 m4 x4 b4 kc hzk N1⊢;obtain⟨L6,hL6⟩:=nmm es.length;rw[hL6] at HLT HEL⊢;have HL6:=hid hL6;clear hL6
      go_wp2_with fail
      refine ag kc ?_;rintro e w5 ⟨⟨u,v',rfl,hu5,hv5⟩,hb⟩;obtain⟨a5,c5,hus5⟩:=hu5.shape;subst hus5;obtain⟨a9,c9,hvs9⟩:=hv5.shape;subst hvs9;have hkeep:∀j,j<Y→w5.heap[j]?=wr.heap[j]?:=fun j hj=>by
       have h1:=N1.out;rw[HY.out] at h1;exact(hb.block j (by omega)).trans (h1.block j hj)
      have y5:=bkk hb y1;have t5:=bkk hb t4;have m5:=bkk hb m4;have x5:=bkk hb x4;have b5:=btt b4 hb;have hz45:=hb.size;clear kc hb y1 t4 m4 x4 b4;simp only[elA,El.cls,El.tag,El.cons,El.bytes,El.kids] at hu5⊢;obtain⟨E,hE⟩:=nmm (#[.int .i64 ec,.int .i64 et,.bool ek,.string ⟨eb.toArray⟩,.slice a5 eks.length c5]:Array Value);have hEa:E.all (·.oneCell')=true:=by rw[←hE];simp[Value.oneCell']
      have hEs:E.size=5:=by rw[←hE];rfl
      rw[hE];have hz5:=(gl y5);have k6:∀j,j<Y→(w5.setRow Y E).heap[j]?=wr.heap[j]?:=fun j hj=>(setRow_other w5 Y j E (by omega)).trans (hkeep j hj)
      have t6:=(setRow_other w5 Y w.heap.size E (by omega)).trans t5;have m6:=(setRow_other w5 Y (w.heap.size+1) E (by omega)).trans m5;have x6:=(setRow_other w5 Y (w.heap.size+2) E (by omega)).trans x5;have y6:=setRow_heap w5 Y _ E _ _ y5;have b6:=bm b5 (g:=Y) (by omega) E;have hu6:bf (fun g=>Y<g) (w5.setRow Y E) (.slice a5 eks.length c5) eks:=hu5.kept fun g hg hl=>⟨setRow_other w5 Y g E (by omega),by omega⟩
      obtain⟨HE,HEa,HEs,Y5,K6⟩:=Cj hE hEa hEs y5 k6;clear hE hEa hEs y5 t5 m5 x5 b5 hu5 hkeep k6
      go_upto_region 14 with(refine bh rfl 45 (.tmp 7) (.tmp 34) rfl Y 45 _ E (by rfl) (by rfl) Y5.out (by rw[HEs.out];rfl) (by rw[HEs.out];rfl) HEa.out ?_)
      generalize w5.setRow Y E=w6 at t6 m6 x6 y6 b6 hu6 K6⊢;clear Y5;have o6:bJ (w.heap.size+3) w6 (.slice a6 L6 c6) es:=by rw[←HL6.out];exact HO.out.keep (fun j hj=>K6.out j (by rw[←HY.out];exact hj))
      rw[←HE.out] at y6⊢;have hb:=alb w6 #[.int .i64 ec,.int .i64 et,.bool ek,.string ⟨eb.toArray⟩,.slice a5 eks.length c5] 45;have xa:(w6.alloc (.cells #[.int .i64 ec,.int .i64 et,.bool ek,.string ⟨eb.toArray⟩,.slice a5 eks.length c5] 45)).heap[w6.heap.size]?=some (.cells (elA (.mk ec et ek eb eks) (.slice a5 eks.length c5)) 45 (0,0)):=bi _ _ _ rfl;have t7:=bkk hb t6;have m7:=bkk hb m6;have x7:=bkk hb x6;have b7:=btt b6 hb;have o7:=o6.below hb;have hu7:bf (fun g=>(Value.slice a6 L6 c6).ownBlock≠some g) (w6.alloc (.cells #[.int .i64 ec,.int .i64 et,.bool ek,.string ⟨eb.toArray⟩,.slice a5 eks.length c5] 45)) (.slice a5 eks.length c5) eks:=(hu6.below hb).mono (fun g hg hl h=>by have:=(HLT.out g h).2;rw[HY.out] at this;omega);have hs7:=b7.size;have z1:=(gl t7);have z2:=(gl m7);have z3:=(gl x7);obtain⟨T7,M7,X7,B7,O7,XA,HU7,Y6⟩:=Cx t7 m7 x7 b7 o7 xa hu7 y6;clear hb t6 m6 x6 b6 o6 hu6 t7 m7 x7 b7 o7 xa hu7 y6
      go_wp2_with (first|(refine bg rfl 45 (.tmp 7) rfl Y 45 _ (0,0) (by rfl) Y6.out _ Tryz.underlying45 rfl (by rfl) ?_)|(at_builtin;refine bO rfl (.tmp 36) (.tmp 38) rfl (w.heap.size+3) (.slice a6 L6 c6) es (by rfl) O7.out (.mk ec et ek eb eks) a5 eks.length c5 w6.heap.size rfl XA.out HU7.out (by rw[HL6.out];have:=HEL.out;omega) (by omega) ?_;intro a10 c10 w10 o10 hg;have m10:=(hg.block (w.heap.size+1) z2 (fun h=>by have:=(O7.out.lt h.symm).1;omega)).trans M7.out;have t10:=(hg.block w.heap.size z1 (fun h=>by have:=(O7.out.lt h.symm).1;omega)).trans T7.out;have x10:=(hg.block (w.heap.size+2) z3 (fun h=>by have:=(O7.out.lt h.symm).1;omega)).trans X7.out;have b10:=B7.out.grown hg hs7 (fun b hb=>by have:=(O7.out.lt hb).1;omega);clear hg hs7 z1 z2 z3 XA T7 M7 X7 B7 O7 HU7 Y6))
      rw[HL6.out] at o10⊢;refine⟨⟨i+1,r1,es++[.mk ec et ek eb eks],by go_num,by omega,hv5,HS2.out,by rw[hm2];exact HI2.out,o10,by have h1:=HEL.out;have h2:=HL6.out;simp;omega,by rw[hm2,HALL.out,←HES.out];simp,t10,m10,x10,b10⟩,?_⟩
      simp[RowKit.intOf];omega
    ·obtain rfl:i=N:=by omega
     rw[Nat.sub_self] at hit hes;simp only[nx,Option.some.injEq] at hit;simp only[cT,List.append_nil] at hes;subst hit hes;have hELX:El.mk 2 _ true [] (cT (cD k) i f).1=EX:=HEX.out;obtain⟨es,hes⟩:=nmm ((cT (cD k) i f).1);have hsl:=HSMI.out;rw[hes] at ho hELX hsl hel⊢;have HELX:Hid (El.mk 2 _ (El.cons (.mk 0 16 true [] es)) (El.bytes (.mk 0 16 true [] es)) (El.kids (.mk 0 16 true [] es))=EX):=hid hELX;have hsm:SmE (.mk 0 16 true [] es):=by simp only[SmE];exact⟨by simp,by omega,hsl⟩
     obtain⟨HSM,HRV⟩:=Cg hsm hfv;obtain⟨L6,hL6⟩:=nmm es.length;have kc:=cH es _ wr ho.kids hsl (by omega);rw[hL6] at kc⊢;have hz3:=(gl x3);have hz4:=b3.size;clear hELX hsm hsl hes ho hfv hsuf hL6;obtain⟨w5,hw5⟩:=nmm wr;rw[hw5] at t3 m3 x3 b3 kc hz3 hz4⊢;clear hw5
     go_wp2_with fail
     refine ag kc ?_;rintro e w8 ⟨⟨u8,rfl,hu8⟩,hb⟩;have m8:=bkk hb m3;have x8:=bkk hb x3;have b8:=btt b3 hb;have t8:=bkk hb t3;clear kc hb t3 m3 x3 b3;obtain⟨E0,hE0⟩:=nmm (elA (.mk 0 16 true [] es) u8);have hE0a:E0.all (·.oneCell')=true:=by
      obtain⟨a,c,hsl⟩:=hu8.shape;subst hsl;rw[←hE0];simp[elA,Value.oneCell']
     have hE0s:E0.size=5:=by rw[←hE0];rfl
     rw[hE0];obtain⟨HE0,HE0a,HE0s⟩:=Ch hE0 hE0a hE0s;clear hE0 hE0a hE0s;have m9:=(setRow_other w8 (w.heap.size+2) (w.heap.size+1) E0 (by omega)).trans m8;have t9:=(setRow_other w8 (w.heap.size+2) w.heap.size E0 (by omega)).trans t8;have x9:=setRow_heap w8 (w.heap.size+2) _ E0 _ _ x8;have b9:=bm b8 (g:=w.heap.size+2) (by omega) E0;have hk:bf (fun _=>True) (w8.setRow (w.heap.size+2) E0) u8 es:=hu8.kept fun g hg hl=>⟨setRow_other w8 (w.heap.size+2) g E0 (by omega),trivial⟩
     obtain⟨HK,X8⟩:=Cg hk x8;clear hk hu8 x8
     go_upto_region 21 with(refine bh rfl 45 (.tmp 5) (.tmp 42) rfl (w.heap.size+2) 45 _ E0 (by rfl) (by rfl) X8.out (by rw[HE0s.out];rfl) (by rw[HE0s.out];rfl) HE0a.out ?_)
     clear t8 m8 b8 X8;generalize w8.setRow (w.heap.size+2) E0=w9 at t9 m9 x9 b9 HK⊢;rw[←HE0.out] at x9;have q0:=(ap m9 0).trans (show _=some (Value.int .i64 p.op) from by rw[←HP.out];simp[Fl.row]);rw[HOP.out] at q0;obtain⟨E1,hE1⟩:=nmm (elA (.mk 0 16 true [] es) (u8));rw[hE1] at x9;have hE1s:E1.size=5:=by rw[←hE1];rfl
     have kc:=BY (.mk 0 16 true [] es) (u8) p.op w9 (HK.out.mono (fun _ _ _=>trivial)) HSM.out;rw[HOP.out] at kc;rw[hE1,HELX.out,show El.kids (.mk 0 16 true [] es)=EX.kids from by rw[←HELX.out];rfl] at kc;have HE1:=hid hE1s;clear hE1 hE1s
     go_wp2_with (refine bg rfl 45 (.tmp 5) rfl (w.heap.size+2) 45 _ (0,0) (by rfl) x9 _ Tryz.underlying45 rfl (by rw[HE1.out];rfl) ?_)
     refine ag kc ?_;rintro e w50 ⟨⟨u5,rfl,hu5⟩,hb⟩;have t50:=bkk hb t9;have b50:=btt b9 hb;have hsz:=(gl t9);clear kc hb t9 b9 m9 x9 q0;obtain⟨E,hE⟩:=nmm (elA EX u5);have hEa:E.all (·.oneCell')=true:=by
      obtain⟨a,c,hsl⟩:=hu5.shape;subst hsl;rw[←hE];simp[elA,Value.oneCell']
     have hEs:E.size=5:=by rw[←hE];rfl
     rw[hE];have bF:=bm b50 (g:=w.heap.size) (ah _) E;have tF:=setRow_heap w50 w.heap.size _ E _ _ t50;have uF:bf (fun g=>w.heap.size≤g) (w50.setRow w.heap.size E) u5 EX.kids:=hu5.kept fun g hg hl=>⟨setRow_other w50 w.heap.size g E (by omega),by omega⟩
     obtain⟨HE,HEa,HEs⟩:=Ch hE hEa hEs;have Tryz.underlying60:=hid uF;clear hu5 hE hEa hEs uF b50
     go_wp2_with (refine bh rfl 45 (.tmp 2) (.tmp 60) rfl w.heap.size 45 _ E (by rfl) (by rfl) t50 (by rw[HEs.out];rfl) (by rw[HEs.out];rfl) HEa.out ?_)
     refine aH (v:=.tuple #[.agg E,.slice a0 fi.length d0]) ?_ rfl (by rw[HPR.out];exact⟨⟨u5,_,by rw[HE.out],Tryz.underlying60.out,HRV.out⟩,bF⟩);have hr:=aJ (P:=Tryz.prog) (w50.setRow w.heap.size E) w.heap.size 45 45 E (0,0) _ tF (show Tryz.prog.underlying 45=_ from Tryz.underlying45) (by rfl) (by rw[HEs.out];rfl)
     simp[results,Tryz.f119]
     show((Sem.run Tryz.prog (loadVar 45 ⟨w.heap.size,0,none⟩) (w50.setRow w.heap.size E)).andThen fun a w'=>Result.ok (Value.tuple #[a,.slice a0 fi.length d0]) w')=_;rw[hr]
     simp
theorem od{p:Fl}(h:bU p=true):(0≤p.n∧(p.op=0∨p.op=1∨p.op=2))∨p.n=0∧(p.op=7∨p.op=4∨p.op∉([0,1,2,4,7]:List Int)):=by
 by_cases hc:p.op=0∨p.op=1∨p.op=2
 ·left
  unfold bU at h;rw[if_pos hc] at h;simp only[aI,aT] at h;exact⟨h.1.2,hc⟩
 ·right
  refine⟨iQ h hc,?_⟩
  by_cases h7:p.op=7
  ·exact .inl h7
  by_cases h4:p.op=4
  ·exact .inr (.inl h4)
  simp only[not_or] at hc;exact .inr (.inr (by simp only[aY,aZ,or_false,not_or];exact⟨hc.1,hc.2.1,hc.2.2,h4,h7⟩))
theorem fS:∀(k:Nat) (f r:List Fl) (v:Value) (w0 w:World),Below w0.heap.size w0 w→de w0 v f→eP f→f.length≤100→bG k f=some r→Calls Tryz.prog 119 #[v] w (FiP w0 w (cD k f).1 r)
 |0,_,_,_,_,_,_,_,_,_,h=>by cases h
 |k+1,[],_,_,_,_,_,_,_,_,h=>by cases h
 |k+1,p::f,r,v,w0,w,h0,hv,hok,hl,h=>by
  simp only[aG] at hl;unfold bG at h
  by_cases hs:bU p=true
  ·rw[if_pos hs] at h
   unfold cD;rcases od hs with⟨hn,hc⟩|⟨hn,hc⟩
   ·rw[if_pos hc]
    rcases hc with hc|hc|hc
    ·have:=iU 0 (by decide) k (fS k) p f v w0 w h0 hv hok (by omega) r hn h hc
     simpa only[hc] using this
    ·have:=iU 1 (by decide) k (fS k) p f v w0 w h0 hv hok (by omega) r hn h hc
     simpa only[hc] using this
    ·have:=iU 2 (by decide) k (fS k) p f v w0 w h0 hv hok (by omega) r hn h hc
     simpa only[hc] using this
   ·have hnc:¬(p.op=0∨p.op=1∨p.op=2):=by
     rcases hc with hc|hc|hc
     ·rw[hc];decide
     ·rw[hc];decide
     ·intro h2;apply hc;rcases h2 with h2|h2|h2<;>rw[h2]<;>decide
    rw[if_neg hnc];have hr:f=r:=by rw[hn] at h;simpa[nx] using h
    subst hr;rcases hc with hc|hc|hc
    ·exact pM p f v w0 w h0 hv hok (by omega) hc
    ·exact pN p f v w0 w h0 hv hok (by omega) hc
    ·exact lZ p f v w0 w h0 hv hok (by omega) hc
  ·rw[if_neg hs] at h;cases h
def cY(dn:List UInt8)(scope deref size time:Nat)(types:Bool)(FE:El)(sel:List (List UInt8)):List El:=
 [.mk 0 4 false dn [],.mk 0 10 false (sgB scope) [],.mk 0 10 false (sgB deref) [],.mk 0 2 false (sgB size) [],.mk 0 2 false (sgB time) [],.mk 0 1 false (blB types) [],FE,.mk 0 16 true [] (sel.map cP)]
theorem xO(dn:List UInt8)(scope deref size time:Nat)(types:Bool)(FE:El)(sel:List (List UInt8))(hd:dn.length≤1000000000)(hF:SmE FE)(hs:∀s∈sel,s.length≤1000000000)(hl:sel.length≤1000000000):SmL (cY dn scope deref size time types FE sel):=by
 have h1:=(eg scope).2;have h2:=(eg deref).2;have h3:=(eg size).2;have h4:=(eg time).2;have h5:(blB types).length=1:=by cases types<;>rfl
 have h6:=gB sel hs;unfold cY;simp only[SmL,SmE,aU,List.length_map];exact⟨⟨hd,by omega,trivial⟩,⟨by omega,by omega,trivial⟩,⟨by omega,by omega,trivial⟩,⟨by omega,by omega,trivial⟩,⟨by omega,by omega,trivial⟩,⟨by omega,by omega,trivial⟩,hF,⟨by omega,hl,h6⟩,trivial⟩
theorem mX(b:Nat)(A:Array Value)(dn:List UInt8)(scope deref size time:Nat)(types:Bool)(vf vs:Value)(fl:List Fl)(sel:List (List UInt8))(w:World)(h0:w.heap[b]?=some (.cells A 28 (0,0)))
  (h2:A[2]?=some (.string ⟨dn.toArray⟩)) (h6:A[6]?=some (.int .i64 (scope:Int))) (h7:A[7]?=some (.int .i64 (deref:Int))) (h8:A[8]?=some (.int .i64 (size:Int))) (h9:A[9]?=some (.int .i64 (time:Int))) (h10:A[10]?=some (.bool types)) (h11:A[11]?=some vf) (h12:A[12]?=some vs)
  (hd:dn.length≤1000000000) (n6:scope≤2147483647) (n7:deref≤2147483647) (n8:size≤2147483647) (n9:time≤2147483647)
  (hf:de w vf fl) (hok:eP fl) (hfl:fl.length≤100) (hwh:bG 20 fl=some []) (hs:ct w vs sel) (hsl:sel.length≤100000000) (hss:∀s∈sel,s.length≤1000000000):
  Calls Tryz.prog 118 #[.pointer (some ⟨b,0,none⟩)] w fun e w'=>(∃u,e=.returned (.agg (elA (.mk 0 16 true [] (cY dn scope deref size time types (cD 20 fl).1 sel)) u))∧bf (fun g=>w.heap.size≤g) w' u (cY dn scope deref size time types (cD 20 fl).1 sel))∧Below w.heap.size w w':=by
 have b1:=alb w Ze 45;have t1:=alz w Ze 45;have m1:=bkk b1 h0;have hbl:=(gl h0);have hsmf:=jr 20 fl [] (fun p hp=>(hok.2 p hp).1) hfl hwh;have kf:=fS 20 fl [] vf w (w.alloc (.cells Ze 45)) b1 hf hok hfl hwh;obtain⟨FE,hFE⟩:=nmm ((cD 20 fl).1);rw[hFE] at hsmf kf⊢;unfold FiP at kf;obtain⟨HSM,HS,HSS,G2,G6,G7,G8,G9,G10,G11,G12⟩:=CA (xO dn scope deref size time types FE sel hd hsmf hss (by omega)) hs hss h2 h6 h7 h8 h9 h10 h11 h12;obtain⟨af,cf,hvf⟩:=hf.shape;obtain⟨az,cz,hvs,-,-⟩:=hs;subst hvf hvs;obtain⟨NF,hNF⟩:=nmm fl.length;rw[hNF] at kf G11;clear h0 h2 h6 h7 h8 h9 h10 h11 h12 hf hok hwh hss hFE hsmf hNF hfl
 go_enter Tryz.func118,Tryz.ntmps118
 go_upto_region 1 with fail
 have hs1:(w.alloc (.cells Ze 45)).heap.size=w.heap.size+1:=by simp
 have HS1:=hid hs1;clear hs1;generalize w.alloc (.cells Ze 45)=w1 at b1 t1 m1 kf HS1⊢;have q11:=(ap m1 11).trans G11.out
 go_wp2_with fail
 refine ag kf ?_;rintro e w2 ⟨⟨uf,vf',rfl,hu2,-⟩,hb⟩;obtain⟨a2,c2,hsu⟩:=hu2.shape;subst hsu;have hu2:bf (fun g=>w.heap.size+1≤g) w2 _ _:=hu2.mono (fun g hg _=>by have:=HS1.out;omega);have t2:=bkk hb t1;have m2:=bkk hb m1;have b2:=btt b1 hb;have hz12:=hb.size;rw[HS1.out] at hz12;clear kf hb t1 m1 b1 q11 HS1;obtain⟨ec,et,ek,eb,eks⟩:=FE;simp only[elA,El.cls,El.tag,El.cons,El.bytes,El.kids] at hu2⊢;obtain⟨E,hE⟩:=nmm (#[.int .i64 ec,.int .i64 et,.bool ek,.string ⟨eb.toArray⟩,.slice a2 eks.length c2]:Array Value);have hEa:E.all (·.oneCell')=true:=by rw[←hE];simp[Value.oneCell']
 have hEs:E.size=5:=by rw[←hE];rfl
 rw[hE];obtain⟨HE,HEa,HEs⟩:=Ch hE hEa hEs;clear hE hEa hEs;have hb:=alb w2 E 45;have x3:=alz w2 Ze 45;obtain⟨Y,hY⟩:=nmm w2.heap.size;have hbz:=alb w2 Ze 45;have t3:=bkk hbz t2;have m3:=bkk hbz m2;have b3:=btt b2 hbz;have u3:bf (fun g=>w.heap.size+1≤g∧g<Y) (w2.alloc (.cells Ze 45)) (.slice a2 eks.length c2) eks:=hu2.kept fun g hg hl=>⟨hbz.block g hl,by omega,by rw[←hY];exact hl⟩
 have hbY:b<Y:=by have:=(gl m2);omega
 have hwY:w.heap.size<Y:=by omega
 rw[hY] at x3;have t4:=(setRow_other (w2.alloc (.cells Ze 45)) Y w.heap.size E (by omega)).trans t3;have m4:=(setRow_other (w2.alloc (.cells Ze 45)) Y b E (by omega)).trans m3;have x4:=setRow_heap (w2.alloc (.cells Ze 45)) Y _ E _ _ x3;have b4:=bm b3 (g:=Y) (by omega) E;have u4:bf (fun g=>w.heap.size+1≤g∧g<Y) ((w2.alloc (.cells Ze 45)).setRow Y E) (.slice a2 eks.length c2) eks:=u3.kept fun g hg hl=>⟨setRow_other _ Y g E (by omega),hg⟩
 obtain⟨X3,HY⟩:=Cg x3 hY;clear hb hbz t2 m2 b2 t3 m3 b3 x3 u3 hu2 hY
 go_upto_region 2 with(first|(refine bh rfl 45 (.tmp 2) (.tmp 8) rfl Y 45 _ E (by rfl) (by rfl) X3.out (by rw[HEs.out];rfl) (by rw[HEs.out];rfl) HEa.out ?_)|(rw[HY.out];refine bh rfl 45 (.tmp 2) (.tmp 8) rfl Y 45 _ E (by rfl) (by rfl) X3.out (by rw[HEs.out];rfl) (by rw[HEs.out];rfl) HEa.out ?_))
 try rw[HY.out]
 clear X3 HY;generalize(w2.alloc (.cells Ze 45)).setRow Y E=w4 at t4 m4 x4 b4 u4⊢;refine aR (S:=fun w'=>w'.heap[b]?=some (.cells A 28 (0,0))∧w'.heap[Y]?=some (.cells E 45 (0,0))) (by kernel_rfl) ?_;have T:w4.drew.heap[b]?=some (.cells A 28 (0,0))∧w4.drew.heap[Y]?=some (.cells E 45 (0,0)):=⟨m4,x4⟩;have D:Below w.heap.size w w4.drew:=b4.drew;have R:w4.drew.heap[w.heap.size]?=some (.cells Ze 45 (0,0)):=t4;have U:bf (fun g=>w.heap.size+1≤g∧g<Y) w4.drew (.slice a2 eks.length c2) eks:=u4.kept fun g hg hl=>⟨rfl,hg⟩
 change wpAnyH _ _ _ _ _ _ _ _ w4.drew
 clear m4 x4 b4 t4 u4;generalize w4.drew=w5 at T D R U⊢;refine tp 0 ⟨b,2,none⟩ rfl T ?_;refine tn 1 (.string ⟨dn.toArray⟩) rfl (fun w' hS=>by have q:=(ap hS.1 2).trans G2.out;go_simp) T ?_;refine tp 3 ⟨b,6,none⟩ rfl T ?_;refine tn 4 (.int .i64 (scope:Int)) rfl (fun w' hS=>by have q:=(ap hS.1 6).trans G6.out;go_simp) T ?_;refine tp 6 ⟨b,7,none⟩ rfl T ?_;refine tn 7 (.int .i64 (deref:Int)) rfl (fun w' hS=>by have q:=(ap hS.1 7).trans G7.out;go_simp) T ?_;refine tp 9 ⟨b,8,none⟩ rfl T ?_;refine tn 10 (.int .i64 (size:Int)) rfl (fun w' hS=>by have q:=(ap hS.1 8).trans G8.out;go_simp) T ?_;refine tp 12 ⟨b,9,none⟩ rfl T ?_;refine tn 13 (.int .i64 (time:Int)) rfl (fun w' hS=>by have q:=(ap hS.1 9).trans G9.out;go_simp) T ?_;refine tp 15 ⟨b,10,none⟩ rfl T ?_;refine tn 16 (.bool types) rfl (fun w' hS=>by have q:=(ap hS.1 10).trans G10.out;go_simp) T ?_;refine tn 18 (.agg E) rfl (fun w' hS=>by exact cU 45 (.tmp 2) rfl Y 45 _ (0,0) (by rfl) hS.2 _ Tryz.underlying45 rfl (by rw[HEs.out];rfl)) T ?_;refine tp 19 ⟨b,12,none⟩ rfl T ?_;refine tn 20 (.slice az sel.length cz) rfl (fun w' hS=>by have q:=(ap hS.1 12).trans G12.out;go_simp) T ?_;have kc:=bz dn w5;refine ao 2 rfl (fun K hK=>?_);go_simp;go_wp2_with fail
 refine ag kc ?_;rintro e w6 ⟨rfl,hb⟩;have T9:w6.heap[b]?=some (.cells A 28 (0,0))∧w6.heap[Y]?=some (.cells E 45 (0,0)):=⟨(hb.block _ (gl T.1)).trans T.1,(hb.block _ (gl T.2)).trans T.2⟩;have D9:=btt D hb;have R9:=bkk hb R;have U9:=U.below hb;clear kc hb T D R U;have T:=T9;have D:=D9;have R:=R9;have U:=U9;clear T9 D9 R9 U9;refine hK _ _ T ?_;clear hK K
 have kc:=eO 10 scope n6 w6;refine ao 5 rfl (fun K hK=>?_);go_simp;go_wp2_with fail
 refine ag kc ?_;rintro e w7 ⟨rfl,hb⟩;have T9:w7.heap[b]?=some (.cells A 28 (0,0))∧w7.heap[Y]?=some (.cells E 45 (0,0)):=⟨(hb.block _ (gl T.1)).trans T.1,(hb.block _ (gl T.2)).trans T.2⟩;have D9:=btt D hb;have R9:=bkk hb R;have U9:=U.below hb;clear kc hb T D R U;have T:=T9;have D:=D9;have R:=R9;have U:=U9;clear T9 D9 R9 U9;refine hK _ _ T ?_;clear hK K
 have kc:=eO 10 deref n7 w7;refine ao 8 rfl (fun K hK=>?_);go_simp;go_wp2_with fail
 refine ag kc ?_;rintro e w8 ⟨rfl,hb⟩;have T9:w8.heap[b]?=some (.cells A 28 (0,0))∧w8.heap[Y]?=some (.cells E 45 (0,0)):=⟨(hb.block _ (gl T.1)).trans T.1,(hb.block _ (gl T.2)).trans T.2⟩;have D9:=btt D hb;have R9:=bkk hb R;have U9:=U.below hb;clear kc hb T D R U;have T:=T9;have D:=D9;have R:=R9;have U:=U9;clear T9 D9 R9 U9;refine hK _ _ T ?_;clear hK K
 have kc:=eO 2 size n8 w8;refine ao 11 rfl (fun K hK=>?_);go_simp;go_wp2_with fail
 refine ag kc ?_;rintro e w9 ⟨rfl,hb⟩;have T9:w9.heap[b]?=some (.cells A 28 (0,0))∧w9.heap[Y]?=some (.cells E 45 (0,0)):=⟨(hb.block _ (gl T.1)).trans T.1,(hb.block _ (gl T.2)).trans T.2⟩;have D9:=btt D hb;have R9:=bkk hb R;have U9:=U.below hb;clear kc hb T D R U;have T:=T9;have D:=D9;have R:=R9;have U:=U9;clear T9 D9 R9 U9;refine hK _ _ T ?_;clear hK K
 have kc:=eO 2 time n9 w9;refine ao 14 rfl (fun K hK=>?_);go_simp;go_wp2_with fail
 refine ag kc ?_;rintro e w10 ⟨rfl,hb⟩;have T9:w10.heap[b]?=some (.cells A 28 (0,0))∧w10.heap[Y]?=some (.cells E 45 (0,0)):=⟨(hb.block _ (gl T.1)).trans T.1,(hb.block _ (gl T.2)).trans T.2⟩;have D9:=btt D hb;have R9:=bkk hb R;have U9:=U.below hb;clear kc hb T D R U;have T:=T9;have D:=D9;have R:=R9;have U:=U9;clear T9 D9 R9 U9;refine hK _ _ T ?_;clear hK K
 have kc:=iS 1 types w10;refine ao 17 rfl (fun K hK=>?_);go_simp;go_wp2_with fail
 refine ag kc ?_;rintro e w11 ⟨⟨ub,rfl,hub⟩,hb⟩;obtain⟨ab,cb,rfl⟩:=hub.empty;clear hub;have T9:w11.heap[b]?=some (.cells A 28 (0,0))∧w11.heap[Y]?=some (.cells E 45 (0,0)):=⟨(hb.block _ (gl T.1)).trans T.1,(hb.block _ (gl T.2)).trans T.2⟩;have D9:=btt D hb;have R9:=bkk hb R;have U9:=U.below hb;clear kc hb T D R U;have T:=T9;have D:=D9;have R:=R9;have U:=U9;clear T9 D9 R9 U9;refine hK _ _ T ?_;clear hK K
 have kc:=lN _ sel w11 (HS.out.below D) hsl;refine ao 21 rfl (fun K hK=>?_);go_simp;go_wp2_with fail
 refine ag kc ?_;rintro e w12 ⟨⟨vz,rfl,hz⟩,hb⟩;have T9:w12.heap[b]?=some (.cells A 28 (0,0))∧w12.heap[Y]?=some (.cells E 45 (0,0)):=⟨(hb.block _ (gl T.1)).trans T.1,(hb.block _ (gl T.2)).trans T.2⟩;have D9:=btt D hb;have R9:=bkk hb R;have U9:=U.below hb;clear kc hb T D R U;have T:=T9;have D:=D9;have R:=R9;have U:=U9;clear T9 D9 R9 U9;refine hK _ _ T ?_;clear hK K
 have kc:=cH (sel.map cP) vz w12 hz.kids (gB sel HSS.out) (by simp;omega);obtain⟨ay,cy,hvz⟩:=hz.shape;simp only[List.length_map] at hvz;subst hvz;clear hz;refine ao 22 rfl (fun K hK=>?_);go_simp;go_wp2_with fail
 refine ag kc ?_;rintro e w13 ⟨⟨u9,rfl,hu9⟩,hb⟩;obtain⟨a9,c9,hsu⟩:=hu9.shape;simp only[List.length_map] at hsu;subst hsu;have T9:w13.heap[b]?=some (.cells A 28 (0,0))∧w13.heap[Y]?=some (.cells E 45 (0,0)):=⟨(hb.block _ (gl T.1)).trans T.1,(hb.block _ (gl T.2)).trans T.2⟩;have D9:=btt D hb;have R9:=bkk hb R;have U9:=U.below hb;clear kc hb T D R U;have T:=T9;have D:=D9;have R:=R9;have U:=U9;clear T9 D9 R9 U9;refine hK _ _ T ?_;clear hK K
 rw[←HE.out];simp only[elA,El.cls,El.tag,El.cons,El.bytes];have hb:Below w13.heap.size w13 (w13.alloc (.cells (List.toArray (.int .i64 0::.int .i64 4::Bf::.string ⟨dn.toArray⟩::Sn::.int .i64 0::.int .i64 10::Bf::.string ⟨(sgB scope).toArray⟩::Sn::.int .i64 0::.int .i64 10::Bf::.string ⟨(sgB deref).toArray⟩::Sn::.int .i64 0::.int .i64 2::Bf::.string ⟨(sgB size).toArray⟩::Sn::.int .i64 0::.int .i64 2::Bf::.string ⟨(sgB time).toArray⟩::Sn::.int .i64 0::.int .i64 1::Bf::.string ⟨(blB types).toArray⟩::.slice ab 0 cb::.int .i64 ec::.int .i64 et::.bool ek::.string ⟨eb.toArray⟩::.slice a2 eks.length c2::.int .i64 0::.int .i64 16::.bool true::Es::.slice a9 sel.length c9::[])) 45)):=(ar _ _).alloc (ah _) _;have x:(w13.alloc (.cells (List.toArray (.int .i64 0::.int .i64 4::Bf::.string ⟨dn.toArray⟩::Sn::.int .i64 0::.int .i64 10::Bf::.string ⟨(sgB scope).toArray⟩::Sn::.int .i64 0::.int .i64 10::Bf::.string ⟨(sgB deref).toArray⟩::Sn::.int .i64 0::.int .i64 2::Bf::.string ⟨(sgB size).toArray⟩::Sn::.int .i64 0::.int .i64 2::Bf::.string ⟨(sgB time).toArray⟩::Sn::.int .i64 0::.int .i64 1::Bf::.string ⟨(blB types).toArray⟩::.slice ab 0 cb::.int .i64 ec::.int .i64 et::.bool ek::.string ⟨eb.toArray⟩::.slice a2 eks.length c2::.int .i64 0::.int .i64 16::.bool true::Es::.slice a9 sel.length c9::[])) 45)).heap[w13.heap.size]?=some (.cells (List.toArray (.int .i64 0::.int .i64 4::Bf::.string ⟨dn.toArray⟩::Sn::.int .i64 0::.int .i64 10::Bf::.string ⟨(sgB scope).toArray⟩::Sn::.int .i64 0::.int .i64 10::Bf::.string ⟨(sgB deref).toArray⟩::Sn::.int .i64 0::.int .i64 2::Bf::.string ⟨(sgB size).toArray⟩::Sn::.int .i64 0::.int .i64 2::Bf::.string ⟨(sgB time).toArray⟩::Sn::.int .i64 0::.int .i64 1::Bf::.string ⟨(blB types).toArray⟩::.slice ab 0 cb::.int .i64 ec::.int .i64 et::.bool ek::.string ⟨eb.toArray⟩::.slice a2 eks.length c2::.int .i64 0::.int .i64 16::.bool true::Es::.slice a9 sel.length c9::[])) 45 (0,0)):=bi _ _ _ rfl;have o7:bJ (w.heap.size+1) (w13.alloc (.cells (List.toArray (.int .i64 0::.int .i64 4::Bf::.string ⟨dn.toArray⟩::Sn::.int .i64 0::.int .i64 10::Bf::.string ⟨(sgB scope).toArray⟩::Sn::.int .i64 0::.int .i64 10::Bf::.string ⟨(sgB deref).toArray⟩::Sn::.int .i64 0::.int .i64 2::Bf::.string ⟨(sgB size).toArray⟩::Sn::.int .i64 0::.int .i64 2::Bf::.string ⟨(sgB time).toArray⟩::Sn::.int .i64 0::.int .i64 1::Bf::.string ⟨(blB types).toArray⟩::.slice ab 0 cb::.int .i64 ec::.int .i64 et::.bool ek::.string ⟨eb.toArray⟩::.slice a2 eks.length c2::.int .i64 0::.int .i64 16::.bool true::Es::.slice a9 sel.length c9::[])) 45)) (.slice (some ⟨w13.heap.size,0,none⟩) 8 8) (cY dn scope deref size time types (.mk ec et ek eb eks) sel):=
  bJ.flat (l:=cY dn scope deref size time types (.mk ec et ek eb eks) sel) (us:=[Sn,Sn,Sn,Sn,Sn,.slice ab 0 cb,.slice a2 eks.length c2,.slice a9 sel.length c9]) x (by simp[cx,cY,El.cls,El.tag,El.cons,El.bytes]) rfl (by have:=(gl R);omega) (by simp[cY]) (fun j e u q1 q2=>by
   have h3:j=0∨j=1∨j=2∨j=3∨j=4∨j=5∨j=6∨j=7:=by have h9:=(List.getElem?_eq_some_iff.1 q1).1;simp[cY] at h9;omega
   unfold cY at q1;rcases h3 with rfl|rfl|rfl|rfl|rfl|rfl|rfl|rfl
   ·simp at q1 q2;subst q1;subst q2;exact bf.no _ _ _ _
   ·simp at q1 q2;subst q1;subst q2;exact bf.no _ _ _ _
   ·simp at q1 q2;subst q1;subst q2;exact bf.no _ _ _ _
   ·simp at q1 q2;subst q1;subst q2;exact bf.no _ _ _ _
   ·simp at q1 q2;subst q1;subst q2;exact bf.no _ _ _ _
   ·simp at q1 q2;subst q1;subst q2;exact bf.no _ _ _ _
   ·simp at q1 q2;subst q1;subst q2;exact U.kept fun g hg hl=>⟨hb.block g hl,fun h=>by cases h;omega⟩
   ·simp at q1 q2;subst q1;subst q2;exact hu9.kept fun g hg hl=>⟨hb.block g hl,fun h=>by cases h;omega⟩)
 have T9:(w13.alloc (.cells (List.toArray (.int .i64 0::.int .i64 4::Bf::.string ⟨dn.toArray⟩::Sn::.int .i64 0::.int .i64 10::Bf::.string ⟨(sgB scope).toArray⟩::Sn::.int .i64 0::.int .i64 10::Bf::.string ⟨(sgB deref).toArray⟩::Sn::.int .i64 0::.int .i64 2::Bf::.string ⟨(sgB size).toArray⟩::Sn::.int .i64 0::.int .i64 2::Bf::.string ⟨(sgB time).toArray⟩::Sn::.int .i64 0::.int .i64 1::Bf::.string ⟨(blB types).toArray⟩::.slice ab 0 cb::.int .i64 ec::.int .i64 et::.bool ek::.string ⟨eb.toArray⟩::.slice a2 eks.length c2::.int .i64 0::.int .i64 16::.bool true::Es::.slice a9 sel.length c9::[])) 45)).heap[b]?=some (.cells A 28 (0,0))∧(w13.alloc (.cells (List.toArray (.int .i64 0::.int .i64 4::Bf::.string ⟨dn.toArray⟩::Sn::.int .i64 0::.int .i64 10::Bf::.string ⟨(sgB scope).toArray⟩::Sn::.int .i64 0::.int .i64 10::Bf::.string ⟨(sgB deref).toArray⟩::Sn::.int .i64 0::.int .i64 2::Bf::.string ⟨(sgB size).toArray⟩::Sn::.int .i64 0::.int .i64 2::Bf::.string ⟨(sgB time).toArray⟩::Sn::.int .i64 0::.int .i64 1::Bf::.string ⟨(blB types).toArray⟩::.slice ab 0 cb::.int .i64 ec::.int .i64 et::.bool ek::.string ⟨eb.toArray⟩::.slice a2 eks.length c2::.int .i64 0::.int .i64 16::.bool true::Es::.slice a9 sel.length c9::[])) 45)).heap[Y]?=some (.cells E 45 (0,0)):=⟨(hb.block _ (gl T.1)).trans T.1,(hb.block _ (gl T.2)).trans T.2⟩;have D9:=btt D hb;have R9:=bkk hb R;clear hb x T D R U hu9;have O7:=hid o7;clear o7;refine ao 23 rfl (kks (by rw[HE.out];exact T9) ?_);generalize w13.alloc (.cells (List.toArray (.int .i64 0::.int .i64 4::Bf::.string ⟨dn.toArray⟩::Sn::.int .i64 0::.int .i64 10::Bf::.string ⟨(sgB scope).toArray⟩::Sn::.int .i64 0::.int .i64 10::Bf::.string ⟨(sgB deref).toArray⟩::Sn::.int .i64 0::.int .i64 2::Bf::.string ⟨(sgB size).toArray⟩::Sn::.int .i64 0::.int .i64 2::Bf::.string ⟨(sgB time).toArray⟩::Sn::.int .i64 0::.int .i64 1::Bf::.string ⟨(blB types).toArray⟩::.slice ab 0 cb::.int .i64 ec::.int .i64 et::.bool ek::.string ⟨eb.toArray⟩::.slice a2 eks.length c2::.int .i64 0::.int .i64 16::.bool true::Es::.slice a9 sel.length c9::[])) 45)=w14 at T9 D9 R9 O7⊢;generalize w13.heap.size=y at O7⊢;obtain⟨KS,hKS⟩:=nmm (cY dn scope deref size time types (.mk ec et ek eb eks) sel);have hK8:KS.length=8:=by rw[←hKS];rfl
 rw[hKS] at O7 HSM;have HKS:=hid hKS;have kc:=cH KS _ w14 O7.out.kids HSM.out (by omega);clear O7 hKS hK8;refine ao 24 rfl (fun K hK=>?_);go_simp;go_wp2_with fail
 refine ag kc ?_;rintro e w15 ⟨⟨u,rfl,hu⟩,hb⟩;have m20:=(hb.block _ (gl T9.1)).trans T9.1;have x20:=(hb.block _ (gl T9.2)).trans T9.2;have b20:=btt D9 hb;have t20:=bkk hb R9;have hz5:=(gl R9);clear kc hb T9 D9 R9;refine hK _ _ (by rw[HE.out];exact⟨m20,x20⟩) ?_;clear hK K
 obtain⟨E2,hE⟩:=nmm (elA (.mk 0 16 true [] KS) u);have hE1:E2.all (·.oneCell')=true:=by
  obtain⟨a,c,hsl⟩:=hu.shape;subst hsl;rw[←hE];simp[elA,Value.oneCell']
 have hE2:E2.size=5:=by rw[←hE];rfl
 rw[hE];obtain⟨HE9,HE91,HE92⟩:=Ch hE hE1 hE2;clear hE hE1 hE2;have TF:(w15.setRow w.heap.size E2).heap[b]?=some (.cells A 28 (0,0))∧(w15.setRow w.heap.size E2).heap[Y]?=some (.cells E 45 (0,0)):=⟨(setRow_other w15 w.heap.size b E2 (by omega)).trans m20,(setRow_other w15 w.heap.size Y E2 (by omega)).trans x20⟩;have bF:=bm b20 (g:=w.heap.size) (ah _) E2;have tF:=setRow_heap w15 w.heap.size _ E2 _ _ t20;have uF:bf (fun g=>w.heap.size≤g) (w15.setRow w.heap.size E2) u KS:=hu.kept fun g hg hl=>⟨setRow_other w15 w.heap.size g E2 (by omega),by omega⟩
 refine ao 25 rfl (fun K hK=>?_);refine db 45 (.tmp 1) (.tmp 34) rfl w.heap.size 45 _ E2 (by rfl) (by rfl) t20 (by rw[HE92.out];rfl) (by rw[HE92.out];rfl) HE91.out ?_;refine hK _ _ (by rw[HE.out];exact TF) ?_;clear hK K
 refine bE (by kernel_rfl) ?_ _
 try simp only[Exit.then]
 refine‹∀(a:Act) (w:World),Code.wp _ _ _ a w→_› _ _ ?_;clear m20 x20 t20 b20 TF hu;generalize w15.setRow w.heap.size E2=wF at bF tF uF⊢;have UF:=hid uF;clear uF
 go_wp2_with fail
 refine aH (v:=.agg E2) ?_ rfl ⟨⟨u,by rw[HKS.out,HE9.out],by rw[HKS.out];exact UF.out⟩,bF⟩;have hr:=aJ (P:=Tryz.prog) wF w.heap.size 45 45 E2 (0,0) _ tF (show Tryz.prog.underlying 45=_ from Tryz.underlying45) (by rfl) (by rw[HE92.out];rfl)
 simp[results,Tryz.f118]
 exact hr
abbrev flA(op:Int)(p:Fl)(u6:Value):Array Value:=#[.int .i64 op,.int .i64 p.n,.string ⟨p.typ.toArray⟩,.string ⟨p.value.toArray⟩,.string ⟨p.init.toArray⟩,.string ⟨p.final.toArray⟩,u6]
structure FxS (w:World) (P:Array Value) (wx:World):Prop where
 r0:wx.heap[w.heap.size]?=some (.cells zE 45 (0,0))
 rx:wx.heap[w.heap.size+1]?=some (.cells P 60 (0,0))
 bel:Below w.heap.size w wx
 sz:wx.heap.size=w.heap.size+1+1
theorem FxS.x{w wx W:World}{P:Array Value}(h:FxS w P wx)(hb:Below wx.heap.size wx W):W.heap[w.heap.size+1]?=some (.cells P 60 (0,0)):=(hb.block _ (gl h.rx)).trans h.rx
theorem FxS.o{w wx W:World}{P:Array Value}(h:FxS w P wx)(hb:Below wx.heap.size wx W):W.heap[w.heap.size]?=some (.cells zE 45 (0,0)):=(hb.block _ (gl h.r0)).trans h.r0
theorem FxS.b{w wx W:World}{P:Array Value}(h:FxS w P wx)(hb:Below wx.heap.size wx W):Below w.heap.size w W:=h.bel.trans (hb.mono h.bel.size)
theorem xT{fn:Func}{R:Ending→World→Prop}{a:Act}{w:World}{s t g:Nat}{cs:Array Value}{v:Value}(hf:fn.results=#[.cell s 45,.tmp t])(hd:a.defers=[])(hs:a.tmps[s]?=some (.pointer (some ⟨g,0,none⟩)))(ht:a.tmps[t]?=some v)
  (hg:w.heap[g]?=some (.cells cs 45 (0,0))) (h5:cs.size=5) (hR:R (.returned (.tuple #[.agg cs,v])) w):bodyPost Tryz.prog fn R .ret a w:=by
 refine aH (v:=.tuple #[.agg cs,v]) ?_ hd hR;have hr:=aJ (P:=Tryz.prog) w g 45 45 cs (0,0) _ hg (show Tryz.prog.underlying 45=_ from Tryz.underlying45) rfl (by rw[h5];kernel_rfl);have he:(asAddr (.pointer (some ⟨g,0,none⟩))).run Tryz.prog w=.ok ⟨g,0,none⟩ w:=rfl
 simp[results,hf,hs,ht,he,hr]
theorem An(p:Fl)(f:List Fl)(v:Value)(w:World)(hv:de w v (p::f))(hc:p.op=7):
  Calls Tryz.prog 131 #[v] w fun e w'=>(∃u,e=.returned (.tuple #[.agg (elA (El.mk 2 7 false p.typ []) u),.int .i64 1])∧bf (fun g=>w.heap.size≤g) w' u (El.mk 2 7 false p.typ []).kids)∧Below w.heap.size w w':=by
 obtain⟨a,cap,rfl,hcap,hcells⟩:=hv;obtain⟨g0,o,ha,hcc⟩:=hcells (by simp);subst ha;obtain⟨q0,q1,q2,q3,q4,q5,u6,q6,hu⟩:=hcc 0 p rfl;simp only[Nat.zero_mul,Nat.add_zero] at q0 q1 q2 q3 q4 q5 q6;rw[hc] at q0;obtain⟨a6,c6,hf6,_,_⟩:=id hu;subst hf6;have ba:=alb w zE 45;have xa:=alz w zE 45;have sa:(w.alloc (.cells zE 45)).heap.size=w.heap.size+1:=by simp
 have i0:(0:Int)<((p::f).length:Int):=by rw[aG];omega
 have hlc:(p::f).length=f.length+1:=rfl;obtain⟨LN,hLN⟩:=nmm ((p::f).length);rw[hLN] at i0 hcap hlc⊢;have HLC:=hid hlc;clear hLN hlc
 go_enter Tryz.func131,Tryz.ntmps131
 go_upto_region 1 with fail
 replace q0:=(ba.cell (bj q0)).trans q0;replace q1:=(ba.cell (bj q1)).trans q1;replace q2:=(ba.cell (bj q2)).trans q2;replace q3:=(ba.cell (bj q3)).trans q3;replace q4:=(ba.cell (bj q4)).trans q4;replace q5:=(ba.cell (bj q5)).trans q5;replace q6:=(ba.cell (bj q6)).trans q6;generalize w.alloc (.cells Ze 45)=wa at ba xa sa q0 q1 q2 q3 q4 q5 q6⊢
 go_upto_region 4 with fail
 have FX:FxS w (flA 7 p (.slice a6 p.any.length c6)) (wa.alloc (.cells (flA 7 p (.slice a6 p.any.length c6)) 60)):=
  ⟨(alloc_old _ _ _ (by omega)).trans xa,bi _ _ _ sa.symm,ba.alloc (by omega) _,by simp;omega⟩
 generalize wa.alloc (.cells #[.int .i64 7,.int .i64 p.n,.string ⟨p.typ.toArray⟩,.string ⟨p.value.toArray⟩,.string ⟨p.init.toArray⟩,.string ⟨p.final.toArray⟩,.slice a6 p.any.length c6] 60)=wx at FX⊢;have S:EaS (w.heap.size+1+1) zE wx (Sn) [] (wx.alloc (.cells zE 45)):=EaS.nil (bi _ _ _ FX.sz.symm) ((ar _ _).alloc (ah _) _) (by have:=FX.sz;omega);generalize wx.alloc (.cells Ze 45)=w1 at S⊢;clear q0 q1 q2 q3 q4 q5 q6 ba xa sa;have c0:=cval (FX.x S.bel) 0 (.int .i64 7);have c2:=cval (FX.x S.bel) 2 (.string ⟨p.typ.toArray⟩);have kc:=dr p.typ w1
 go_wp2_with fail
 refine ag kc ?_;rintro e w2 ⟨rfl,hb⟩;have S2:=S.below hb;clear kc c0 c2 S hb
 go_wp2_with (first
  |(refine bh rfl 45 (.tmp 5) (.tmp 56) rfl (w.heap.size+1+1) 45 _ #[I0,.int .i64 4,Bf,.string ⟨p.typ.toArray⟩,Sn] (by rfl) (by rfl) S2.box (by rfl) (by rfl) (by simp[Value.oneCell']) ?_;obtain⟨d1,d2,d3⟩:=S2.done #[I0,.int .i64 4,Bf,.string ⟨p.typ.toArray⟩,Sn];generalize w2.setRow (w.heap.size+1+1) #[I0,.int .i64 4,Bf,.string ⟨p.typ.toArray⟩,Sn]=w3 at d1 d2 d3⊢;have d0:=cval (FX.x d2) 0 (.int .i64 7))
  |(refine bg rfl 45 (.tmp 5) rfl (w.heap.size+1+1) 45 _ (0,0) (by rfl) d3 _ Tryz.underlying45 rfl (by rfl) ?_))
 have kc:=l7 7 0 4 false p.typ (none) 0 0 w3;refine ag kc ?_;rintro e w4 ⟨rfl,hb⟩;have b4:=cL d2 hb;have x4:=FX.o b4;have hq:=setRow_heap w4 w.heap.size _ #[.int .i64 2,.int .i64 7,Bf,.string ⟨p.typ.toArray⟩,Sn] _ _ x4;have hbq:=bm (FX.b b4) (g:=w.heap.size) (ah _) #[.int .i64 2,.int .i64 7,Bf,.string ⟨p.typ.toArray⟩,Sn];have hk4:=(d1.below hb).kept (Q:=fun k=>w.heap.size≤k) fun k hk _=>⟨setRow_other w4 w.heap.size k #[.int .i64 2,.int .i64 7,Bf,.string ⟨p.typ.toArray⟩,Sn] (by have:=FX.sz;omega),by have:=FX.sz;omega⟩
 clear kc d0
 go_wp2_with (refine bh rfl 45 (.tmp 2) (.tmp 106) rfl w.heap.size 45 _ #[.int .i64 2,.int .i64 7,Bf,.string ⟨p.typ.toArray⟩,Sn] (by rfl) (by rfl) x4 (by rfl) (by rfl) (by simp[Value.oneCell']) ?_)
 all_goals exact xT (s:=2) (t:=3) (g:=w.heap.size) rfl rfl rfl rfl hq rfl ⟨⟨_,rfl,hk4⟩,hbq⟩
theorem yR(p:Fl)(f:List Fl)(v:Value)(w:World)(hv:de w v (p::f))(hno:p.op∉([0,1,2,4,7]:List Int)):
  Calls Tryz.prog 131 #[v] w fun e w'=>(∃u,e=.returned (.tuple #[.agg (elA (El.mk 2 p.op true [] [cP p.typ,cP p.value]) u),.int .i64 1])∧bf (fun g=>w.heap.size≤g) w' u (El.mk 2 p.op true [] [cP p.typ,cP p.value]).kids)∧Below w.heap.size w w':=by
 obtain⟨OP,hc⟩:=nmm p.op;rw[hc] at hno⊢;simp only[aY,aZ,or_false,not_or] at hno;obtain⟨n0,n1,n2,n4,n7⟩:=hno;have n0:(OP==0)=false:=by simpa using n0
 have n1:(OP==1)=false:=by simpa using n1
 have n2:(OP==2)=false:=by simpa using n2
 have n4:(OP==4)=false:=by simpa using n4
 have n7:(OP==7)=false:=by simpa using n7
 obtain⟨a,cap,rfl,hcap,hcells⟩:=hv;obtain⟨g0,o,ha,hcc⟩:=hcells (by simp);subst ha;obtain⟨q0,q1,q2,q3,q4,q5,u6,q6,hu⟩:=hcc 0 p rfl;simp only[Nat.zero_mul,Nat.add_zero] at q0 q1 q2 q3 q4 q5 q6;rw[hc] at q0;obtain⟨a6,c6,hf6,_,_⟩:=id hu;subst hf6;have ba:=alb w zE 45;have xa:=alz w zE 45;have sa:(w.alloc (.cells zE 45)).heap.size=w.heap.size+1:=by simp
 have i0:(0:Int)<((p::f).length:Int):=by rw[aG];omega
 have hlc:(p::f).length=f.length+1:=rfl;obtain⟨LN,hLN⟩:=nmm ((p::f).length);rw[hLN] at i0 hcap hlc⊢;have HLC:=hid hlc;clear hLN hlc
 go_enter Tryz.func131,Tryz.ntmps131
 go_upto_region 1 with fail
 replace q0:=(ba.cell (bj q0)).trans q0;replace q1:=(ba.cell (bj q1)).trans q1;replace q2:=(ba.cell (bj q2)).trans q2;replace q3:=(ba.cell (bj q3)).trans q3;replace q4:=(ba.cell (bj q4)).trans q4;replace q5:=(ba.cell (bj q5)).trans q5;replace q6:=(ba.cell (bj q6)).trans q6;generalize w.alloc (.cells Ze 45)=wa at ba xa sa q0 q1 q2 q3 q4 q5 q6⊢
 go_upto_region 4 with fail
 have FX:FxS w (flA OP p (.slice a6 p.any.length c6)) (wa.alloc (.cells (flA OP p (.slice a6 p.any.length c6)) 60)):=
  ⟨(alloc_old _ _ _ (by omega)).trans xa,bi _ _ _ sa.symm,ba.alloc (by omega) _,by simp;omega⟩
 generalize wa.alloc (.cells #[.int .i64 OP,.int .i64 p.n,.string ⟨p.typ.toArray⟩,.string ⟨p.value.toArray⟩,.string ⟨p.init.toArray⟩,.string ⟨p.final.toArray⟩,.slice a6 p.any.length c6] 60)=wx at FX⊢;have S:EaS (w.heap.size+1+1) zE wx (Sn) [] (wx.alloc (.cells zE 45)):=EaS.nil (bi _ _ _ FX.sz.symm) ((ar _ _).alloc (ah _) _) (by have:=FX.sz;omega);generalize wx.alloc (.cells Ze 45)=w1 at S⊢;clear q0 q1 q2 q3 q4 q5 q6 ba xa sa;have c0:=cval (FX.x S.bel) 0 (.int .i64 OP)
 go_upto_region 5 with fail
 refine aR (S:=fun w'=>w'.heap[w.heap.size+1]?=some (.cells (flA OP p (.slice a6 p.any.length c6)) 60 (0,0))) (by kernel_rfl) ?_
 change wpAnyH _ _ _ _ _ _ _ _ w1.drew
 replace S:=S.below (ar w1.heap.size w1).drew;clear c0 n0 n1 n2 n4 n7;generalize w1.drew=w2 at S⊢;have T:=FX.x S.bel;refine tp 0 ⟨w.heap.size+1,2,none⟩ rfl T ?_;refine tp 3 ⟨w.heap.size+1,3,none⟩ rfl T ?_;refine tn 1 (.string ⟨p.typ.toArray⟩) rfl (fun w' hS=>by have q:=cval hS 2 (.string ⟨p.typ.toArray⟩);go_simp) T ?_;refine tn 4 (.string ⟨p.value.toArray⟩) rfl (fun w' hS=>by have q:=cval hS 3 (.string ⟨p.value.toArray⟩);go_simp) T ?_;have kc:=dr p.typ w2;refine ao 2 rfl (fun K hK=>?_);go_simp;go_wp2_with fail
 refine ag kc ?_;rintro e w3 ⟨rfl,hb⟩;replace S:=S.below hb;clear kc hb;generalize w3=w2 at S⊢;replace T:=FX.x S.bel;refine hK _ _ T ?_;clear hK K
 have kc:=dr p.value w2;refine ao 5 rfl (fun K hK=>?_);go_simp;go_wp2_with fail
 refine ag kc ?_;rintro e w3 ⟨rfl,hb⟩;replace S:=S.below hb;clear kc hb;generalize w3=w2 at S⊢;replace T:=FX.x S.bel;refine hK _ _ T ?_;clear hK K
 have hal:=alb w2 #[I0,.int .i64 4,Bf,.string ⟨p.typ.toArray⟩,Sn,I0,.int .i64 4,Bf,.string ⟨p.value.toArray⟩,Sn] 45;have S2:EaS (w.heap.size+1+1) zE wx (.slice (some ⟨w2.heap.size,0,none⟩) 2 2) [cP p.typ,cP p.value] (w2.alloc (.cells #[I0,.int .i64 4,Bf,.string ⟨p.typ.toArray⟩,Sn,I0,.int .i64 4,Bf,.string ⟨p.value.toArray⟩,Sn] 45)):=
  EaS.row (L:=[cP p.typ,cP p.value]) (us:=[Sn,Sn]) (S.below hal).box (S.below hal).bel S.lo (bi _ _ _ rfl) S.glt rfl rfl (by simp) ⟨bf.nil _ _,bf.nil _ _,trivial⟩
 refine ao 6 rfl (kks (FX.x S2.bel) ?_);have kc:=dd (some ⟨w2.heap.size,0,none⟩) 2 2 (w2.alloc (.cells #[I0,.int .i64 4,Bf,.string ⟨p.typ.toArray⟩,Sn,I0,.int .i64 4,Bf,.string ⟨p.value.toArray⟩,Sn] 45));clear S hal T;refine ao 7 rfl (fun K hK=>?_);go_simp;go_wp2_with fail
 refine ag kc ?_;rintro e w4 ⟨rfl,hb⟩;have S4:=S2.below hb;clear kc hb S2;refine hK _ _ (FX.x S4.bel) ?_;clear hK K
 obtain⟨d1,d2,d3⟩:=S4.done #[I0,.int .i64 16,.bool true,Es,.slice (some ⟨w2.heap.size,0,none⟩) 2 2];refine ao 8 rfl (fun K hK=>?_);refine l5 45 (.tmp 5) (.tmp 24) rfl (w.heap.size+1+1) 45 _ #[I0,.int .i64 16,.bool true,Es,.slice (some ⟨w2.heap.size,0,none⟩) 2 2] (by rfl) (by rfl) S4.box (by rfl) (by rfl) (by simp[Value.oneCell']) ?_;refine hK _ _ (FX.x d2) ?_;clear hK K
 generalize w4.setRow (w.heap.size+1+1) #[I0,.int .i64 16,.bool true,Es,.slice (some ⟨w2.heap.size,0,none⟩) 2 2]=w3 at d1 d2 d3⊢;refine bE (by kernel_rfl) ?_ _;simp only[Exit.inBlock,Exit.then];refine‹∀(a:Act) (w:World),Code.wp _ _ _ a w→_› _ _ ?_;have d0:=cval (FX.x d2) 0 (.int .i64 OP)
 go_wp2_with (refine bg rfl 45 (.tmp 5) rfl (w.heap.size+1+1) 45 _ (0,0) (by rfl) d3 _ Tryz.underlying45 rfl (by rfl) ?_)
 have kc:=l7 OP 0 16 true [] (some ⟨w2.heap.size,0,none⟩) 2 2 w3;refine ag kc ?_;rintro e w4 ⟨rfl,hb⟩;have b4:=cL d2 hb;have x4:=FX.o b4;have hq:=setRow_heap w4 w.heap.size _ #[.int .i64 2,.int .i64 OP,.bool true,Es,.slice (some ⟨w2.heap.size,0,none⟩) 2 2] _ _ x4;have hbq:=bm (FX.b b4) (g:=w.heap.size) (ah _) #[.int .i64 2,.int .i64 OP,.bool true,Es,.slice (some ⟨w2.heap.size,0,none⟩) 2 2];have hk4:=(d1.below hb).kept (Q:=fun k=>w.heap.size≤k) fun k hk _=>⟨setRow_other w4 w.heap.size k #[.int .i64 2,.int .i64 OP,.bool true,Es,.slice (some ⟨w2.heap.size,0,none⟩) 2 2] (by have:=FX.sz;omega),by have:=FX.sz;omega⟩
 clear kc d0
 go_wp2_with (refine bh rfl 45 (.tmp 2) (.tmp 106) rfl w.heap.size 45 _ #[.int .i64 2,.int .i64 OP,.bool true,Es,.slice (some ⟨w2.heap.size,0,none⟩) 2 2] (by rfl) (by rfl) x4 (by rfl) (by rfl) (by simp[Value.oneCell']) ?_)
 all_goals exact xT (s:=2) (t:=3) (g:=w.heap.size) rfl rfl rfl rfl hq rfl ⟨⟨_,rfl,hk4⟩,hbq⟩
def Bk(p:Fl):List El:=if p.final=[] then[] else[.mk 2 2 false p.final []]
theorem yw(p:Fl):bL p=eh p++gb p.any++Bk p:=rfl
theorem Ao(p:Fl)(f:List Fl)(v:Value)(w:World)(hv:de w v (p::f))(hok:p.ok)(hc:p.op=4):
  Calls Tryz.prog 131 #[v] w fun e w'=>(∃u,e=.returned (.tuple #[.agg (elA (El.mk 2 4 true [] [cP p.typ,.mk 0 16 true [] (bL p)]) u),.int .i64 1])∧bf (fun g=>w.heap.size≤g) w' u (El.mk 2 4 true [] [cP p.typ,.mk 0 16 true [] (bL p)]).kids)∧Below w.heap.size w w':=by
 obtain⟨a,cap,rfl,hcap,hcells⟩:=hv;obtain⟨g0,o,ha,hcc⟩:=hcells (by simp);subst ha;obtain⟨q0,q1,q2,q3,q4,q5,u6,q6,hu⟩:=hcc 0 p rfl;simp only[Nat.zero_mul,Nat.add_zero] at q0 q1 q2 q3 q4 q5 q6;rw[hc] at q0;obtain⟨a6,c6,hf6,_,_⟩:=id hu;subst hf6;have ba:=alb w zE 45;have xa:=alz w zE 45;have sa:(w.alloc (.cells zE 45)).heap.size=w.heap.size+1:=by simp
 have i0:(0:Int)<((p::f).length:Int):=by rw[aG];omega
 have hlc:(p::f).length=f.length+1:=rfl;obtain⟨LN,hLN⟩:=nmm ((p::f).length);rw[hLN] at i0 hcap hlc⊢;have HLC:=hid hlc;clear hLN hlc
 go_enter Tryz.func131,Tryz.ntmps131
 go_upto_region 1 with fail
 replace q0:=(ba.cell (bj q0)).trans q0;replace q1:=(ba.cell (bj q1)).trans q1;replace q2:=(ba.cell (bj q2)).trans q2;replace q3:=(ba.cell (bj q3)).trans q3;replace q4:=(ba.cell (bj q4)).trans q4;replace q5:=(ba.cell (bj q5)).trans q5;replace q6:=(ba.cell (bj q6)).trans q6;generalize w.alloc (.cells Ze 45)=wa at ba xa sa q0 q1 q2 q3 q4 q5 q6⊢
 go_upto_region 4 with fail
 have FX:FxS w (flA 4 p (.slice a6 p.any.length c6)) (wa.alloc (.cells (flA 4 p (.slice a6 p.any.length c6)) 60)):=
  ⟨(alloc_old _ _ _ (by omega)).trans xa,bi _ _ _ sa.symm,ba.alloc (by omega) _,by simp;omega⟩
 generalize wa.alloc (.cells #[.int .i64 4,.int .i64 p.n,.string ⟨p.typ.toArray⟩,.string ⟨p.value.toArray⟩,.string ⟨p.init.toArray⟩,.string ⟨p.final.toArray⟩,.slice a6 p.any.length c6] 60)=wx at FX⊢;have S:EaS (w.heap.size+1+1) zE wx (Sn) [] (wx.alloc (.cells zE 45)):=EaS.nil (bi _ _ _ FX.sz.symm) ((ar _ _).alloc (ah _) _) (by have:=FX.sz;omega);generalize wx.alloc (.cells Ze 45)=w1 at S⊢;have HU:=hid hu;clear q0 q1 q2 q3 q4 q5 q6 ba xa sa;have c0:=cval (FX.x S.bel) 0 (.int .i64 4);have c4:=cval (FX.x S.bel) 4 (.string ⟨p.init.toArray⟩);have hokl:p.any.length≤100000000:=hok.2.2.2.2.1
 go_upto_if 61 with fail
 generalize hB:p.init.isEmpty=B;have HB:=hid hB;clear hB c0
 go_cut [10] from 62 to 68 (fun s10 wy=>EaS (w.heap.size+1+1) zE wx s10 (eh p) wy)
 case first=>
  rcases B.eq_false_or_eq_true with hb|hb
  ·subst hb
   have hl:eh p=[]:=by have h:=HB.out;simp at h;simp[eh,h]
   rw[←hl] at S
   go_wp2_with fail
   go_meet
   exact S
  ·subst hb
   have hl:eh p=[.mk 2 0 false p.init []]:=by have h:=HB.out;simp at h;simp[eh,h]
   have kc:=dr p.init w1
   go_wp2_with fail
   refine ag kc ?_;rintro e w2 ⟨rfl,hb⟩;replace S:=S.below hb;clear kc hb;have kc:=l7 0 0 4 false p.init none 0 0 w2
   go_wp2_with fail
   refine ag kc ?_;rintro e w3 ⟨rfl,hb⟩;replace S:=S.below hb;clear kc hb
   go_wp2_with (at_builtin;refine wu S (.mk 2 0 false p.init []) none 0 0 rfl (.tmp 62) (.tmp 67) rfl rfl rfl (bf.nil _ _) (by simp) ?_;intro a' c' w5 S5)
   rw[List.nil_append,←hl] at S5
   go_meet
   exact S5
 case rest=>
  clear S c4
  rename_i wy
  have S:=hcut;clear hcut;obtain⟨av,cv,hsh⟩:=S.shape;subst hsh;have HS:=hid S;clear S
  go_wp2_with fail
  go_loopw [10,11] (fun v i wr=>∃k:Nat,i=.int .i64 (k:Int)∧k≤p.any.length∧EaS (w.heap.size+1+1) zE wx v (eh p++gb (p.any.take k)) wr) (fun _ i _=>p.any.length -(RowKit.intOf i).toNat)
  case atStart=>exact⟨0,rfl,Nat.zero_le _,by simpa[gb] using HS.out⟩
  case round=>
   clear HS;obtain⟨k,rfl,hk,S⟩:=hrel;obtain⟨av,cv,hsh⟩:=S.shape;subst hsh;have hil:(eh p).length≤1:=by unfold eh;split<;>simp
   have hll:(eh p++gb (p.any.take k)).length≤1+k:=by rw[bd];simp[gb];omega
   obtain⟨LL,hLL⟩:=nmm (eh p++gb (p.any.take k));rw[hLL] at S hll;rw[hLL];have HLL:=hid hLL;clear hLL;have c6:=cval (FX.x S.bel) 6 (.slice a6 p.any.length c6)
   by_cases hkl:k<p.any.length
   ·obtain⟨s,hs⟩:∃s,p.any[k]?=some s:=⟨_,by simp[hkl];rfl⟩
    obtain⟨aq,cq,eq,_,hcs⟩:=HU.out.below (FX.b S.bel);cases eq;obtain⟨gq,oq,haq,hcq⟩:=hcs (by intro h0;rw[h0] at hkl;simp at hkl);subst haq;have q0:=hcq k s hs;have i1:decide ((k:Int)<(p.any.length:Int))=true:=aL (by omega);have i2:(k:Int)<(p.any.length:Int):=by omega
    have hts:gb (p.any.take (k+1))=gb (p.any.take k)++[.mk 2 1 false s []]:=by rw[List.take_add_one,hs];simp[gb]
    have HTS:=hid hts;clear hs hcs hcq hts;have kc:=dr s wr
    go_wp2_with fail
    refine ag kc ?_;rintro e w2 ⟨rfl,hb⟩;replace S:=S.below hb;clear kc hb;have kc:=l7 1 0 4 false s none 0 0 w2
    go_wp2_with fail
    refine ag kc ?_;rintro e w3 ⟨rfl,hb⟩;replace S:=S.below hb;clear kc hb
    go_wp2_with (at_builtin;refine wu S (.mk 2 1 false s []) none 0 0 rfl (.tmp 76) (.tmp 84) rfl rfl rfl (bf.nil _ _) (by omega) ?_;intro a' c' w5 S5)
    exact⟨⟨k+1,by go_num,by omega,by rw[HTS.out,←List.append_assoc,HLL.out];exact S5⟩,by simp[RowKit.intOf];omega⟩
   ·obtain rfl:k=p.any.length:=by omega
    have hLL:=HLL.out;rw[List.take_of_length_le (ah _)] at hLL;replace HLL:=hid hLL;clear hLL;have i1:decide ((p.any.length:Int)<(p.any.length:Int))=false:=an (by omega);have c5:=cval (FX.x S.bel) 5 (.string ⟨p.final.toArray⟩)
    go_upto_if 88 with fail
    obtain⟨B2,hB2⟩:=nmm p.final.isEmpty;rw[hB2];have HB2:=hid hB2;clear hB2 c6
    go_cut [10] from 89 to 95 (fun s10 wy=>EaS (w.heap.size+1+1) zE wx s10 (bL p) wy)
    case first=>
     rcases B2.eq_false_or_eq_true with hb|hb
     ·subst hb
      have hl:bL p=LL:=by have h:=HB2.out;simp at h;rw[yw,HLL.out];simp[Bk,h]
      have S5:=S;rw[←hl] at S5;rw[←hl];have HS5:=hid S5;clear S S5
      go_wp2_with fail
      go_meet
      exact HS5.out
     ·subst hb
      have hl:bL p=LL++[.mk 2 2 false p.final []]:=by have h:=HB2.out;simp at h;rw[yw,HLL.out];simp[Bk,h]
      have kc:=dr p.final wr
      go_wp2_with fail
      refine ag kc ?_;rintro e w2 ⟨rfl,hb⟩;replace S:=S.below hb;clear kc hb;have kc:=l7 2 0 4 false p.final none 0 0 w2
      go_wp2_with fail
      refine ag kc ?_;rintro e w3 ⟨rfl,hb⟩;replace S:=S.below hb;clear kc hb
      go_wp2_with (at_builtin;refine wu S (.mk 2 2 false p.final []) none 0 0 rfl (.tmp 89) (.tmp 94) rfl rfl rfl (bf.nil _ _) (by omega) ?_;intro a' c' w5 S5)
      rw[←hl] at S5;have hl2:LL.length+1=(bL p).length:=by rw[hl];simp
      rw[hl2] at S5⊢
      go_meet
      exact S5
    case rest=>
     clear S c5 hll
     rename_i wz
     have S:=hcut;clear hcut;obtain⟨av,cv,hsh⟩:=S.shape;subst hsh;have c2:=cval (FX.x S.bel) 2 (.string ⟨p.typ.toArray⟩);have kc:=dr p.typ wc
     go_wp2_with fail
     refine ag kc ?_;rintro e w2 ⟨rfl,hb⟩;replace S:=S.below hb;clear kc hb c2;have kc:=dd av (bL p).length cv w2
     go_wp2_with fail
     refine ag kc ?_;rintro e w2b ⟨rfl,hb⟩;replace S:=S.below hb;clear kc hb;have hal:=alb w2b #[I0,.int .i64 4,Bf,.string ⟨p.typ.toArray⟩,Sn,I0,.int .i64 16,.bool true,Es,.slice av (bL p).length cv] 45;have S2:EaS (w.heap.size+1+1) zE wx (.slice (some ⟨w2b.heap.size,0,none⟩) 2 2) [cP p.typ,.mk 0 16 true [] (bL p)] (w2b.alloc (.cells #[I0,.int .i64 4,Bf,.string ⟨p.typ.toArray⟩,Sn,I0,.int .i64 16,.bool true,Es,.slice av (bL p).length cv] 45)):=
      EaS.row (L:=[cP p.typ,.mk 0 16 true [] (bL p)]) (us:=[Sn,.slice av (bL p).length cv]) (S.below hal).box (S.below hal).bel S.lo (bi _ _ _ rfl) S.glt rfl rfl (by simp) ⟨bf.nil _ _,(S.kids.mono fun k hk hl=>⟨hk,hl⟩).below hal,trivial⟩
     have kc:=dd (some ⟨w2b.heap.size,0,none⟩) 2 2 (w2b.alloc (.cells #[I0,.int .i64 4,Bf,.string ⟨p.typ.toArray⟩,Sn,I0,.int .i64 16,.bool true,Es,.slice av (bL p).length cv] 45));clear S hal
     go_wp2_with fail
     refine ag kc ?_;rintro e w2c ⟨rfl,hb⟩;have S3:=S2.below hb;clear kc hb S2
     go_wp2_with (first
      |(refine bh rfl 45 (.tmp 5) (.tmp 102) rfl (w.heap.size+1+1) 45 _ #[I0,.int .i64 16,.bool true,Es,.slice (some ⟨w2b.heap.size,0,none⟩) 2 2] (by rfl) (by rfl) S3.box (by rfl) (by rfl) (by simp[Value.oneCell']) ?_;obtain⟨d1,d2,d3⟩:=S3.done #[I0,.int .i64 16,.bool true,Es,.slice (some ⟨w2b.heap.size,0,none⟩) 2 2];generalize w2c.setRow (w.heap.size+1+1) #[I0,.int .i64 16,.bool true,Es,.slice (some ⟨w2b.heap.size,0,none⟩) 2 2]=w3 at d1 d2 d3⊢;have d0:=cval (FX.x d2) 0 (.int .i64 4))
      |(refine bg rfl 45 (.tmp 5) rfl (w.heap.size+1+1) 45 _ (0,0) (by rfl) d3 _ Tryz.underlying45 rfl (by rfl) ?_))
     have kc:=l7 4 0 16 true [] (some ⟨w2b.heap.size,0,none⟩) 2 2 w3;refine ag kc ?_;rintro e w4 ⟨rfl,hb⟩;have b4:=cL d2 hb;have x4:=FX.o b4;have hq:=setRow_heap w4 w.heap.size _ #[.int .i64 2,.int .i64 4,.bool true,Es,.slice (some ⟨w2b.heap.size,0,none⟩) 2 2] _ _ x4;have hbq:=bm (FX.b b4) (g:=w.heap.size) (ah _) #[.int .i64 2,.int .i64 4,.bool true,Es,.slice (some ⟨w2b.heap.size,0,none⟩) 2 2];have hk4:=(d1.below hb).kept (Q:=fun k=>w.heap.size≤k) fun k hk _=>⟨setRow_other w4 w.heap.size k #[.int .i64 2,.int .i64 4,.bool true,Es,.slice (some ⟨w2b.heap.size,0,none⟩) 2 2] (by have:=FX.sz;omega),by have:=FX.sz;omega⟩
     clear kc d0
     go_wp2_with (refine bh rfl 45 (.tmp 2) (.tmp 106) rfl w.heap.size 45 _ #[.int .i64 2,.int .i64 4,.bool true,Es,.slice (some ⟨w2b.heap.size,0,none⟩) 2 2] (by rfl) (by rfl) x4 (by rfl) (by rfl) (by simp[Value.oneCell']) ?_)
     all_goals exact xT (s:=2) (t:=3) (g:=w.heap.size) rfl rfl rfl rfl hq rfl ⟨⟨_,rfl,hk4⟩,hbq⟩
def FrP(w:World)(E:El)(n:Int)(e:Ending)(w':World):Prop:=(∃u,e=.returned (.tuple #[.agg (elA E u),.int .i64 n])∧bf (fun g=>w.heap.size≤g) w' u E.kids)∧Below w.heap.size w w'
theorem zK:∀(k:Nat) (f r:List Fl),bG k f=some r→r.length+1≤f.length
 |0,_,_,h=>by cases h
 |k+1,[],_,h=>by cases h
 |k+1,p::f,r,h=>by
  unfold bG at h
  split at h
  ·have:=(lL (fR k) _ f r h).length_le
   simp;omega
  ·cases h
theorem de.from{w:World}{g o cap n:Nat}{f:List Fl}(h:de w (.slice (some ⟨g,o,none⟩) f.length cap) f)(hn:n≤f.length)(hne:f.drop n≠[]):de w (.slice (some ⟨g,o+n*7,none⟩) (f.length -n) (cap -n)) (f.drop n):=by
 obtain⟨a,c,e,hc,hr⟩:=h;cases e;refine⟨_,_,by rw[List.length_drop],by rw[List.length_drop];omega,fun _=>⟨g,o+n*7,rfl,fun j p hj=>?_⟩⟩;obtain⟨g',o',e',hcc⟩:=hr (by intro h0;rw[h0] at hne;simp at hne);cases e';rw[List.getElem?_drop] at hj;have:=hcc (n+j) p hj;rw[show o+(n+j)*7=o+n*7+j*7 by rw[Nat.add_mul];omega] at this;exact this
theorem Ap(T:Int)(hT:T=0∨T=1∨T=2)(k:Nat)(IH:∀(f r:List Fl) (v:Value) (w:World),de w v f→eP f→f.length≤100→bG k f=some r→Calls Tryz.prog 131 #[v] w (FrP w (cD k f).1 ((f.length:Int) -(r.length:Int))))
  (p:Fl) (f:List Fl) (v:Value) (w:World) (hv:de w v (p::f)) (hok:eP (p::f)) (hl:(p::f).length≤100) (r:List Fl) (hn:0≤p.n) (h:nx (bG k) p.n.toNat f=some r) (hc:p.op=T):
  Calls Tryz.prog 131 #[v] w (FrP w (.mk 2 T true [] (cT (cD k) p.n.toNat f).1) (((p::f).length:Int) -(r.length:Int))):=by
 obtain⟨M,hM⟩:=nmm p.n.toNat;have hpn:p.n=(M:Int):=by omega
 rw[hM] at h⊢;obtain⟨ALL,hALL⟩:=nmm ((cT (cD k) M f).1);rw[hALL];obtain⟨HAL,HIT,HOK,HIH,HV,HPN⟩:=Cy hALL h hok IH hv hpn;clear hALL h hok IH hM hpn hn;obtain⟨a,cap,rfl,hcap,hcells⟩:=hv;obtain⟨g0,o,ha,hcc⟩:=hcells (by simp);subst ha;obtain⟨q0,q1,q2,q3,q4,q5,u6,q6,hu⟩:=hcc 0 p rfl;simp only[Nat.zero_mul,Nat.add_zero] at q0 q1 q2 q3 q4 q5 q6;rw[hc] at q0;obtain⟨a6,c6,hf6,_,_⟩:=id hu;subst hf6;have ba:=alb w zE 45;have xa:=alz w zE 45;have sa:(w.alloc (.cells zE 45)).heap.size=w.heap.size+1:=by simp
 have i0:(0:Int)<((p::f).length:Int):=by rw[aG];omega
 have hlc:(p::f).length=f.length+1:=rfl;obtain⟨LN,hLN⟩:=nmm ((p::f).length);have HLN:=hid hLN;rw[hLN] at i0 hcap hlc hl⊢;have HLC:=hid hlc;clear hLN hlc
 go_enter Tryz.func131,Tryz.ntmps131
 go_upto_region 1 with fail
 replace q0:=(ba.cell (bj q0)).trans q0;replace q1:=(ba.cell (bj q1)).trans q1;replace q2:=(ba.cell (bj q2)).trans q2;replace q3:=(ba.cell (bj q3)).trans q3;replace q4:=(ba.cell (bj q4)).trans q4;replace q5:=(ba.cell (bj q5)).trans q5;replace q6:=(ba.cell (bj q6)).trans q6;generalize w.alloc (.cells Ze 45)=wa at ba xa sa q0 q1 q2 q3 q4 q5 q6⊢
 go_upto_region 4 with fail
 have FX:FxS w (flA T p (.slice a6 p.any.length c6)) (wa.alloc (.cells (flA T p (.slice a6 p.any.length c6)) 60)):=
  ⟨(alloc_old _ _ _ (by omega)).trans xa,bi _ _ _ sa.symm,ba.alloc (by omega) _,by simp;omega⟩
 generalize wa.alloc (.cells #[.int .i64 T,.int .i64 p.n,.string ⟨p.typ.toArray⟩,.string ⟨p.value.toArray⟩,.string ⟨p.init.toArray⟩,.string ⟨p.final.toArray⟩,.slice a6 p.any.length c6] 60)=wx at FX⊢;have S:EaS (w.heap.size+1+1) zE wx (Sn) [] (wx.alloc (.cells zE 45)):=EaS.nil (bi _ _ _ FX.sz.symm) ((ar _ _).alloc (ah _) _) (by have:=FX.sz;omega);generalize wx.alloc (.cells Ze 45)=w1 at S⊢;clear q0 q1 q2 q3 q4 q5 q6 ba xa sa;have c0:=cval (FX.x S.bel) 0 (.int .i64 T);have kc:=dd none 0 0 w1;have cases3:((T==0)=true)∨((T==0)=false∧(T==1)=true)∨((T==0)=false∧(T==1)=false∧(T==2)=true):=by
  rcases hT with h|h|h<;>subst h
  ·exact .inl rfl
  ·exact .inr (.inl ⟨rfl,rfl⟩)
  ·exact .inr (.inr ⟨rfl,rfl,rfl⟩)
 clear hT;rcases cases3 with b0|⟨b0,b1⟩|⟨b0,b1,b2⟩
 all_goals
  go_wp2_with fail
  refine ag kc ?_;rintro e w2 ⟨rfl,hb⟩;have S2:=S.below hb;obtain⟨_,d2,d3⟩:=S2.done #[I0,.int .i64 16,.bool true,Es,Sn];clear kc hb S c0
  go_wp2_with (refine bh rfl 45 (.tmp 5) (.tmp 29) rfl (w.heap.size+1+1) 45 _ #[I0,.int .i64 16,.bool true,Es,Sn] (by rfl) (by rfl) S2.box (by rfl) (by rfl) (by simp[Value.oneCell']) ?_;generalize w2.setRow (w.heap.size+1+1) #[I0,.int .i64 16,.bool true,Es,Sn]=w3 at d2 d3⊢)
  have S3:EaS (w.heap.size+1+1) #[I0,.int .i64 16,.bool true,Es,Sn] wx (Sn) [] w3:=EaS.nil d3 d2 (by have:=FX.sz;omega);have HS3:=hid S3;clear S2 d2 d3 S3
  go_loopw [6,7] (fun s6 s7 wr=>∃(n:Nat) (v:Value) (L:List El),s7=.int .i64 (L.length:Int)∧s6=.int .i64 (n:Int)∧L.length≤M∧L.length+1≤n∧n≤LN∧EaS (w.heap.size+1+1) #[I0,.int .i64 16,.bool true,Es,v] wx v L wr∧nx (bG k) (M -L.length) ((p::f).drop n)=some r∧L++(cT (cD k) (M -L.length) ((p::f).drop n)).1=ALL) (fun _ i _=>M -(RowKit.intOf i).toNat)
  case atStart=>exact⟨1,_,[],rfl,rfl,Nat.zero_le _,ah _,by have:=HLC.out;omega,HS3.out,HIT.out,HAL.out⟩
  case round=>
   clear HS3;obtain⟨n,v,L,rfl,rfl,hLM,hL1,hnl,S,hit,hall⟩:=hrel;obtain⟨av,cv,hsh⟩:=S.shape;subst hsh;obtain⟨LL,hLL⟩:=nmm L.length;rw[hLL] at hLM hL1 hit hall S;rw[hLL];have c1:wr.cell? ⟨w.heap.size+1,1,none⟩=some (.int .i64 (M:Int)):=by rw[←HPN.out];exact(ap (FX.x S.bel) 1).trans rfl
   have HLL:=hid hLL
   by_cases hkl:LL<M
   ·obtain⟨m,hm⟩:∃m,M -LL=m+1:=⟨M -LL -1,by omega⟩
    rw[hm] at hit hall;simp only[nx,cT] at hit hall;obtain⟨q,hq⟩:∃q,bG k ((p::f).drop n)=some q:=by
     cases hw:bG k ((p::f).drop n) with
     |none=>rw[hw] at hit;cases hit
     |some q=>exact⟨q,rfl⟩
    rw[hq] at hit;simp only at hit;have i1:decide ((LL:Int)<(M:Int))=true:=aL (by omega);have i2:(LL:Int)<(M:Int):=by omega
    have hs1:(n:Int)≤(LN:Int):=by omega
    have hs2:(0:Int)≤(n:Int):=by omega
    have hs3:(LN:Int)≤(cap:Int):=by omega
    obtain⟨HQ,HIT2,HAL2,HS⟩:=Ci hq hit hall S;clear S hq hit hall hLL;obtain⟨fi,hfi⟩:=nmm ((p::f).drop n);have hfl:fi.length=LN -n:=by rw[←hfi,List.length_drop,HLN.out]
    have hfs:fi<:+(p::f):=by rw[←hfi];exact List.drop_suffix _ _
    have hfn:fi≠[]:=by
     intro h0;have hq:=HQ.out;rw[hfi,h0] at hq;cases k<;>cases hq
    have hfm:de wr (.slice (some ⟨g0,o+n*7,none⟩) (LN -n) (cap -n)) fi:=by
     have:=de.from (n:=n) (HV.out.below (FX.b HS.out.bel)) (by rw[HLN.out];exact hnl) (by rw[hfi];exact hfn)
     rw[hfi,HLN.out] at this;exact this
    have hq:=HQ.out;have hit:=HIT2.out;have hall:=HAL2.out;rw[hfi] at hq hall;have hqs:=fR k fi q hq;have hql:=hqs.length_le;have hqd:(p::f).drop (n+(fi.length -q.length))=q:=by
     rw[←List.drop_drop,hfi];exact(List.suffix_iff_eq_drop.1 hqs).symm
    have hq2:=xw k fi q hq;rw[hq2] at hall;obtain⟨D,hD⟩:=nmm (fi.length -q.length);rw[hD] at hqd;have kc2:=HIH.out fi q _ wr hfm (HOK.out.suf hfs) (by have:=hfs.length_le;rw[HLN.out] at this;omega) hq;rw[show(fi.length:Int) -(q.length:Int)=(D:Int) by omega] at kc2;obtain⟨EE,hEE⟩:=nmm ((cD k fi).1);rw[hEE] at kc2 hall;rw[←hqd] at hit hall;obtain⟨HIT3,HAL3⟩:=Cg hit hall;have hDn:n+D≤LN:=by omega
    have hD1:1≤D:=by have:=zK k fi q hq;omega
    have hcn:¬cap=n:=by
     have h0:=List.length_pos_iff.2 hfn
     omega
    clear hq hit hall hqs hql hqd hq2 hEE hD hfi hfl hfs hfn hfm HQ HIT2 HAL2
    go_wp2_with fail
    refine ag kc2 ?_;rintro e w2 ⟨⟨u2,rfl,hu2⟩,hb2⟩;obtain⟨oc,ot,okk,ob,oks⟩:=EE;obtain⟨a2,c2,hs2⟩:=hu2.shape;subst hs2;simp only[elA,El.cls,El.tag,El.cons,El.bytes,El.kids] at hu2⊢;have hke:=HS.out.fresh hu2;have S2:=HS.out.below hb2;have hal:=alb w2 #[.int .i64 oc,.int .i64 ot,.bool okk,.string ⟨ob.toArray⟩,.slice a2 oks.length c2] 45;have S3:=S2.below hal;have hke3:=hke.below hal;have r8:=alz w2 #[.int .i64 oc,.int .i64 ot,.bool okk,.string ⟨ob.toArray⟩,.slice a2 oks.length c2] 45;clear kc2 hu2 hb2 hke S2 hal c1 HS
    go_upto_region 14 with fail
    generalize w2.alloc (.cells #[.int .i64 oc,.int .i64 ot,.bool okk,.string ⟨ob.toArray⟩,.slice a2 oks.length c2] 45)=w3 at S3 hke3 r8⊢;have s4:=cval S3.box 4 (.slice av LL cv)
    go_wp2_with (first
     |(refine bg rfl 45 (.tmp 8) rfl w2.heap.size 45 _ (0,0) (by rfl) r8 _ Tryz.underlying45 rfl (by rfl) ?_)
     |(at_builtin;refine wu S3 (.mk oc ot okk ob oks) a2 oks.length c2 rfl (.tmp 44) (.tmp 46) rfl rfl rfl hke3 (by rw[HLL.out];omega) ?_;rw[HLL.out];intro a' c' w5 S5;clear S3 hke3 s4 r8;have z:=aj S5.box 4;have s5:=cval S5.box 4 (.slice av LL cv);have HS6:=hid (show EaS (w.heap.size+1+1) #[I0,.int .i64 16,.bool true,Es,.slice a' (LL+1) c'] wx (.slice a' (LL+1) c') (L++[.mk oc ot okk ob oks]) (w5.setCell ⟨(w.heap.size+1+1),4,none⟩ (.slice a' (LL+1) c')) from S5.set 4 (.slice a' (LL+1) c'));clear S5))
    have hl1:(L++[El.mk oc ot okk ob oks]).length=LL+1:=by rw[bd,HLL.out];rfl
    exact⟨⟨n+D,.slice a' (LL+1) c',L++[.mk oc ot okk ob oks],by rw[hl1];rfl,by go_num,by rw[hl1];exact hkl,by rw[hl1];omega,hDn,HS6.out,by rw[hl1,show M -(LL+1)=m by omega];exact HIT3.out,by rw[hl1,show M -(LL+1)=m by omega,List.append_assoc];exact HAL3.out⟩,by simp only[RowKit.intOf];omega⟩
   ·obtain rfl:LL=M:=by omega
    rw[Nat.sub_self] at hit hall;simp only[nx,cT,Option.some.injEq,List.append_nil] at hit hall;have hrl:(LN:Int) -(r.length:Int)=(n:Int):=by rw[←hit,List.length_drop,HLN.out];omega
    have i1:decide ((LL:Int)<(LL:Int))=false:=an (by omega);have d0:=cval (FX.x S.bel) 0 (.int .i64 T);have d1:bf (fun k=>wx.heap.size≤k) wr (.slice av LL cv) L:=S.kids.mono fun k hk _=>by have:=FX.sz;omega
    have d2:=S.bel;have d3:=S.box;have HRL:=hid hrl;clear hit S hrl;subst hall
    go_wp2_with (refine bg rfl 45 (.tmp 5) rfl (w.heap.size+1+1) 45 _ (0,0) (by rfl) d3 _ Tryz.underlying45 rfl (by rfl) ?_)
    have kc:=l7 T 0 16 true [] (av) LL cv wr;refine ag kc ?_;rintro e w4 ⟨rfl,hb⟩;have b4:=cL d2 hb;have x4:=FX.o b4;have hq:=setRow_heap w4 w.heap.size _ #[.int .i64 2,.int .i64 T,.bool true,Es,.slice av LL cv] _ _ x4;have hbq:=bm (FX.b b4) (g:=w.heap.size) (ah _) #[.int .i64 2,.int .i64 T,.bool true,Es,.slice av LL cv];have hk4:=(d1.below hb).kept (Q:=fun k=>w.heap.size≤k) fun k hk _=>⟨setRow_other w4 w.heap.size k #[.int .i64 2,.int .i64 T,.bool true,Es,.slice av LL cv] (by have:=FX.sz;omega),by have:=FX.sz;omega⟩
    clear kc d0
    go_wp2_with (refine bh rfl 45 (.tmp 2) (.tmp 106) rfl w.heap.size 45 _ #[.int .i64 2,.int .i64 T,.bool true,Es,.slice av LL cv] (by rfl) (by rfl) x4 (by rfl) (by rfl) (by simp[Value.oneCell']) ?_)
    all_goals exact xT (s:=2) (t:=3) (g:=w.heap.size) rfl rfl rfl rfl hq rfl ⟨⟨_,by rw[HRL.out];rfl,hk4⟩,hbq⟩
theorem xP:∀(k:Nat) (f r:List Fl) (v:Value) (w:World),de w v f→eP f→f.length≤100→bG k f=some r→Calls Tryz.prog 131 #[v] w (FrP w (cD k f).1 ((f.length:Int) -(r.length:Int)))
 |0,_,_,_,_,_,_,_,h=>by cases h
 |k+1,[],_,_,_,_,_,_,h=>by cases h
 |k+1,p::f,r,v,w,hv,hok,hl,h=>by
  unfold bG at h
  by_cases hs:bU p=true
  ·rw[if_pos hs] at h
   unfold cD;rcases od hs with⟨hn,hc⟩|⟨hn,hc⟩
   ·rw[if_pos hc]
    exact Ap p.op hc k (xP k) p f v w hv hok hl r hn h rfl
   ·have hnc:¬(p.op=0∨p.op=1∨p.op=2):=by
     rcases hc with hc|hc|hc
     ·rw[hc];decide
     ·rw[hc];decide
     ·intro h2;apply hc;rcases h2 with h2|h2|h2<;>rw[h2]<;>decide
    rw[if_neg hnc];have hr:f=r:=by rw[hn] at h;simpa[nx] using h
    subst hr;have h1:((p::f).length:Int) -(f.length:Int)=1:=by rw[aG];omega
    rw[h1];rcases hc with hc|hc|hc
    ·have e:er p=.mk 2 7 false p.typ []:=by unfold er;rw[if_pos hc]
     rw[e];exact An p f v w hv hc
    ·have e:er p=.mk 2 4 true [] [cP p.typ,.mk 0 16 true [] (bL p)]:=by unfold er;rw[if_neg (by rw[hc];decide),if_pos hc];rfl
     rw[e];exact Ao p f v w hv (hok.2 p (by simp)).1 hc
    ·have e:er p=.mk 2 p.op true [] [cP p.typ,cP p.value]:=by
      unfold er;rw[if_neg (fun q=>hc (by rw[q];decide)),if_neg (fun q=>hc (by rw[q];decide))];rfl
     rw[e];exact yR p f v w hv hc
  ·rw[if_neg hs] at h;cases h
theorem zq(f:List Fl)(v:Value)(w:World)(hv:de w v f)(hok:eP f)(hf:dz f=true):
  Calls Tryz.prog 81 #[v] w fun e w'=>(∃u,e=.returned (.agg (elA (cD 20 f).1 u))∧bf (fun g=>w.heap.size≤g) w' u (cD 20 f).1.kids)∧Below w.heap.size w w':=by
 simp only[dz,aI,aT] at hf;obtain⟨h5,h6⟩:=hf;have hw:bG 20 f=some []:=by
  split at h6
  ·assumption
  ·cases h6
 have b1:=alb w zE 45;have x1:=alz w zE 45;have kc:=xP 20 f [] v _ (hv.below b1) hok h5 hw;obtain⟨EE,hEE⟩:=nmm ((cD 20 f).1);rw[hEE] at kc⊢;clear h5 h6 hw hv hok hEE
 go_enter Tryz.func81,Tryz.ntmps81
 go_wp2_with fail
 refine ag kc ?_;rintro e w2 ⟨⟨u2,rfl,hu2⟩,hb⟩;obtain⟨oc,ot,okk,ob,oks⟩:=EE;obtain⟨a2,c2,hs2⟩:=hu2.shape;subst hs2;simp only[elA,El.cls,El.tag,El.cons,El.bytes,El.kids] at hu2⊢;have hk1:w.heap.size+1≤w2.heap.size:=by have:=hb.size;simp at this;omega
 have hu3:bf (fun k=>w.heap.size<k) w2 (.slice a2 oks.length c2) oks:=hu2.mono fun k hk _=>by simp at hk;omega
 have hal:=alb w2 #[.int .i64 oc,.int .i64 ot,.bool okk,.string ⟨ob.toArray⟩,.slice a2 oks.length c2] 45;have x2:=(hal.block _ (by omega)).trans ((bkk hb x1));have b2:=cL (cL b1 hb) hal;have hq:=setRow_heap (w2.alloc (.cells #[.int .i64 oc,.int .i64 ot,.bool okk,.string ⟨ob.toArray⟩,.slice a2 oks.length c2] 45)) w.heap.size _ #[.int .i64 oc,.int .i64 ot,.bool okk,.string ⟨ob.toArray⟩,.slice a2 oks.length c2] _ _ x2;have hbq:=bm b2 (g:=w.heap.size) (ah _) #[.int .i64 oc,.int .i64 ot,.bool okk,.string ⟨ob.toArray⟩,.slice a2 oks.length c2];have hk2:=(hu3.below hal).kept (Q:=fun k=>w.heap.size≤k) fun k hk _=>⟨setRow_other (w2.alloc (.cells #[.int .i64 oc,.int .i64 ot,.bool okk,.string ⟨ob.toArray⟩,.slice a2 oks.length c2] 45)) w.heap.size k #[.int .i64 oc,.int .i64 ot,.bool okk,.string ⟨ob.toArray⟩,.slice a2 oks.length c2] (by omega),by omega⟩
 clear kc hb x1 b1 hu2 hu3 hal
 go_wp2_with (first|(refine bg rfl 45 (.tmp 3) rfl w2.heap.size 45 _ (0,0) (by rfl) (bi _ _ _ rfl) _ Tryz.underlying45 rfl (by rfl) ?_)|refine bh rfl 45 (.tmp 2) (.tmp 10) rfl w.heap.size 45 _ #[.int .i64 oc,.int .i64 ot,.bool okk,.string ⟨ob.toArray⟩,.slice a2 oks.length c2] (by rfl) (by rfl) x2 (by rfl) (by rfl) (by simp[Value.oneCell']) ?_)
 all_goals exact le (s:=2) (g:=w.heap.size) rfl rfl rfl hq rfl ⟨⟨_,rfl,hk2⟩,hbq⟩
theorem yx(t:List UInt8)(vs:Value)(ls:List (List UInt8))(w:World)(h:ct w vs ls)(hl:ls.length≤100000000):
  Calls Tryz.prog 83 #[.string ⟨t.toArray⟩,vs] w fun e w'=>(∃u,e=.returned (.agg (elA (bI (t,ls)) u))∧bf (fun g=>w.heap.size≤g) w' u (bI (t,ls)).kids)∧Below w.heap.size w w':=by
 have b1:=alb w zE 45;have x1:=alz w zE 45;obtain⟨KS,HLL⟩:=Cg (fun W (hW:Below w.heap.size w W)=>yu vs ls W (h.below hW) hl) hl;clear h hl
 go_enter Tryz.func83,Tryz.ntmps83
 go_upto_region 1 with fail
 generalize w.alloc (.cells Ze 45)=w1 at b1 x1⊢;have kc:=dr t w1
 go_wp2_with fail
 refine ag kc ?_;rintro e w2 ⟨rfl,hb⟩;replace x1:=bkk hb x1;replace b1:=cL b1 hb;clear kc hb;have kc:=KS.out w2 b1
 go_wp2_with fail
 refine ag kc ?_;rintro e w3 ⟨⟨u3,rfl,hu3⟩,hb⟩;obtain⟨a3,c3,rfl⟩:=hu3.shape;replace hu3:bf (fun k=>w.heap.size<k) w3 (.slice a3 (ls.map cP).length c3) (ls.map cP):=hu3.mono fun k hk _=>by have:=(gl x1);omega
 replace x1:=bkk hb x1;replace b1:=cL b1 hb;simp only[elA,El.cls,El.tag,El.cons,El.bytes,List.length_map] at hu3⊢;clear kc hb KS;have kc:=l9 0 16 true [] a3 ls.length c3 0 17 w3
 go_wp2_with fail
 refine ag kc ?_;rintro e w4 ⟨rfl,hb⟩;replace hu3:=hu3.below hb;replace x1:=bkk hb x1;replace b1:=cL b1 hb;clear kc hb;have hb:=alb w4 #[I0,.int .i64 4,Bf,.string ⟨t.toArray⟩,Sn,I0,.int .i64 17,.bool true,Es,.slice a3 ls.length c3] 45;have S:EaS w.heap.size zE w (.slice (some ⟨w4.heap.size,0,none⟩) 2 2) [cP t,.mk 0 17 true [] (ls.map cP)] (w4.alloc (.cells #[I0,.int .i64 4,Bf,.string ⟨t.toArray⟩,Sn,I0,.int .i64 17,.bool true,Es,.slice a3 ls.length c3] 45)):=
  EaS.row (L:=[cP t,.mk 0 17 true [] (ls.map cP)]) (us:=[Sn,.slice a3 ls.length c3]) ((bkk hb x1)) (cL b1 hb) (ah _) (bi _ _ _ rfl) (gl x1) rfl rfl (by simp) ⟨bf.nil _ _,(hu3.mono fun k hk hl=>⟨hk,hl⟩).below hb,trivial⟩
 have kc:=dd (some ⟨w4.heap.size,0,none⟩) 2 2 (w4.alloc (.cells #[I0,.int .i64 4,Bf,.string ⟨t.toArray⟩,Sn,I0,.int .i64 17,.bool true,Es,.slice a3 ls.length c3] 45));clear hb x1 b1 hu3
 go_wp2_with fail
 refine ag kc ?_;rintro e w5 ⟨rfl,hb⟩;have S2:=S.below hb;obtain⟨d1,d2,d3⟩:=S2.done #[I0,.int .i64 16,.bool true,Es,.slice (some ⟨w4.heap.size,0,none⟩) 2 2];clear kc S hb
 go_wp2_with (refine bh rfl 45 (.tmp 4) (.tmp 11) rfl w.heap.size 45 _ #[I0,.int .i64 16,.bool true,Es,.slice (some ⟨w4.heap.size,0,none⟩) 2 2] (by rfl) (by rfl) S2.box (by rfl) (by rfl) (by simp[Value.oneCell']) ?_)
 all_goals exact le (s:=4) (g:=w.heap.size) rfl rfl rfl d3 rfl ⟨⟨_,rfl,d1⟩,d2⟩
theorem ya(vs:Value)(al:List (List UInt8×List (List UInt8)))(w:World)(h:eG w vs al)(hok:pD al):
  Calls Tryz.prog 84 #[vs] w fun e w'=>(∃u,e=.returned (.agg (elA (.mk 0 16 true [] (al.map bI)) u))∧bf (fun g=>w.heap.size≤g) w' u (al.map bI))∧Below w.heap.size w w':=by
 obtain⟨a,cap,rfl,hcap,hcells⟩:=h;have hlen0:al.length≤100000000:=hok.1;obtain⟨HOK,HC⟩:=Cg hok hcells;have S0:EaS w.heap.size zE w (Sn) [] (w.alloc (.cells zE 45)):=EaS.nil (bi _ _ _ rfl) ((ar _ _).alloc (ah _) _) (ah _);clear hcells hok
 go_enter Tryz.func84,Tryz.ntmps84
 go_upto_region 1 with fail
 generalize w.alloc (.cells Ze 45)=w1 at S0⊢;have HS0:=hid S0;clear S0
 go_wp2_with fail
 go_loopw [3,4] (fun v i wr=>∃k:Nat,i=.int .i64 (k:Int)∧k≤al.length∧EaS w.heap.size zE w v ((al.take k).map bI) wr) (fun _ i _=>al.length -(RowKit.intOf i).toNat)
 case atStart=>exact⟨0,rfl,Nat.zero_le _,HS0.out⟩
 case round=>
  clear HS0;obtain⟨k,rfl,hk,S⟩:=hrel;obtain⟨av,cv,hsh⟩:=S.shape;subst hsh;have hlen:((al.take k).map bI).length=k:=by simp;omega
  rw[hlen] at S⊢
  by_cases hkl:k<al.length
  ·obtain⟨x,hx⟩:∃x,al[k]?=some x:=⟨_,by simp[hkl];rfl⟩
   obtain⟨g,o,ha,hc⟩:=HC.out (by intro h0;rw[h0] at hkl;simp at hkl);subst ha;obtain⟨q0,u,q1,hu⟩:=hc k x hx;have hxl:=(HOK.out.2 x (List.mem_of_getElem? hx)).2.1;have S':=S.below (ar wr.heap.size wr).drew;have t0:wr.drew.cell? ⟨g,o+k*2,none⟩=some (.string ⟨x.1.toArray⟩):=(S.bel.cell (bj q0)).trans q0;have t1:wr.drew.cell? ⟨g,o+k*2+1,none⟩=some u:=(S.bel.cell (bj q1)).trans q1;have kc:=yx x.1 u x.2 wr.drew (hu.below S'.bel) hxl;have i1:decide ((k:Int)<(al.length:Int))=true:=aL (by omega);have i2:(k:Int)<(al.length:Int):=by omega
   obtain⟨au,cu,hfu,_,_⟩:=hu;subst hfu;obtain⟨HO,HX,HQ⟩:=Ch S' hx (show w.cell? ⟨g,o+k*2,none⟩=some (.string ⟨x.1.toArray⟩)∧w.cell? ⟨g,o+k*2+1,none⟩=some (.slice au x.2.length cu) from⟨q0,q1⟩);clear hc hx S S' q0 q1
   go_wp2_with fail
   refine aR (S:=fun w'=>w'.cell? ⟨g,o+k*2,none⟩=some (.string ⟨x.1.toArray⟩)∧w'.cell? ⟨g,o+k*2+1,none⟩=some (.slice au x.2.length cu)) (by kernel_rfl) ?_
   change wpAnyH _ _ _ _ _ _ _ _ wr.drew
   have T:wr.drew.cell? ⟨g,o+k*2,none⟩=some (.string ⟨x.1.toArray⟩)∧wr.drew.cell? ⟨g,o+k*2+1,none⟩=some (.slice au x.2.length cu):=⟨t0,t1⟩;clear t0 t1;generalize wr.drew=w2 at T HO kc⊢;refine tn 0 (.slice av k cv) rfl (fun w' hS=>by go_simp) T ?_;refine tn 1 (.slice (some ⟨g,o,none⟩) al.length cap) rfl (fun w' hS=>by go_simp) T ?_;refine tn 2 (.int .i64 (k:Int)) rfl (fun w' hS=>by go_simp) T ?_;refine tn 6 (.slice (some ⟨g,o,none⟩) al.length cap) rfl (fun w' hS=>by go_simp) T ?_;refine tn 7 (.int .i64 (k:Int)) rfl (fun w' hS=>by go_simp) T ?_;refine tp 3 ⟨g,o+k*2,none⟩ rfl T ?_;refine tp 8 ⟨g,o+k*2,none⟩ rfl T ?_;refine tp 4 ⟨g,o+k*2,none⟩ rfl T ?_;refine tp 9 ⟨g,o+k*2+1,none⟩ rfl T ?_;refine tn 5 (.string ⟨x.1.toArray⟩) rfl (fun w' hS=>by obtain⟨q0,q1⟩:=hS;go_simp) T ?_;refine tn 10 (.slice au x.2.length cu) rfl (fun w' hS=>by obtain⟨q0,q1⟩:=hS;go_simp) T ?_;refine ao 11 rfl (fun K hK=>?_);go_simp;go_wp2_with fail
   refine ag kc ?_;rintro e w3 ⟨⟨u3,rfl,hu3⟩,hb⟩;obtain⟨a3,c3,rfl⟩:=hu3.shape;have hke:=HO.out.fresh hu3;have S3:=HO.out.below hb;have T3:w3.cell? ⟨g,o+k*2,none⟩=some (.string ⟨x.1.toArray⟩)∧w3.cell? ⟨g,o+k*2+1,none⟩=some (.slice au x.2.length cu):=⟨(hb.cell (bj T.1)).trans T.1,(hb.cell (bj T.2)).trans T.2⟩;clear kc hb hu3 HO T;refine hK _ _ T3 ?_;clear hK K
   have hal:Below w3.heap.size w3 (w3.alloc (.cells (elA (bI x) (.slice a3 (bI x).kids.length c3)) 45)):=(ar _ _).alloc (ah _) _;have T4:(w3.alloc (.cells (elA (bI x) (.slice a3 (bI x).kids.length c3)) 45)).cell? ⟨g,o+k*2,none⟩=some (.string ⟨x.1.toArray⟩)∧(w3.alloc (.cells (elA (bI x) (.slice a3 (bI x).kids.length c3)) 45)).cell? ⟨g,o+k*2+1,none⟩=some (.slice au x.2.length cu):=⟨(hal.cell (bj T3.1)).trans T3.1,(hal.cell (bj T3.2)).trans T3.2⟩;refine ao 12 rfl (kks T4 ?_);clear hal T3 T4;refine ao 13 rfl (fun K hK=>?_);refine wU S3 (bI x) a3 _ c3 (.tmp 11) (.tmp 23) rfl rfl rfl hke (by omega) ?_;rw[hlen];intro a' c' w5 S5;have hts:(al.take (k+1)).map bI=(al.take k).map bI++[bI x]:=by rw[List.take_add_one,HX.out];simp
   rw[←hts] at S5;have T5:w5.cell? ⟨g,o+k*2,none⟩=some (.string ⟨x.1.toArray⟩)∧w5.cell? ⟨g,o+k*2+1,none⟩=some (.slice au x.2.length cu):=⟨(S5.bel.cell (bj HQ.out.1)).trans HQ.out.1,(S5.bel.cell (bj HQ.out.2)).trans HQ.out.2⟩;have HS5:=hid S5;clear S5 S3 hke hts;refine hK _ _ T5 ?_;clear hK K
   refine ao 14 rfl (kks T5 ?_);refine bE (by kernel_rfl) ?_ _;simp only[Exit.inBlock,Exit.then];refine‹∀(a:Act) (w:World),Code.wp _ _ _ a w→_› _ _ ?_
   go_wp2_with fail
   exact⟨⟨k+1,by go_num,by omega,HS5.out⟩,by simp[RowKit.intOf];omega⟩
  ·obtain rfl:k=al.length:=by omega
   rw[List.take_of_length_le (ah _)] at S;have kc:=dd av al.length cv wr;have i1:decide ((al.length:Int)<(al.length:Int))=false:=an (by omega);have HO:=hid S;clear S
   go_wp2_with fail
   refine ag kc ?_;rintro e w2 ⟨rfl,hb2⟩;have S2:=HO.out.below hb2;obtain⟨d1,d2,d3⟩:=S2.done #[I0,.int .i64 16,.bool true,Es,.slice av al.length cv];clear kc HO hb2
   go_wp2_with (refine bh rfl 45 (.tmp 2) (.tmp 26) rfl w.heap.size 45 _ #[I0,.int .i64 16,.bool true,Es,.slice av al.length cv] (by rfl) (by rfl) S2.box (by rfl) (by rfl) (by simp[Value.oneCell']) ?_)
   all_goals exact le (s:=2) (g:=w.heap.size) rfl rfl rfl d3 rfl ⟨⟨_,rfl,d1⟩,d2⟩
theorem tr(x:OpX)(A:Array Value)(w:World)(k:Int)(hL:∀p∈opL,p.2≠k)(els:List El)(hs:SmL els)(hl:els.length≤1000000000)(hx:x.M=w.heap.size)(hA28:A.size=28)
  (h1:A[1]?=some (.int .i64 k)) (h2:A[2]?=some (.string ⟨x.dn.toArray⟩)) (h13:A[13]?=some x.vm) (h14:A[14]?=some x.va) (h19:A[19]?=some (.string ⟨x.typ.toArray⟩)) (h20:A[20]?=some (.string ⟨x.value.toArray⟩))
  (styp:x.typ.length≤1000000000) (sval:x.value.length≤1000000000)
  (hmods:∀w',Below w.heap.size w w'→Calls Tryz.prog 121 #[x.vm] w' fun e w''=>(∃v,e=.returned v∧ti x.lm v w'')∧Below w'.heap.size w' w'')
  (hattrs:∀w',Below w.heap.size w w'→Calls Tryz.prog 122 #[x.va] w' fun e w''=>(∃v,e=.returned v∧ti x.la v w'')∧Below w'.heap.size w' w'')
  (hans:∀w',Below w.heap.size w w'→Calls Tryz.prog 127 #[.agg A] w' fun e w''=>(∃v a n c,e=.returned v∧v=.slice a n c∧bf (fun _=>True) w'' v els)∧Below w'.heap.size w' w''):
  Calls Tryz.prog 73 #[.agg A] w fun e w'=>(∃u,e=.returned (.agg (elA (.mk 1 k true [] els) u))∧bf (fun g=>w.heap.size≤g) w' u els)∧Below w.heap.size w w':=by
 obtain⟨PR,hPR⟩:∃PR:Ending→World→Prop,PR=fun e w'=>(∃u,e=.returned (.agg (elA (.mk 1 k true [] els) u))∧bf (fun g=>w.heap.size≤g) w' u els)∧Below w.heap.size w w':=⟨_,rfl⟩
 rw[←hPR];have HPR:=hid hPR;clear hPR;have b1:Below w.heap.size w ((w.alloc (.cells A 28)).alloc (.cells Ze 45)):=((ar _ _).alloc (ah _) _).alloc (by simp) _;have m1:((w.alloc (.cells A 28)).alloc (.cells Ze 45)).heap[w.heap.size]?=some (.cells A 28 (0,0)):=(alloc_old _ _ _ (by simp)).trans (bi _ _ _ rfl);have t1:((w.alloc (.cells A 28)).alloc (.cells Ze 45)).heap[w.heap.size+1]?=some (.cells Ze 45 (0,0)):=bi _ _ _ (by simp);have z1:((w.alloc (.cells A 28)).alloc (.cells Ze 45)).heap.size=w.heap.size+2:=by simp
 have Z1:=hid z1;clear z1;have G1:=hid h1;clear h1;have HC:=hid hans;clear hans;have M:OpM x ((w.alloc (.cells A 28)).alloc (.cells Ze 45)):=by
  have hcell:∀j,((w.alloc (.cells A 28)).alloc (.cells Ze 45)).cell? ⟨x.M,j,none⟩=A[j]?:=fun j=>by rw[hx];exact ap m1 j
  refine⟨(hcell 2).trans h2,(hcell 13).trans h13,(hcell 14).trans h14,(hcell 19).trans h19,(hcell 20).trans h20,fun w' hb=>hmods w' ((btt b1 hb)),fun w' hb=>hattrs w' ((btt b1 hb)),styp,sval⟩
 clear h2 h13 h14 h19 h20 styp sval hmods hattrs
 go_enter Tryz.func73,Tryz.ntmps73
 go_upto_region 1 with fail
 generalize(w.alloc (.cells A 28)).alloc (.cells Ze 45)=w1 at b1 m1 t1 Z1 M⊢
 go_upto_region 2 with fail
 refine wp_region_any (by kernel_rfl) ?_;refine lJ (x:=x) (E:=.pointer (some ⟨w.heap.size+1,0,none⟩)) (w0:=w1) M (by kernel_rfl) (by kernel_rfl) (by kernel_rfl) _ _ rfl (by rw[hx];rfl) rfl rfl rfl (show Below w1.heap.size w1 w1.drew from(ar _ _).drew) ?_;intro a2 w2 r hn s1 s2 s3 s4 hd b2 hm;obtain⟨tmps,defers⟩:=a2;simp only at hn s1 s2 s3 s4 hd;subst hd;obtain⟨x0,x1,x2,x3,x4,x5,x6,x7,x8,x9,x10,x11,x12,x13,x14,x15,x16,x17,x18,x19,x20,x21,x22,x23,x24,x25,x26,x27,x28,x29,x30,x31,x32,x33,x34,x35,x36,x37,x38,x39,x40,x41,x42,x43,x44,x45,x46,x47,x48,x49,x50,x51,x52,x53,x54,x55,x56,x57,x58,x59,x60,x61,x62,x63,x64,x65,x66,x67,x68,x69,x70,x71,x72,x73,rfl⟩:=oy hn;clear hn;simp only[List.getElem?_toArray,List.getElem?_cons_succ,List.getElem?_cons_zero,Option.some.injEq] at s1 s2 s3 s4;subst s1 s2 s3 s4;clear M;rw[hx];have m2:=bkk b2 m1;have t2:=bkk b2 t1;have b3:=btt b1 b2;clear m1 t1 b1 b2;have q1:w2.cell? ⟨w.heap.size,1,none⟩=some (.int .i64 k):=(ap m2 1).trans G1.out;obtain⟨es,c,hb,hq1,hq2⟩:=hm;have hz:(zeroValue 127).run Tryz.prog w2=.ok .nilFunc w2:=by go_simp
 have hlk:=jT (P:=Tryz.prog) w2 148 3 127 r c es k .nilFunc (by kernel_rfl) (by kernel_rfl) hb (fun z hz=>by obtain⟨p,_,_,e,_⟩:=hq1 z hz;exact⟨_,e⟩) hz;rcases hlk with⟨z,hz1,hz2,hrun⟩|⟨-,hrun⟩
 ·exfalso
  obtain⟨p,hp,_,hp2,_⟩:=hq1 z hz1;rw[hz2] at hp2
  injection hp2 with _ hp2
  exact hL p hp hp2.symm
 clear hb hq1 hq2 hz hL;clear es c;simp only[Exit.then];refine‹∀(a:Act) (w:World),Code.wp _ _ _ a w→_› _ _ ?_
 go_upto_region 5 with fail
 clear q1 hrun;have kc:=HC.out w2 b3;clear HC;have HA28:=hid hA28;clear hA28
 go_wp2_with (refine bg rfl 28 (.tmp 1) rfl w.heap.size 28 _ (0,0) (by rfl) m2 _ Tryz.underlying28 rfl (by rw[HA28.out];rfl) ?_)
 refine ag kc ?_;rintro e w6 ⟨⟨v,av,nv,cv,rfl,hv,hkv⟩,hb6⟩;subst hv;have m6:=bkk hb6 m2;have t6:=bkk hb6 t2;have b6:=btt b3 hb6;clear kc hb6 m2 t2 b3;have kc:=gK (.slice av nv cv) w6 ⟨_,_,_,rfl⟩
 go_wp2_with fail
 refine ag kc ?_;rintro e w8 ⟨⟨bc,rfl,hcc⟩,hb8⟩;have m8:=bkk hb8 m6;have t8:=bkk hb8 t6;have b8:=btt b6 hb8;have hkv8:=hkv.below hb8;clear kc hb8 m6 t6 b6 hkv
 go_upto_region 6 with fail
 have hcall:=gh bc (.slice av nv cv) els w8.drew (by exact hcc) (hkv8.kept fun g hg _=>⟨rfl,trivial⟩) hs hl;clear hcc hkv8;refine aR (S:=fun w'=>w'.heap[w.heap.size]?=some (.cells A 28 (0,0))) (by kernel_rfl) ?_;have T:w8.drew.heap[w.heap.size]?=some (.cells A 28 (0,0)):=m8;have D:Below w.heap.size w w8.drew:=b8.drew;have R:w8.drew.heap[w.heap.size+1]?=some (.cells Ze 45 (0,0)):=t8
 change wpAnyH _ _ _ _ _ _ _ _ w8.drew
 clear m8 t8 b8;generalize w8.drew=w5 at T D R hcall⊢;have HS:Hid (SmE (.mk 0 16 true [] els)):=hid (by simp only[SmE];exact⟨by simp,hl,hs⟩);have HX:=hid hx;clear hs hx hl;refine tn 0 (.func (.func 115) #[] #[.pointer (some ⟨bc,0,none⟩)]) rfl (fun w' hS=>by go_simp) T ?_;refine tp 2 ⟨w.heap.size,1,none⟩ rfl T ?_;refine tn 3 (.int .i64 k) rfl (fun w' hS=>by have q:=(ap hS 1).trans G1.out;go_simp) T ?_;refine ao 1 rfl (fun K hK=>?_);go_simp;go_wp2_with fail
 refine ag hcall ?_;rintro e w6 ⟨⟨u,rfl,hu⟩,hb6⟩;have T6:=bkk hb6 T;have R6:=bkk hb6 R;have D6:=btt D hb6;clear hcall hb6 T R D;refine hK _ _ T6 ?_;clear hK K
 have kc:=jV (.mk 0 16 true [] els) u 1 k w6 (hu.mono (fun _ _ _=>trivial)) HS.out;simp only[El.cons,El.bytes,El.kids] at kc;have hs6:=(gl R6);refine ao 4 rfl (fun K hK=>?_);go_simp;go_wp2_with fail
 refine ag kc ?_;rintro e w7 ⟨⟨u7,rfl,hu7⟩,hb7⟩;have T7:=bkk hb7 T6;have R7:=bkk hb7 R6;have D7:=btt D6 hb7;clear kc hb7 T6 R6 D6 hu;refine hK _ _ T7 ?_;clear hK K
 obtain⟨E,hE⟩:=nmm (elA (.mk 1 k true [] els) u7);have hE1:E.all (·.oneCell')=true:=by
  obtain⟨a,c,hsl⟩:=hu7.shape;subst hsl;rw[←hE];simp[elA,Value.oneCell']
 have hE2:E.size=5:=by rw[←hE];rfl
 rw[hE];obtain⟨HE,HE1,HE2⟩:=Ch hE hE1 hE2;clear hE hE1 hE2;have TF:(w7.setRow (w.heap.size+1) E).heap[w.heap.size]?=some (.cells A 28 (0,0)):=(setRow_other w7 (w.heap.size+1) w.heap.size E (by omega)).trans T7;have bF:=bm D7 (g:=w.heap.size+1) (by omega) E;have tF:=setRow_heap w7 (w.heap.size+1) _ E _ _ R7;have uF:bf (fun g=>w.heap.size≤g) (w7.setRow (w.heap.size+1) E) u7 els:=hu7.kept fun g hg hl=>⟨setRow_other w7 (w.heap.size+1) g E (by omega),by omega⟩
 refine ao 5 rfl (fun K hK=>?_);refine db 45 (.tmp 2) (.tmp 73) rfl (w.heap.size+1) 45 _ E (by rfl) (by rfl) R7 (by rw[HE2.out];rfl) (by rw[HE2.out];rfl) HE1.out ?_;refine hK _ _ TF ?_;clear hK K
 refine bE (by kernel_rfl) ?_ _;simp only[Exit.then];refine‹∀(a:Act) (w:World),Code.wp _ _ _ a w→_› _ _ ?_;clear T7 R7 D7 TF hu7;generalize w7.setRow (w.heap.size+1) E=wF at bF tF uF⊢;have UF:=hid uF;clear uF;go_simp
 go_wp2_with fail
 refine aH (v:=.agg E) ?_ rfl (by rw[HPR.out];exact⟨⟨u7,by rw[HE.out],UF.out⟩,bF⟩);have hr:=aJ (P:=Tryz.prog) wF (w.heap.size+1) 45 45 E (0,0) _ tF (show Tryz.prog.underlying 45=_ from Tryz.underlying45) (by rfl) (by rw[HE2.out];rfl)
 simp[results,Tryz.f73]
 exact hr
end Go.Proofs.YthjaiigijbjloaaGreatDoor
