/- CoR, LawCt, CoX, RiA, CoY, PlainVl, CoZ, CaP, CoN2. -/
import Derived.Test.YtfhghdcbofbceaaGreatDoorX22
namespace Go.Proofs.YtfhghdcbofbceaaGreatDoor
open Go.RowKit Go.Lib
set_option maxRecDepth 100000
set_option maxHeartbeats 16000000
theorem DD(w:World)(g n j:Nat)(h:j≠g):(w.freeze ⟨g,0,none⟩ n).heap[j]?=w.heap[j]?:=by
 unfold World.freeze
 split
 ·rfl
 ·show(w.heap.modify g _)[j]?=_
  rw[Array.getElem?_modify,if_neg (Ne.symm h)]
theorem DE(w:World)(g n:Nat):(w.freeze ⟨g,0,none⟩ n).os=w.os∧(w.freeze ⟨g,0,none⟩ n).tape=w.tape∧(w.freeze ⟨g,0,none⟩ n).output=w.output∧(w.freeze ⟨g,0,none⟩ n).heap.size=w.heap.size:=by
 unfold World.freeze
 split
 ·exact⟨rfl,rfl,rfl,rfl⟩
 ·exact⟨rfl,rfl,rfl,by simp⟩
def DM(w:World)(v:Value)(w':World):Prop:=w'.os=w.os∧w'.tape=w.tape∧w'.output=w.output∧w.heap.size≤w'.heap.size∧∀j,j<w.heap.size→v.ownBlock≠some j→w'.heap[j]?=w.heap[j]?
theorem DG(C:Nat)(v:Value)(l:List UInt8)(w:World)(c5:w.cell? ⟨C,5,none⟩=some v)(hown:w.ownsRow 0 5 1 v l.length (bV l)):
  Calls Tryz.prog 31 #[.pointer (some ⟨C,4,none⟩)] w fun e w'=>e=.returned (.string ⟨l.toArray⟩)∧DM w v w':=by
 by_cases h0:l=[]
 ·subst h0
  have c5':w.drew.cell? ⟨C,5,none⟩=some v:=c5;have hUS:∀(p:Option Addr) (W:World),(Builtin.unsafeString_ #[95,3] 9 #[.pointer p,I0]).run Tryz.prog W=.ok (.string .empty) W:=fun p W=>Lib.run_unsafeString_none W _ _ _ p
  rcases hown.2 with⟨rfl,_⟩|⟨g,cap,cur,rfl,hbg,hg,hnc,hcm,hcs,htake⟩
  ·have hSD:(Builtin.unsafeSliceData_ #[58] 95 #[Sn]).run Tryz.prog w.drew=.ok (.pointer none) w.drew:=Lib.run_unsafeSliceData_nil _ _ _ _ _
   clear hown c5
   go_enter Tryz.func31,Tryz.ntmps31
   go_wp2
   go_region
   all_goals (go_wp2;go_ret;exact⟨rfl,rfl,rfl,rfl,ah _,fun _ _ _=>rfl⟩)
  ·by_cases hc:cap=0
   ·subst hc
    have hSD:(Builtin.unsafeSliceData_ #[58] 95 #[.slice (some ⟨g,0,none⟩) 0 0]).run Tryz.prog w.drew=.ok (.pointer (some ⟨w.drew.heap.size,0,none⟩)) (w.drew.alloc (.view ⟨g,0,none⟩ 5)):=
     Lib.run_unsafeSliceData_zero w.drew _ _ _ Tryz.underlying95 ⟨g,0,none⟩ 0 (5,cur.size) (by have hg':Hc w.drew g cur 5:=hg;simp[World.shape?,hg'])
    have b1:Bw w (w.drew.alloc (.view ⟨g,0,none⟩ 5)):=((aA w.heap.size w).drew).alloc (ah _) _;have c5a:=(b1.cell (bj c5)).trans c5;have c5b:(w.alloc (.view ⟨g,0,none⟩ 5)).cell? ⟨C,5,none⟩=some (.slice (some ⟨g,0,none⟩) 0 0):=c5a;have c5d:(w.alloc (.view ⟨g,0,none⟩ 5)).drew.cell? ⟨C,5,none⟩=some (.slice (some ⟨g,0,none⟩) 0 0):=c5a;have HB:=hid b1;clear hown c5 htake hcs hg b1
    go_enter Tryz.func31,Tryz.ntmps31
    go_wp2
    go_region
    all_goals (go_wp2;go_ret;exact⟨rfl,HB.out.os,HB.out.tape,HB.out.output,HB.out.size,fun j hj _=>HB.out.block j hj⟩)
   ·have hSD:(Builtin.unsafeSliceData_ #[58] 95 #[.slice (some ⟨g,0,none⟩) 0 cap]).run Tryz.prog w.drew=.ok (.pointer (some ⟨g,0,none⟩)) w.drew:=Lib.run_unsafeSliceData_row _ _ _ _ _ _ hc
    clear hown c5 htake hcs hg
    go_enter Tryz.func31,Tryz.ntmps31
    go_wp2
    go_region
    all_goals (go_wp2;go_ret;exact⟨rfl,rfl,rfl,rfl,ah _,fun _ _ _=>rfl⟩)
 ·have hl0:l.length≠0:=by simpa using h0
  obtain⟨g,cap,cur,rfl,hbg,hg,hnc,hcm,hcs,htake⟩:∃g cap cur,v=.slice (some ⟨g,0,none⟩) l.length cap∧0≤g∧Hc w g cur 5∧l.length≤cap∧cap≤maxLen∧cur.size=cap*1∧cur.toList.take (l.length*1)=bV l:=by
   rcases hown.2 with⟨_,hz⟩|⟨g,cap,cur,hv,r⟩
   ·exact absurd hz hl0
   ·exact⟨g,cap,cur,hv,r⟩
  have c5':w.drew.cell? ⟨C,5,none⟩=some (.slice (some ⟨g,0,none⟩) l.length cap):=c5;have hSD:(Builtin.unsafeSliceData_ #[58] 95 #[.slice (some ⟨g,0,none⟩) l.length cap]).run Tryz.prog w.drew=.ok (.pointer (some ⟨g,0,none⟩)) w.drew:=
   Lib.run_unsafeSliceData_row _ _ _ _ _ _ (by omega)
  have hUS:(Builtin.unsafeString_ #[95,3] 9 #[.pointer (some ⟨g,0,none⟩),.int .i64 l.length]).run Tryz.prog w.drew=.ok (.string ⟨l.toArray⟩) (w.drew.freeze ⟨g,0,none⟩ l.length):=by
   refine Lib.run_unsafeString_row w.drew 95 3 9 5 Tryz.underlying95 Tryz.cCells g cur.size (by have hg':Hc w.drew g cur 5:=hg;simp[World.shape?,hg']) l h0 (by omega) (by unfold maxLen at hcm;omega) ?_;intro j x hx;exact hown.cells (g:=g) rfl j (.int .u8 x.toNat) (by simp[bV,hx])
  obtain⟨f1,f2,f3,f4⟩:=DE w.drew g l.length;have HF:=hid (show DM w (.slice (some ⟨g,0,none⟩) l.length cap) (w.drew.freeze ⟨g,0,none⟩ l.length) from⟨f1,f2,f3,Nat.le_of_eq f4.symm,fun j _ hn=>DD w.drew g l.length j (fun e=>hn (by rw[e];rfl))⟩);clear htake hcs hg f1 f2 f3 f4 c5
  go_enter Tryz.func31,Tryz.ntmps31
  go_wp2
  go_region
  all_goals (go_wp2;go_ret;exact⟨rfl,HF.out⟩)
theorem DK(C:Nat)(w:World)(v p:Value)(c4:w.cell? ⟨C,4,none⟩=some p)(c5:w.cell? ⟨C,5,none⟩=some v)(z4:w.frozen? ⟨C,4,none⟩=false)(z5:w.frozen? ⟨C,5,none⟩=false):
  Calls Tryz.prog 38 #[.pointer (some ⟨C,4,none⟩)] w fun e w'=>e=.returned (.tuple #[])∧w'=(w.setCell ⟨C,4,none⟩ (.pointer none)).setCell ⟨C,5,none⟩ (Sn):=by
 go_enter Tryz.func38,Tryz.ntmps38
 go_wp2_with fail
 first
  |refine bodyPost_end (results_none rfl _ _ _) rfl ?_
  |refine aH (results_none rfl _ _ _) rfl ?_
 exact⟨rfl,rfl⟩
theorem DB(P X:Nat→Prop)(C:Nat)(s:Cs)(w:World)(h:dc P X C s w):
  Calls Tryz.prog 15 #[.pointer (some ⟨C,0,none⟩)] w fun e w'=>e=.returned (.string ⟨s.out.toArray⟩)∧em P X C w {s with out:=[]} w':=by
 obtain⟨wv,iv,cv,bp,bv,Ms,h⟩:=h;have ks:=DG C bv s.out w ((aq h.row 5).trans rfl) h.b.bw;have H:=hid h;clear h
 go_enter Tryz.func15,Tryz.ntmps15
 go_wp2_with fail
 refine ag ks ?_;rintro e w1 ⟨rfl,s1,s2,s3,s4,s5⟩;have h:=H.out;have hCl:=(gl h.row);have r1:=(s5 C hCl (fun q=>h.b.neC h.row (.inr (.inl q)) rfl)).trans h.row;have kr:=DK C w1 bv bp ((aq r1 4).trans rfl) ((aq r1 5).trans rfl) (aj r1 4) (aj r1 5);have FIN:em P X C w {s with out:=[]} ((w1.setCell ⟨C,4,none⟩ (.pointer none)).setCell ⟨C,5,none⟩ (Sn)):=by
  have r2:=cq (i:=4) (u:=.pointer none) r1;have r3:=cq (i:=5) (u:=Sn) r2;have hoth:∀j,j≠C→((w1.setCell ⟨C,4,none⟩ (.pointer none)).setCell ⟨C,5,none⟩ (Sn)).heap[j]?=w1.heap[j]?:=fun j hj=>(heap_setCell_other _ ⟨C,5,none⟩ j _ hj).trans (heap_setCell_other _ ⟨C,4,none⟩ j _ hj)
  have K:=h.b.parts (P':=P) (X':=X) (Y:=fun j=>bv.ownBlock=some j) (w':=(w1.setCell ⟨C,4,none⟩ (.pointer none)).setCell ⟨C,5,none⟩ (Sn)) h.row (fun j hj hn hp hl=>⟨(hoth j hj).trans (s5 j hl hn),hp,Iff.rfl⟩) h.b.xb;have k1:=K.own fun g hg q=>h.b.wb hg q
  have k2:=K.im fun g hg q=>h.b.bi q hg
  have hsz:((w1.setCell ⟨C,4,none⟩ (.pointer none)).setCell ⟨C,5,none⟩ (Sn)).heap.size=w1.heap.size:=by simp[World.setCell]
  refine⟨P,X,⟨wv,iv,cv,.pointer none,Sn,Ms,r3,k1.1,K.msg,k2.1,h.b.nd,K.cu,.inl rfl,World.ownsRow_nil _ _ _ _,h.b.xw,h.b.xi,(fun g hg=>by cases hg),h.b.xC,h.b.xP,fun g hg=>by rw[hsz];exact Nat.lt_of_lt_of_le (h.b.xl g hg) s4⟩,⟨s1,s2,s3,by rw[hsz];exact s4,fun j hj hn=>?_⟩,fun _ _ q=>q,fun _ _ q=>q⟩;exact(hoth j (fun e=>hn (e▸h.b.xC))).trans (s5 j hj fun q=>hn (h.b.xb j q))
 have HF:=hid FIN;clear FIN h r1 s1 s2 s3 s4 s5 ks H hCl
 go_wp2_with fail
 refine ag kr ?_;rintro e w2 ⟨rfl,hw2⟩;have HF2:Hid (em P X C w {s with out:=[]} w2):=by rw[hw2];exact HF
 clear kr hw2 HF
 go_wp2_with fail
 go_ret
 exact⟨rfl,HF2.out⟩
theorem sV{op:Int}(h:0≤gk op):op∈[0,3,6,8,10,12,14,23]:=by
 unfold gk at h
 split at h
 ·omega
 ·rename_i hc
  simp only[Bool.or_eq_true,Bool.not_eq_true',beq_iff_eq,not_or,Bool.not_eq_false] at hc;have hm:=List.contains_iff_mem.1 hc.1.1;simp only[fC,aY,aZ,or_false] at hm⊢;have h2:=hc.1.2;have h16:=hc.2
  omega
theorem Db{op:Int}(h:0≤gk op):fC.contains op=true∧gq op=false∧op≠2∧op≠16:=by
 have hm:=sV h;simp only[aY,aZ,or_false] at hm;rcases hm with rfl|rfl|rfl|rfl|rfl|rfl|rfl|rfl<;>decide
theorem MgM.id7{w:World}{m:Mg}{l:Ls}(h:MgM w m l)(k:Int):MgM w {m with id:=k} l:=⟨h.filt,h.sel,h.mods,h.attrs,h.ctl⟩
theorem LsOk.id7{m:Mg}{l:Ls}(h:LsOk m l)(k:Int):LsOk {m with id:=k} l:=⟨h.dn,h.secret,h.newRdn,h.newSup,h.typ,h.value,h.oid,h.matched,h.text,h.filt,h.sel,h.sels,h.mods,h.modss,h.attrs,h.ctl,h.ctls⟩
theorem Eo{w:World}{m:Mg}{l:Ls}(h:MgM w m l):m.row.all (·.oneCell')=true:=by
 obtain⟨a1,c1,e1⟩:=h.filt.shape;obtain⟨a2,c2,e2,-,-⟩:=h.sel;obtain⟨a3,c3,e3,-,-⟩:=h.mods;obtain⟨a4,c4,e4,-,-⟩:=h.attrs;obtain⟨a5,c5,e5,-,-⟩:=h.ctl;exact Mg.one m ⟨by rw[e5];rfl,by rw[e1];rfl,by rw[e2];rfl,by rw[e3];rfl,by rw[e4];rfl⟩
def pl2(z:Mg×Ls):Mg×Ls:=(z.1.pl,z.2)
theorem Eg{w:World}{B:Nat}{v:Value}{Zs:List (Mg×Ls)}(h:w.ownsRow B 32 28 v Zs.length (cC (Zs.map (·.1))))(hm:∀z∈Zs,MgM w z.1 z.2):BC w v Zs:=by
 rcases h.2 with⟨hv,h0⟩|⟨g,cap,cur,hv,_,_,hc,_⟩
 ·have:Zs=[]:=List.eq_nil_of_length_eq_zero h0
  subst this;exact⟨none,0,hv,ah _,fun q=>absurd rfl q⟩
 ·refine⟨some ⟨g,0,none⟩,cap,hv,hc,fun _=>⟨g,0,rfl,fun j z hz=>⟨fun i x hi=>?_,hm z (List.mem_of_getElem? hz)⟩⟩⟩
  have hil:i<28:=(List.getElem?_eq_some_iff.1 hi).1;have hj:(Zs.map (·.1))[j]?=some z.1:=by rw[List.getElem?_map,hz];rfl
  have hc:=h.cells (g:=g) (by rw[hv];rfl) (j*28+i) x (by rw[ie _ j i z.1 hj hil];exact hi);rw[show(⟨g,0,none⟩:Addr).add (j*28+i)=⟨g,0+j*28+i,none⟩ by simp[Addr.add_lit]] at hc;exact hc
theorem eq.zip{P:Nat→Prop}{w:World}:∀{ms:List Mg} {ys:List (Mg×Ls)},eq P w ms ys→∃Zs:List (Mg×Ls),Zs.length=ys.length∧Zs.map (·.1)=ms∧Zs.map pl2=ys∧∀z∈Zs,MgM w z.1 z.2
 |[],[],_=>⟨[],rfl,rfl,rfl,fun z hz=>by cases hz⟩
 |m::ms,y::ys,h=>by
  obtain⟨Zs,h1,h2,h3,h4⟩:=eq.zip h.2;refine⟨(m,y.2)::Zs,by simp[h1],by simp[h2],?_,fun z hz=>?_⟩
  ·rw[List.map_cons,h3]
   show(m.pl,y.2)::ys=y::ys;rw[h.1.1]
  ·rcases aY.1 hz with rfl|q
   ·exact h.1.2.mgm
   ·exact h4 z q
 |[],_::_,h=>h.elim
 |_::_,[],h=>h.elim
theorem Rw2.at{X Z:Nat→Prop}{B:Nat}{v:Value}{Ms:List Mg}{ys:List (Mg×Ls)}{w:World}(h:Rw2 X Z B v Ms ys w):∃Zs,BC w v Zs∧Zs.map pl2=ys:=by
 obtain⟨Zs,h1,h2,h3,h4⟩:=h.msg.zip;exact⟨Zs,Eg (by rw[h1,h2];exact h.own) h4,h3⟩
theorem DX(m:Mg)(l:Ls):cR m.pl l=cR m l:=by
 unfold cR;rw[fM]
 rfl
def nxH(s:Cs):Option (Mg×Ls)×Cs:=match s.ms with
 |[]=>(none,s)
 |y::r=>(some y,s.took y r)
structure InH (out:List UInt8) (s:Cs) (B:List (Mg×Ls)):Prop where
 st:s=stA none out B
 good:∀z∈B,Good z
 ids:(B.map (·.1.id)).Nodup
 ext:∀z∈B,z.1.op≠23
 len:B.length≤60
theorem DZ{out:List UInt8}{s:Cs}(h:InH out s []):nxH s=(none,stA none out []):=by rw[h.st];rfl
theorem Ee{out:List UInt8}{s:Cs}{y:Mg×Ls}{r:List (Mg×Ls)}(h:InH out s (y::r)):nxH s=(some y,stA (some (y.1.id,y.1.op)) out r):=by
 rw[h.st,←Eu (out:=out) h.good h.ids]
 rfl
theorem InH.next{out:List UInt8}{s:Cs}{y:Mg×Ls}{r:List (Mg×Ls)}(h:InH out s (y::r)):InH out (stA none out r) r:=
 ⟨rfl,fun z hz=>h.good z (List.mem_cons_of_mem _ hz),(List.nodup_cons.1 (by simpa using h.ids:(y.1.id::r.map (·.1.id)).Nodup)).2,fun z hz=>h.ext z (List.mem_cons_of_mem _ hz),by have:=h.len;simp at this;omega⟩
theorem Ep{out:List UInt8}:∀(B:List (Mg×Ls)) (n:Nat) (s:Cs),InH out s B→B.length<n→mx nxH n s=(B,stA none out [])
 |[],0,_,_,hn=>by simp at hn
 |[],n+1,s,h,_=>DV n (DZ h)
 |_::_,0,_,_,hn=>by simp at hn
 |y::r,n+1,s,h,hn=>by
  rw[DW n (Ee h)];show(y::(mx nxH n (stA none out r)).1,(mx nxH n (stA none out r)).2)=_;rw[Ep r n _ h.next (by simp at hn;omega)]
theorem Eh{cur:Option (Int×Int)}{out:List UInt8}{B:List (Mg×Ls)}(hg:∀z∈B,Good z)(hl:B.length≤100):(stA cur out B).inn.length≤10000000:=by
 have h1:=(DT (B.drop 16) fun z hz=>hg z (List.mem_of_mem_drop hz)).2;have h2:(B.drop 16).length≤100:=by simp;omega
 show((B.drop 16).flatMap frB).length≤_
 omega
def xA(el:El):Option Int:=(ci el 0 16).bind fun ks=>(eR 2 ks).bind fun x=>bN x.1 x.2
def xy(b:List UInt8):Option Int:=match fO b with
 | .error _=>none
 | .ok el=>xA el
def RiP(O:Option Int)(N:Nat)(w:World)(w':World):Prop:=(∃k:Int,Hc w' N #[.int .i64 k] 3∧∀v,O=some v→k=v)∧Lft [N] w.heap.size w w'
theorem FI(el:El)(u:Value)(A N:Nat)(w:World)(hA:Hc w A (elA el u) 40)(hN:Hc w N #[I0] 3)(h:bf (fun _=>True) w u el.kids)(hs:SmE el):
  Calls Tryz.prog 100 #[.pointer (some ⟨A,0,none⟩),.pointer (some ⟨N,0,none⟩)] w fun e w'=>Out (xA el) (fun _ v _=>v=.tuple #[]) e w'∧RiP (xA el) N w w':=by
 have kk:=dk el u 0 16 w h hs;have hNl:=(gl hN);generalize hR:xA el=R;unfold xA at hR;obtain⟨O,hO⟩:=nmm (ci el 0 16);rw[hO] at kk hR;have HR:=hid hR;clear hO h hs hR
 go_enter Tryz.func100,Tryz.ntmps100
 go_wp2_with (refine ldE (.tmp 0) hA rfl ?_)
 refine ag kk ?_;rintro e w1 ⟨ho,hb1⟩;have n1:=bk hb1 hN;clear kk hA hN;cases O with
 |none=>
  have he:e=Pn:=ho;subst he;obtain rfl:none=R:=HR.out;exact⟨rfl,rfl,⟨0,n1,fun v q=>by cases q⟩,.of hb1⟩
 |some ks=>
  obtain⟨v,rfl,b,rfl,hbl,hrow⟩:=ho;have kn:=fd _ b ks 2 w1 hrow;have hR:=HR.out;simp only[ai] at hR;obtain⟨O,hO⟩:=nmm (eR 2 ks);rw[hO] at kn hR;replace HR:=hid hR;clear hO hrow hR
  go_wp2_with fail
  refine ag kn ?_;rintro e w2 ⟨ho,hL⟩;have hs1:=hb1.size;have hs2:=hL.size;have n2:=hL.at n1 (by simp;omega);have b2:Bw w w2:=hb1.trans (hL.below1 (by omega) hb1.size);clear kn hb1 hL n1;cases O with
  |none=>
   have he:e=Pn:=ho;subst he;obtain rfl:none=R:=HR.out;exact⟨rfl,rfl,⟨0,n2,fun v q=>by cases q⟩,.of b2⟩
  |some x=>
   obtain⟨v,rfl,rfl,hrow⟩:=ho;have q2:=aq n2 0;have z2:=aj n2 0;have n3:=cq (i:=0) (u:=.int .i64 x.1) n2;have l3:Lft [N] w2.heap.size w2 (w2.setCell ⟨N,0,none⟩ (.int .i64 x.1)):=(Lft.refl w2).set _ _ _ (by simp);have row3:=hrow.keep l3 (by simp;omega) (by intro g hg _;simp;omega);have ke:=cX _ b x.2 _ row3;obtain⟨L3,N3⟩:=Cg (show Lft [N] w.heap.size w (w2.setCell ⟨N,0,none⟩ (.int .i64 x.1)) from(Lft.of b2).trans (l3.mono (ah _) fun _ _ h=>h) (ah _)) n3;clear n2 l3 row3 hrow n3 b2;have hR:=HR.out;simp only[ai] at hR;have hOE:bN x.1 x.2=(bN () x.2).map fun _=>x.1:=by unfold bN;by_cases hx:x.2=[]<;>simp[hx]
   rw[hOE] at hR;obtain⟨O,hO⟩:=nmm (bN () x.2);rw[hO] at ke hR;replace HR:=hid hR;clear hO hOE hR;have KE:=hid ke;clear ke
   go_wp2_with fail
   generalize w2.setCell ⟨N,0,none⟩ (.int .i64 x.1)=w3 at KE L3 N3⊢;refine ag (show Calls _ _ _ _ _ from KE.out) ?_;rintro e w4 ⟨ho,hb4⟩;have l4:Lft [N] w.heap.size w w4:=L3.out.trans (Lft.of hb4) (ah _);have n4:=bk hb4 N3.out;cases O with
   |none=>
    have he:e=Pn:=ho;subst he;obtain rfl:none=R:=HR.out;exact⟨rfl,rfl,⟨x.1,n4,fun v q=>by cases q⟩,l4⟩
   |some o=>
    obtain⟨v,rfl,rfl⟩:=ho;obtain rfl:some x.1=R:=HR.out;clear KE hb4 L3 N3 q2 z2
    go_wp2_with fail
    go_end0
    exact⟨⟨_,rfl,rfl⟩,⟨x.1,n4,fun v q=>by simpa using q⟩,l4⟩
theorem FJ(el:El)(u:Value)(A N:Nat)(w:World)(hA:Hc w A (elA el u) 40)(hN:Hc w N #[I0] 3)(h:bf (fun _=>True) w u el.kids)(hs:SmE el):
  Calls Tryz.prog 97 #[.func (.func 100) #[] #[.pointer (some ⟨A,0,none⟩),.pointer (some ⟨N,0,none⟩)]] w fun e w'=>e=.returned (.bool (xA el).isSome)∧RiP (xA el) N w w':=by
 have hmf:∀(fn:Fn) (first cap:Array Value) (w:World),(Instr.makeFunc fn first cap).run Tryz.prog w=.ok (.func fn first cap) w:=fun _ _ _ _=>rfl
 obtain⟨O,hO⟩:=nmm (xA el);obtain⟨PR,hPR⟩:∃PR:Ending→World→Prop,PR=fun e w'=>e=.returned (.bool O.isSome)∧RiP O N w w':=⟨_,rfl⟩
 rw[hO,←hPR];have HP:=hid hPR;clear hPR;have hNl:=(gl hN);have bA:=alb w #[Bf] 4;have oA:=alz w #[Bf] 4;have kr:=FI el u A N (w.alloc (.cells #[Bf] 4)) (bk bA hA) (bk bA hN) (h.below bA) hs;rw[hO] at kr;clear hA hN h hs hO
 go_enter_defers Tryz.func97,Tryz.ntmps97
 go_wp2_with fail
 generalize w.alloc (.cells #[Bf] 4)=wA at bA oA kr⊢;refine ag kr ?_;rintro e w1 ⟨ho,⟨k,hk,hkv⟩,hb1⟩;have hsA:=bA.size;have hoA:=(gl oA);have o1:=hb1.at oA (by simp;omega);have b1:Lft [N] w.heap.size w w1:=(Lft.of bA).trans (hb1.mono (ah _) fun _ _ h=>h) (ah _);have q1:=cval o1 0 Bf;have z1:=aj o1 0;have key:∀x:Value,Lft [N] w.heap.size w (w1.setCell ⟨w.heap.size,0,none⟩ x)∧Hc (w1.setCell ⟨w.heap.size,0,none⟩ x) N #[.int .i64 k] 3∧Hc (w1.setCell ⟨w.heap.size,0,none⟩ x) w.heap.size #[x] 4:=fun x=>by
  have t2:Lft [w.heap.size] w1.heap.size w1 (w1.setCell ⟨w.heap.size,0,none⟩ x):=(Lft.refl w1).set _ _ _ (by simp);exact⟨⟨b1.os,b1.tape,b1.output,by simpa using b1.size,fun j hj hne=>(t2.block j (by have:=b1.size;omega) (by simp;omega)).trans (b1.block j hj hne)⟩,t2.at hk (by simp;omega),cq (i:=0) (u:=x) o1⟩
 obtain⟨HK,HV⟩:=Cg key hkv;clear kr oA hb1 b1 o1 key hk hkv;cases O with
 |none=>
  have he:e=Pn:=ho;subst he;clear ho
  go_wp2
  refine leaves_cons (f:=115) (args:=#[.pointer (some ⟨w.heap.size,0,none⟩)]) (by simp) (by simp[go_sem]) ?_;refine(mG w.heap.size (Bf) w1 q1 z1).mono ?_;rintro e u' w2 ⟨rfl,rfl,rfl⟩;obtain⟨b2,n2,o2⟩:=HK.out (Bf);have o2:=cval o2 0 (.bool false);generalize w1.setCell ⟨w.heap.size,0,none⟩ (Bf)=wF at o2 b2 n2⊢
  simp[Leaves,settle,results,Tryz.results97,go_sem,o2]
  rw[HP.out];exact⟨rfl,⟨k,n2,HV.out⟩,b2⟩
 |some y=>
  obtain⟨v,rfl,rfl⟩:=ho
  go_wp2_with fail
  obtain⟨b2,n2,o2⟩:=HK.out (.bool true);have o2:=cval o2 0 (.bool true);clear q1 z1;generalize w1.setCell ⟨w.heap.size,0,none⟩ (.bool true)=wF at o2 b2 n2⊢;refine leaves_cons (f:=115) (args:=#[.pointer (some ⟨w.heap.size,0,none⟩)]) (by simp) (by simp[go_sem]) ?_;refine(pA w.heap.size wF).mono ?_;rintro e u' w3 ⟨rfl,rfl,hw3⟩;rw[hw3]
  simp[Leaves,settle,results,Tryz.results97,go_sem,o2]
  rw[HP.out];exact⟨rfl,⟨k,n2,HV.out⟩,b2⟩
theorem Fq(b:List UInt8)(c:Int)(hc:c≠0)(w:World)(kr:Calls Tryz.prog 96 #[.string ⟨b.toArray⟩] w fun e w'=>e=.returned (.tuple #[.agg Ze,.int .i64 c])∧Bw w w'):
  Cr 68 #[.string ⟨b.toArray⟩] w (.tuple #[I0,Bf]):=by
 have i0:(c==0)=false:=aE hc
 go_enter Tryz.func68,Tryz.ntmps68
 go_wp2_with fail
 refine ag kr ?_;rintro e w2 ⟨rfl,b2⟩;clear kr;obtain⟨E,hE⟩:=nmm (Ze:Array Value);have hE1:E.all (·.oneCell')=true:=by rw[←hE];simp[Value.oneCell']
 have hE2:E.size=5:=by rw[←hE];rfl
 rw[hE];obtain⟨HE1,HE2⟩:=Cg hE1 hE2;clear hE hE1 hE2;have x3:=alz w2 Ze 40;have g3:Bw w2 ((w2.alloc (.cells Ze 40)).setRow w2.heap.size E):=xo ((aA _ _).alloc (ah _) _) (ah _) E;obtain⟨B3,X3⟩:=Cg (cM b2 g3) x3;clear b2 x3 g3
 go_upto_region 2 with(refine stE (.tmp 4) (.tmp 11) E X3.out HE2.out HE1.out ?_)
 generalize(w2.alloc (.cells Ze 40)).setRow w2.heap.size E=w3 at B3⊢;clear X3;have n4:=alz w3 #[I0] 3;have q5:(w3.alloc (.cells #[I0] 3)).cell? ⟨w3.heap.size,0,none⟩=some (I0):=(aq n4 0).trans rfl;have B5:=hid (cM B3.out (show Bw w3 (w3.alloc (.cells #[I0] 3)) from(aA _ _).alloc (ah _) _))
 go_upto_region 3 with fail
 generalize w3.alloc (.cells #[I0] 3)=w5 at q5 B5⊢;clear n4
 go_wp2_with fail
 go_ret2
 exact⟨rfl,B5.out⟩
theorem FQ(b:List UInt8)(el:El)(hr:bP 20 b=.ok (el,[]))(hl:b.length≤1000000)(w:World):
  Calls Tryz.prog 68 #[.string ⟨b.toArray⟩] w fun e w'=>(∃k:Int,e=.returned (.tuple #[.int .i64 k,.bool (xA el).isSome])∧∀v,xA el=some v→k=v)∧Bw w w':=by
 have hmf:∀(fn:Fn) (first cap:Array Value) (w:World),(Instr.makeFunc fn first cap).run Tryz.prog w=.ok (.func fn first cap) w:=fun _ _ _ _=>rfl
 have kr:=kP b el hr hl w;have hsm:=kC el (by have:=(fL 20 b el [] hr).2;omega);obtain⟨PR,hPR⟩:∃PR:Ending→World→Prop,PR=fun e w'=>(∃k:Int,e=.returned (.tuple #[.int .i64 k,.bool (xA el).isSome])∧∀v,xA el=some v→k=v)∧Bw w w':=⟨_,rfl⟩
 rw[←hPR];obtain⟨HP,HSM⟩:=Cg hPR hsm;clear hPR hr hl hsm
 go_enter Tryz.func68,Tryz.ntmps68
 go_wp2_with fail
 refine ag kr ?_;rintro e w2 ⟨⟨u,rfl,hu⟩,b2⟩;have hs2:=b2.size;clear kr;obtain⟨a,c,hsl⟩:=hu.shape;subst hsl;obtain⟨E,hE⟩:=nmm (elA el (.slice a el.kids.length c));have hE1:E.all (·.oneCell')=true:=by rw[←hE];simp[elA,Value.oneCell']
 have hE2:E.size=5:=by rw[←hE];rfl
 rw[hE];obtain⟨HE,HE1,HE2⟩:=Ch hE hE1 hE2;clear hE hE1 hE2;have x3:=alz w2 Ze 40;have g3:Bw w2 ((w2.alloc (.cells Ze 40)).setRow w2.heap.size E):=xo ((aA _ _).alloc (ah _) _) (ah _) E;obtain⟨e3,u3,B3,X3⟩:=Ci (setRow_heap (w2.alloc (.cells Ze 40)) w2.heap.size _ E _ _ x3) (hu.below g3) (cM b2 g3) x3;clear b2 x3 g3 hu
 go_upto_region 2 with(refine stE (.tmp 4) (.tmp 11) E X3.out HE2.out HE1.out ?_)
 generalize(w2.alloc (.cells Ze 40)).setRow w2.heap.size E=w3 at e3 u3 B3⊢;clear X3;have n4:=alz w3 #[I0] 3;have g5:=alb w3 #[I0] 3;have e5:=bk g5 e3.out;have u5:=u3.out.below g5;have b5:=cM B3.out g5;rw[←HE.out] at e5;have kk:=FJ el (.slice a el.kids.length c) w2.heap.size w3.heap.size _ e5 n4 (u5.kept fun g hg hl=>⟨rfl,trivial⟩) HSM.out;obtain⟨KK,B5⟩:=Cg kk b5;clear e5 u5 b5 kk g5 n4
 go_upto_region 3 with fail
 generalize w3.alloc (.cells #[I0] 3)=w5 at KK B5⊢;have hw3:w.heap.size≤w3.heap.size:=B3.out.size;clear e3 u3 B3 HE HE1 HE2;have kk:=KK.out
 go_wp2_with fail
 refine ag kk ?_;rintro e w6 ⟨rfl,⟨k,n6,hkv⟩,hL⟩;have q6:=cval n6 0 (.int .i64 k);have b6:Bw w w6:=B5.out.trans (hL.below1 hw3 B5.out.size);have HF:=hid (show PR (.returned (.tuple #[.int .i64 k,.bool (xA el).isSome])) w6 by rw[HP.out];exact⟨⟨k,rfl,hkv⟩,b6⟩);clear kk KK n6 hkv hL b6 B5 hw3
 go_wp2_with fail
 exact HF.out
theorem Fz(b:List UInt8)(hl:b.length≤1000000)(w:World):Calls Tryz.prog 68 #[.string ⟨b.toArray⟩] w fun e w'=>(∃k:Int,e=.returned (.tuple #[.int .i64 k,.bool (xy b).isSome])∧∀v,xy b=some v→k=v)∧Bw w w':=by
 cases hr:bP 20 b with
 |error c=>
  have h0:xy b=none:=by unfold xy fO;rw[hr]
  refine(Fq b c (lE b 20 c hr) w (nB b c hr hl w)).mono fun e w' h=>⟨⟨0,?_,fun v q=>by rw[h0] at q;cases q⟩,h.2⟩
  rw[h0];exact h.1
 |ok p=>
  obtain⟨el,r⟩:=p;cases r with
  |cons x r=>
   have h0:xy b=none:=by unfold xy fO;rw[hr]
   refine(Fq b 25 (by decide) w (qM b el x r hr hl w)).mono fun e w' h=>⟨⟨0,?_,fun v q=>by rw[h0] at q;cases q⟩,h.2⟩
   rw[h0];exact h.1
  |nil=>
   have h0:xy b=xA el:=by unfold xy fO;rw[hr]
   rw[h0];exact FQ b el hr hl w
def xu(id op code:Int):Mg:={id:=id,op:=op,code:=code}
def Cs.sent(s:Cs)(m:Mg):Cs:=if(cR m {}).2=0 then s.put (cR m {}).1 else s
def Cs.cancels(s:Cs)(y:Mg):Cs:=
 match xy y.value,y.has with
 |some id,true=>match s.ms.find? (fun x=>x.1.id==id) with
  |none=>s.sent (xu y.id 24 119)
  |some x=>if(x.1.op==0||gS x.1)=true then s.sent (xu y.id 24 121) else((s.strike id).sent (xu x.1.id (gk x.1.op) 118)).sent (xu y.id 24 0)
 |_,_=>s.sent (xu y.id 24 2)
theorem Fr(w0:World)(P X:Nat→Prop)(C:Nat)(s:Cs)(id op code:Int)(w:World)(h:dc P X C s w)(hH:Hm w0 X w)(hlen:s.out.length≤1099511627776):
  Calls Tryz.prog 61 #[.pointer (some ⟨C,0,none⟩),.agg (xu id op code).row] w fun e w'=>(∃b,e=.returned (.bool b))∧em P X C w (s.sent (xu id op code)) w':=
 (su w0 P X C s (xu id op code) {} w h hH (uA _ _ rfl) (uc id op code [] [] [] (by decide) (by decide) (by decide)) hlen).mono fun e w' q=>⟨⟨_,q.1⟩,q.2⟩
theorem EV{α:Type}(f:α→Int)(k:Int):∀(l:List α) (j:Nat) (x:α),(l.map f).Nodup→l[j]?=some x→f x=k→l.find? (fun y=>f y==k)=some x
 |[],j,_,_,h,_=>by simp at h
 |a::l,0,x,_,h,e=>by
  have q:a=x:=by simpa using h
  subst q;rw[List.find?_cons_of_pos (by simp[e])]
 |a::l,j+1,x,hn,h,e=>by
  have hn':=List.nodup_cons.1 hn;have hx:l[j]?=some x:=by simpa using h
  have hne:f a≠k:=fun q=>hn'.1 (by rw[q,←e];exact List.mem_map_of_mem (List.mem_of_getElem? hx))
  rw[List.find?_cons_of_neg (by simpa using hne)];exact EV f k l j x hn'.2 hx e
theorem FZ{α:Type}(f:α→Int)(k:Int)(l:List α)(h:(l.map f).contains k=false):l.find? (fun y=>f y==k)=none:=by
 rw[List.find?_eq_none];intro b hb;have:f b≠k:=fun q=>by
  rw[List.contains_iff_mem.2 (by rw[←q];exact List.mem_map_of_mem hb)] at h;cases h
 simpa using this
theorem dc.nd{P X:Nat→Prop}{C:Nat}{s:Cs}{w:World}(h:dc P X C s w):s.ids.Nodup:=by
 obtain⟨_,_,_,_,_,_,h⟩:=h;exact h.b.nd
theorem Kb.cell{X:Nat→Prop}{w w':World}{g i:Nat}{v:Value}(kb:Kb X w w')(h:w.cell? ⟨g,i,none⟩=some v)(hX:¬X g):w'.cell? ⟨g,i,none⟩=some v:=(World.cell?_of_block (kb.block g (bj h) hX)).trans h
section
variable {md:Region.Mode} {ops:Array Oper} {Q:Exit→Act→World→Prop} {S:World→Prop} {fuel:Nat} {listed:Array Bool} {a:Act} {w:World} {o:Oper}
theorem hcl(i:Nat){f:FuncId}{args:Array Value}{PR:Ending→World→Prop}(kc:Calls Tryz.prog f args w PR)(ho:ops[i]?=some o)(h:∀e w',PR e w'→∃v,e=.returned v∧S w'∧Q .normal (a.put o.dst v) w')
  (hrun:(execOp a.eval o).run Tryz.prog w=.ok (.enter f args) w:=by first|rfl|go_simp) (hr:Region.ready md ops listed=[i]:=by kernel_rfl) (hw:Region.wanted o (yielded ops a.tmps)=true:=by rfl) (hd:Region.ready md ops (listed.setIfInBounds i true)=[]:=by kernel_rfl):wpAnyH Tryz.prog md ops Q S (fuel+1) listed a w:=
 rn i hr ho hw fun K hK=>by
  unfold Oper.wp;rw[hrun,Oper.upon_enter];refine kc.mono fun e w' hh=>?_
  obtain⟨v,rfl,hs,hq⟩:=h e w' hh;show K _ _;exact hK _ _ hs (xk hd hq _)
end
def CaR(P X:Nat→Prop)(C M:Nat)(A:Array Value)(w:World)(ANS:Cs)(id:Int)(v:Value)(wx:World):Prop:=
 ∃(code:Int) (s2:Cs) (P2 X2:Nat→Prop),v=.int .i64 code∧dc P2 X2 C s2 wx∧Nx P X w P2 X2 wx∧s2.sent (xu id 24 code)=ANS∧s2.out.length≤1099511627776∧Hc wx M A 32
theorem Fs(w0:World)(P X:Nat→Prop)(C:Nat)(s:Cs)(m:Mg)(w:World)(h:dc P X C s w)(hH:Hm w0 X w)(hmo:m.row.all (·.oneCell')=true)(hv:m.value.length≤1000000)(hlen:s.ms.length≤1000)(ho:s.out.length+70000≤1099511627776):
  Calls Tryz.prog 42 #[.pointer (some ⟨C,0,none⟩),.agg m.row] w fun e w'=>e=.returned (.tuple #[])∧em P X C w (s.cancels m) w':=by
 obtain⟨ANS,hA⟩:=nmm (s.cancels m);rw[hA];have b1:=alb w m.row 32;have m1:=alz w m.row 32;have q20:(w.alloc (.cells m.row 32)).cell? ⟨w.heap.size,20,none⟩=some (.string ⟨m.value.toArray⟩):=(aq m1 20).trans rfl;obtain⟨A,hAr⟩:=nmm m.row;have hA0:A[0]?=some (.int .i64 m.id):=by rw[←hAr];rfl
 have hA22:A[22]?=some (.bool m.has):=by rw[←hAr];rfl
 rw[hAr] at b1 m1 q20 hmo⊢;have h1:=h.bel b1;obtain⟨H1,HB0,HA,HL,HX,HCl⟩:=Cy (show _∧_∧_∧_ from⟨h1,hH.bels b1,m1,b1⟩) hH (show _∧_∧_∧_∧_ from⟨hA,hA0,hA22,hmo,h.nd⟩) (show _∧_ from⟨hlen,ho⟩) h.xl (h.xl C h.xC);have kr:=Fz m.value hv (w.alloc (.cells A 32));clear hA hA0 hA22 hmo hlen ho h1 hH h b1 m1 hv hAr
 go_enter Tryz.func42,Tryz.ntmps42
 go_upto_region 2 with fail
 obtain⟨w1,hw1⟩:=nmm (w.alloc (.cells A 32));rw[hw1] at H1 q20 kr
 try rw[hw1]
 clear hw1
 go_wp2_with fail
 refine ag kr ?_;rintro e w2 ⟨⟨k,rfl,hkv⟩,hb2⟩;have h2:=H1.out.1.bel hb2;have m2:=bk hb2 H1.out.2.2.1;have kp:=CJ P X C s k w2 h2 HL.out.1;obtain⟨H2,HK⟩:=Cg (show _∧_∧_∧_ from⟨h2,H1.out.2.1.bels hb2,m2,cM H1.out.2.2.2 hb2⟩) hkv;obtain⟨ok,hok⟩:=nmm ((xy m.value).isSome);rw[hok];have HOK:=hid hok;clear kr q20 hb2 h2 m2 hkv hok H1
 go_wp2_with fail
 refine ag kp ?_;rintro e w3 ⟨⟨r,rfl,hr⟩,hb3⟩;have h3:=H2.out.1.bel hb3;have m3:=bk hb3 H2.out.2.2.1;have q22:w3.cell? ⟨w.heap.size,22,none⟩=some (.bool m.has):=(aq m3 22).trans HA.out.2.2.1;obtain⟨H3,HR⟩:=Cg (show _∧_∧_∧_ from⟨h3,H2.out.2.1.bels hb3,m3,cM H2.out.2.2.2 hb3⟩) hr;clear kp hb3 h3 m3 hr H2
 go_upto_block 0 with fail
 go_cut [4,8] from 18 to 57 (fun v _ wx=>CaR P X C w.heap.size A w ANS m.id v wx)
 case first=>
  have n3:Nx P X w P X w3:=⟨Kb.of H3.out.2.2.2,fun _ _ q=>q,fun _ _ q=>q⟩;have stay:∀code:Int,s.sent (xu m.id 24 code)=ANS→CaR P X C w.heap.size A w ANS m.id (.int .i64 code) w3:=fun code hc=>⟨code,s,P,X,rfl,H3.out.1,n3,hc,by have:=HL.out.2;omega,H3.out.2.2.1⟩
  have ST:=hid stay;clear stay n3
  by_cases hbad:ok=false∨m.has=false
  ·have FIN:=ST.out 2 (by
    rw[←HA.out.1];unfold Cs.cancels;rcases hbad with q|q
    ·have h1:=HOK.out
     rw[q] at h1;cases hr:xy m.value with
     |none=>rfl
     |some x=>rw[hr] at h1;cases h1
    ·rw[q]
     cases xy m.value<;>rfl)
   have HF:=hid FIN;clear FIN;cases ok with
   |false=>
    go_wp2_with fail
    go_meet
    exact HF.out
   |true=>
    have hh:m.has=false:=by rcases hbad with q|q;cases q;exact q
    rw[hh] at q22
    go_wp2_with fail
    go_meet
    exact HF.out
  ·have hokt:ok=true:=by cases ok with|true=>rfl|false=>exact absurd (.inl rfl) hbad
   have hht:m.has=true:=by cases hm:m.has with|true=>rfl|false=>exact absurd (.inr hm) hbad
   subst hokt;rw[hht] at q22;obtain⟨k',hk'⟩:∃v,xy m.value=some v:=by
    have h1:=HOK.out;cases hr:xy m.value with
    |none=>rw[hr] at h1;cases h1
    |some v=>exact⟨v,rfl⟩
   obtain rfl:k=k':=HK.out k' hk';have hans:∀B:Cs,(match s.ms.find? (fun x=>x.1.id==k) with
     |none=>s.sent (xu m.id 24 119)
     |some x=>if(x.1.op==0||gS x.1)=true then s.sent (xu m.id 24 121) else((s.strike k).sent (xu x.1.id (gk x.1.op) 118)).sent (xu m.id 24 0))=B→B=ANS:=fun B hB=>by
    rw[←hB,←HA.out.1];unfold Cs.cancels;rw[hk',hht]
   have HANS:=hid hans;clear hbad hht hk' hans HK HOK;rcases HR.out with⟨rfl,hno⟩|⟨j,rfl,hj⟩
   ·have FIN:=ST.out 119 (HANS.out _ (by rw[FZ (fun x:Mg×Ls=>x.1.id) k s.ms hno]))
    have HF:=hid FIN;have i1:decide ((-1:Int)<0)=true:=rfl;clear FIN hno
    go_wp2_with fail
    go_meet
    exact HF.out
   ·have i1:decide ((j:Int)<0)=false:=an (by omega)
    obtain⟨x,hx,hxk⟩:∃x,s.ms[j]?=some x∧x.1.id=k:=by
     unfold Cs.ids at hj;rw[List.getElem?_map] at hj;exact aV.1 hj
    have hjl:j<s.ms.length:=(List.getElem?_eq_some_iff.1 hx).1;have hfind:=EV (fun x:Mg×Ls=>x.1.id) k s.ms j x HA.out.2.2.2.2 hx hxk;have kd:=fun(W:World) (hW:Bw w3 W)=>sA P X C s j x W (H3.out.1.bel hW) hx HL.out.1
    obtain⟨wv,iv,cv,bp,bv,Ms,hrow,hb⟩:=H3.out.1;obtain⟨c0,c1,c2,c3,c8⟩:=dM hrow;obtain⟨g,cap,rfl⟩:∃g cap,wv=.slice (some ⟨g,0,none⟩) s.ms.length cap:=by
     obtain⟨g,cap,e0,_⟩:=hb.own.form (by omega);exact⟨g,cap,e0⟩
    obtain⟨xm,hMi,hpl,hls⟩:=hb.msg.get hx;have hrng:w3.rangeAt g (j*28) xm.row.toList:=fun i v hi=>by
     have hil:i<28:=(List.getElem?_eq_some_iff.1 hi).1;have hc:=hb.own.cells (g:=g) rfl (j*28+i) v (by rw[ie Ms j i xm hMi hil];exact hi);rw[show(⟨g,0,none⟩:Addr).add (j*28+i)=⟨g,j*28+i,none⟩ by simp[Addr.add_lit]] at hc;exact hc
    have qop:w3.cell? ⟨g,j*28+1,none⟩=some (.int .i64 x.1.op):=by
     have:=hrng 1 (.int .i64 x.1.op) (by rw[←hpl];rfl);exact this
    have ki:=ET xm w3;rw[show gS xm=gS x.1 by rw[←hpl];rfl] at ki;obtain⟨D,hD⟩:=nmm xm.row;have hD2:D.size=28:=by rw[←hD];rfl
    rw[hD] at hrng ki;obtain⟨HD2,HRN,HKD⟩:=Ch hD2 hrng kd;obtain⟨n,hn⟩:=nmm s.ms.length;rw[hn] at c1 hjl;have hj1:(j:Int)<(n:Int):=by omega
    have hfd:∀B:Cs,(if(x.1.op==0||gS x.1)=true then s.sent (xu m.id 24 121) else((s.strike k).sent (xu x.1.id (gk x.1.op) 118)).sent (xu m.id 24 0))=B→B=ANS:=fun B hB=>HANS.out B (by rw[hfind];exact hB)
    have HFD:=hid hfd;have hstr:s.strike k={s with ms:=s.ms.eraseIdx j}:=by
     unfold Cs.strike;rw[DU (fun y:Mg×Ls=>y.1.id) k s.ms j HA.out.2.2.2.2 hj]
    have HSTR:=hid (show _∧_ from⟨hstr,hxk⟩);clear hj hx hxk hfind kd hrow hb hMi hpl hls hrng hD hD2 hfd hstr c0 c2 c3 c8 HANS HR
    by_cases h0:x.1.op=0
    ·have e0:(x.1.op==0)=true:=by rw[h0];rfl
     have HF:=hid (ST.out 121 (HFD.out _ (by rw[e0];rfl)));clear ki
     go_wp2_with fail
     go_meet
     exact HF.out
    ·have e0:(x.1.op==0)=false:=aE h0
     obtain⟨ic,hic⟩:=nmm (gS x.1);rw[hic] at ki;obtain⟨HIC,KI⟩:=Cg hic ki;clear hic ki h0
     go_wp2_with (refine wpList_load_mid rfl 32 (.tmp 55) rfl g (j*28) (by rfl) D.toList _ HRN.out Tryz.underlying32 rfl (by rw[Array.length_toList,HD2.out];rfl) ?_;rw[Array.toArray_toList])
     refine ag (show Calls _ _ _ _ _ from KI.out) ?_;rintro e w4 ⟨rfl,hb4⟩;cases ic with
     |true=>
      have HF:=hid (show CaR P X C w.heap.size A w ANS m.id (.int .i64 121) w4 from by
       obtain⟨code,s2,P2,X2,q1,q2,q3,q4,q5,q6⟩:=ST.out 121 (HFD.out _ (by rw[e0,HIC.out];rfl));exact⟨code,s2,P2,X2,q1,q2.bel hb4,q3.bel hb4,q4,q5,bk hb4 q6⟩)
      clear KI hb4
      go_wp2_with fail
      go_meet
      exact HF.out
     |false=>
      have kd:=HKD.out w4 hb4;have hfin:=HFD.out (((s.strike k).sent (xu x.1.id (gk x.1.op) 118)).sent (xu m.id 24 0)) (by rw[e0,HIC.out];rfl);rw[HSTR.out.1] at hfin;obtain⟨B4,M4,HH4,HFIN⟩:=Ci (cM H3.out.2.2.2 hb4) (bk hb4 H3.out.2.2.1) (H3.out.2.1.bels hb4) hfin;clear KI HRN HKD qop c1 hfin hb4 H3 ST
      go_wp2_with fail
      refine ag kd ?_;rintro e w5 ⟨⟨m5,rfl,hpl,hls⟩,h5,k5⟩;have m5':=k5.at M4.out (fun q=>by have:=HX.out _ q;omega);have n5:Nx P X w P X w5:=⟨(Kb.of B4.out).trans k5,fun _ _ q=>q,fun _ _ q=>q⟩;obtain⟨E,hE⟩:=nmm m5.row;have hE1:E.all (·.oneCell')=true:=by rw[←hE];exact hls.one
      have hE2:E.size=28:=by rw[←hE];rfl
      have hE0:E[0]?=some (.int .i64 x.1.id):=by rw[←hE,←hpl];rfl
      have hEo:E[1]?=some (.int .i64 x.1.op):=by rw[←hE,←hpl];rfl
      rw[hE];have y5:=alz w5 Zm 32;have g5:Bw w5 ((w5.alloc (.cells Zm 32)).setRow w5.heap.size E):=xo ((aA _ _).alloc (ah _) _) (ah _) E;have e5:=setRow_heap (w5.alloc (.cells Zm 32)) w5.heap.size _ E _ _ y5;obtain⟨H6,E6,Y5,HE1,HE2,HG⟩:=Cy (show _∧_∧_∧_ from⟨h5.bel g5,n5.bel g5,bk g5 m5',(HH4.out.to (P:=P) (P':=P) (X':=X) ⟨k5,fun _ _ q=>q,fun _ _ q=>q⟩).bels g5⟩) (show _∧_ from⟨(aq e5 0).trans hE0,(aq e5 1).trans hEo⟩) y5 hE1 hE2 n5.kb.size;clear kd h5 k5 m5' n5 hpl hls hE hE1 hE2 hE0 hEo y5 g5 e5 B4 M4 HH4
      go_upto_region 5 with(refine stM (.tmp 8) (.tmp 20) E Y5.out HE2.out HE1.out ?_;generalize((w5.alloc (.cells Zm 32)).setRow w5.heap.size E)=w6 at H6 E6⊢;clear Y5)
      generalize w5.heap.size=G at E6 HG⊢;have hGX:¬X G:=fun q=>by have:=HX.out _ q;have:=HG.out;omega
      refine hg (fun w'=>w'.cell? ⟨G,0,none⟩=some (.int .i64 x.1.id)∧w'.cell? ⟨G,1,none⟩=some (.int .i64 x.1.op)) ?_;intro w7 hb7 _ _;have T7:w7.cell? ⟨G,0,none⟩=some (.int .i64 x.1.id)∧w7.cell? ⟨G,1,none⟩=some (.int .i64 x.1.op):=⟨(hb7.cell (bj E6.out.1)).trans E6.out.1,(hb7.cell (bj E6.out.2)).trans E6.out.2⟩;refine hu 0 (.pointer (some ⟨C,0,none⟩)) rfl T7 ?_;refine hu 1 (.pointer (some ⟨G,0,none⟩)) rfl T7 ?_;refine hl 2 ⟨G,0,none⟩ (.int .i64 x.1.id) rfl T7 (fun _ q=>q.1) ?_;refine hu 3 (.pointer (some ⟨G,1,none⟩)) rfl T7 ?_;refine hl 4 ⟨G,1,none⟩ (.int .i64 x.1.op) rfl T7 (fun _ q=>q.2) ?_;refine hc 5 (s8 x.1.op w7) rfl (fun w' hb=>⟨(hb.cell (bj T7.1)).trans T7.1,(hb.cell (bj T7.2)).trans T7.2⟩) ?_;intro w8 hb8;have T8:w8.cell? ⟨G,0,none⟩=some (.int .i64 x.1.id)∧w8.cell? ⟨G,1,none⟩=some (.int .i64 x.1.op):=⟨(hb8.cell (bj T7.1)).trans T7.1,(hb8.cell (bj T7.2)).trans T7.2⟩;have kR:=oC x.1.id (gk x.1.op) 118 [] [] w8;refine hc 6 kR rfl (fun w' hb=>⟨(hb.cell (bj T8.1)).trans T8.1,(hb.cell (bj T8.2)).trans T8.2⟩) ?_;intro w9 hb9;have b9:=cM hb7 (cM hb8 hb9);have T9:w9.cell? ⟨G,0,none⟩=some (.int .i64 x.1.id)∧w9.cell? ⟨G,1,none⟩=some (.int .i64 x.1.op):=⟨(hb9.cell (bj T8.1)).trans T8.1,(hb9.cell (bj T8.2)).trans T8.2⟩;have ks:=Fr w0 P X C {s with ms:=s.ms.eraseIdx j} x.1.id (gk x.1.op) 118 w9 (H6.out.1.bel b9) (H6.out.2.2.2.bels b9) (by show s.out.length≤_;have:=HL.out.2;omega);rw[show(xu x.1.id (gk x.1.op) 118).row=Mg.row {id:=x.1.id,op:=gk x.1.op,code:=118,matched:=[],text:=[]} from rfl] at ks;refine hcl 7 ks rfl ?_;rintro e w10 ⟨⟨bb,rfl⟩,P10,X10,h10,n10⟩;have hlo:(Cs.sent {s with ms:=s.ms.eraseIdx j} (xu x.1.id (gk x.1.op) 118)).out.length≤1099511627776:=by
       have h1:=HL.out.2;unfold Cs.sent
       split
       ·rename_i hw
        have h2:=jM hw;show(s.out++_).length≤_;rw[xn]
        omega
       ·show s.out.length≤_
        omega
      have FIN:CaR P X C w.heap.size A w ANS m.id (I0) w10:=⟨0,_,P10,X10,rfl,h10,(H6.out.2.1.bel b9).trans n10,HFIN.out,hlo,n10.kb.at (bk b9 H6.out.2.2.1) (fun q=>by have:=HX.out _ q;omega)⟩;have HF:=hid FIN;refine⟨_,rfl,⟨(n10.kb.cell T9.1 hGX),(n10.kb.cell T9.2 hGX)⟩,?_⟩;clear FIN hlo h10 n10 ks T9 b9 kR hb9 T8 hb8 T7 hb7 H6 E6
      go_wp2_with fail
      go_meet
      exact HF.out
 case rest=>
  obtain⟨code,s2,P2,X2,rfl,h2,n2,hans,hlo,hM⟩:=hcut;have q0:wc.cell? ⟨w.heap.size,0,none⟩=some (.int .i64 m.id):=(aq hM 0).trans HA.out.2.1;have kR:=oC m.id 24 code [] [] wc;obtain⟨HM,HMM⟩:=Cg (show _∧_∧_∧_ from⟨h2,n2,hans,hlo⟩) (Hm.to HB0.out n2);clear h2 n2 hans hlo hM H3 HR HK HOK
  go_wp2_with fail
  refine ag kR ?_;rintro e w5 ⟨rfl,hb5⟩;have ks:=Fr w0 P2 X2 C s2 m.id 24 code w5 (HM.out.1.bel hb5) (HMM.out.bels hb5) HM.out.2.2.2;rw[HM.out.2.2.1] at ks;have HB5:=hid hb5;clear kR hb5 q0
  go_wp2_with fail
  refine ag ks ?_;rintro e w6 ⟨⟨bb,rfl⟩,P6,X6,h6,n6⟩;have HF:=hid (show em P X C w ANS w6 from⟨P6,X6,h6,(HM.out.2.1.bel HB5.out).trans n6⟩);clear ks h6 n6 HM HMM HB5
  go_wp2_with fail
  go_end0
  exact⟨rfl,HF.out⟩
theorem F8{id op:Int}{ks rest:List El}{m:Mg}{l:Ls}(h:oDo id op ks=some ((m,l),rest)):m.value.length≤bD ks:=by
 have key:∀{p:Prop} [Decidable p] {a b:Option ((Mg×Ls)×List El)},(a=some ((m,l),rest)→m.value.length≤bD ks)→(b=some ((m,l),rest)→m.value.length≤bD ks)→((if p then a else b)=some ((m,l),rest)→m.value.length≤bD ks):=fun ha hb h=>by split at h;exact ha h;exact hb h
 have hadd:∀o,fh id o ks=some ((m,l),rest)→m.value.length≤bD ks:=by
  intro o h;simp only[fh,ax,aV] at h;obtain⟨d,h1,x,h2,h⟩:=h;cases h
  simp
 revert h
 unfold oDo;refine key (fun h=>?_) (key (fun h=>?_) (key (fun h=>?_) (key (fun h=>hadd 8 h) (key (fun h=>hadd 4 h) (key (fun h=>?_) (key (fun h=>?_) (key (fun h=>?_) (key (fun h=>?_) (fun h=>?_)))))))))
 ·simp only[gU,ax] at h
  obtain⟨v,h1,d,h2,s,h3,h⟩:=h
  split at h
  ·cases h
   simp
  ·simp only[ax] at h
   obtain⟨k,h4,t,h5,z,h6,h7⟩:=h;cases (bY h7).1
   simp
 ·simp only[fG,ax,aV] at h
  obtain⟨d,h1,s,h2,r,h4,z,h5,t,h6,y,h7,f,h8,k,h9,a,h10,h⟩:=h;cases h
  simp
 ·simp only[fH,ax,aV] at h
  obtain⟨d,h1,x,h2,h⟩:=h;cases h
  simp
 ·simp only[gV,ax,aV] at h
  obtain⟨d,h1,n,h2,y,h5,s,h7,h⟩:=h;cases h
  simp
 ·simp only[eZ,ax] at h
  obtain⟨d,h1,k,h2,t,h5,v,h7,h⟩:=h;cases (bY h).1;have q1:=dF h1;obtain⟨e,g1,g2,g3⟩:=l0 h2;have q2:=dB g1;have q3:=dF h5;have q4:=dF h7;simp only
  omega
 ·simp only[fI,ax,aV] at h
  obtain⟨o,h1,v,h7,h⟩:=h;cases h;obtain⟨e,g1,g2,g3⟩:=l0 h1;have q3:=gL h7;simp only
  omega
 ·simp only[dI,ax] at h
  obtain⟨c,h1,a,h2,t,h5,h⟩:=h;have q1:=gm h1;have q2:=dF h2;have q3:=dF h5
  split at h
  ·simp only[ax] at h
   obtain⟨o,h7,h⟩:=h;have q4:=gL h7
   split at h
   ·cases h
   ·simp only[aV] at h
    obtain⟨v,h9,h⟩:=h;have q5:=gL h9;cases h;simp only
    omega
  ·cases h
   simp
 ·cases h
theorem F9{id:Int}{e:El}{x:Mg×Ls}(h:oOp id e=some x):x.1.value.length≤cW e:=by
 unfold oOp at h
 split at h
 ·simp only[ax] at h
  obtain⟨s,h1,h⟩:=h
  split at h
  ·cases h;simp
  ·cases h
 ·split at h
  ·simp only[aV] at h
   obtain⟨s,h1,h⟩:=h;cases h
   simp
  ·split at h
   ·simp only[aV] at h
    obtain⟨s,h1,h⟩:=h;cases h
    simp
   ·simp only[ax] at h
    obtain⟨r,h1,y,h3,h4⟩:=h;have q:=dB h1;obtain⟨e1,_⟩:=bY h4;obtain⟨y1,y2⟩:=y;simp only at e1;subst e1;have:=F8 h3
    omega
theorem FR{e:El}{y:Mg×Ls}(h:dU e=some y):y.1.value.length≤cW e:=by
 simp only[dU,ax] at h;obtain⟨r,h1,n,h2,x,h3,h⟩:=h;have q1:=dB h1;have q2:=gm h2;obtain⟨e3,g1,g2,g3⟩:=l0 h3;have q3:=F9 g1
 split at h
 ·simp only[ax] at h
  obtain⟨c,h4,h5⟩:=h;cases (bY h5).1;simp only
  omega
 ·obtain⟨e1,_⟩:=bY h
  rw[←e1]
  omega
theorem Ff{b:List UInt8}{y:Mg×Ls}(h:dy b=.ok y):y.1.value.length≤65536:=by
 unfold dy fO at h;cases hr:bP 20 b with
 |error c=>rw[hr] at h;cases h
 |ok p=>
  obtain⟨el,r⟩:=p;rw[hr] at h;cases r with
  |cons x r=>cases h
  |nil=>
   simp only at h;cases hT:dU el with
   |none=>rw[hT] at h;cases h
   |some z=>
    rw[hT] at h;simp only at h
    split at h
    ·cases h
     have h1:=(fL 20 b el [] hr).2;have h2:=FR hT
     omega
    ·cases h
def Cs.pot(s:Cs):Nat:=s.ms.length+s.inn.length
structure NxI (s:Cs):Prop where
 ms:s.ms.length≤16
 val:∀y∈s.ms,LsOk y.1 y.2∧y.1.value.length≤1000000
 bd:s.out.length+200000*(s.ms.length+s.inn.length)+(if s.cl=true then 0 else 70000)≤1099511627776
theorem FK:Dx.length≤65536:=jM CT
theorem EZ{s:Cs}(h:NxI s)(hc:¬s.cl=true):NxI s.gone∧s.gone.pot≤s.pot:=by
 have h1:=h.bd;have h2:=FK;rw[if_neg hc] at h1;refine⟨⟨by simp[Cs.gone,Cs.shut],(fun y hy=>by simp[Cs.gone,Cs.shut] at hy),?_⟩,by simp[Cs.gone,Cs.shut,Cs.pot]⟩;show(s.out++Dx).length+200000*(0+0)+(if true=true then 0 else 70000)≤_;rw[xn,if_pos rfl]
 omega
theorem FL{s:Cs}{y:Mg×Ls}{k:Nat}(h:NxI s)(hc:¬s.cl=true)(hy:LsOk y.1 y.2∧y.1.value.length≤1000000)(hk:2≤k)(hkl:k≤s.inn.length)(hm:s.ms.length<16):NxI (Cs.comes {s with inn:=s.inn.drop k} y)∧(Cs.comes {s with inn:=s.inn.drop k} y).pot≤s.pot:=by
 have h1:=h.bd;rw[if_neg hc] at h1;have hd:(s.inn.drop k).length=s.inn.length -k:=List.length_drop;unfold Cs.comes
 split
 ·refine⟨⟨by simp[Cs.shut],(fun y hy=>by simp[Cs.shut] at hy),?_⟩,by simp[Cs.shut,Cs.pot]⟩
  show s.out.length+200000*(0+0)+(if true=true then 0 else 70000)≤_;rw[if_pos rfl]
  omega
 ·split
  ·have hf:(s.ms.filter fun z=>z.1.id !=y.1.target).length≤s.ms.length:=List.length_filter_le _ _
   refine⟨⟨by show(s.ms.filter _).length≤16;omega,fun z hz=>h.val z (List.mem_filter.1 hz).1,?_⟩,by show(s.ms.filter _).length+(s.inn.drop k).length≤s.ms.length+s.inn.length;omega⟩;show s.out.length+200000*((s.ms.filter _).length+(s.inn.drop k).length)+(if s.cl=true then 0 else 70000)≤_;rw[if_neg hc]
   omega
  ·refine⟨⟨by show(s.ms++[y]).length≤16;simp;omega,fun z hz=>?_,?_⟩,by show(s.ms++[y]).length+(s.inn.drop k).length≤s.ms.length+s.inn.length;simp;omega⟩
   ·rcases List.mem_append.1 hz with q|q
    ·exact h.val z q
    ·rw[List.mem_singleton] at q;rw[q];exact hy
   ·show s.out.length+200000*((s.ms++[y]).length+(s.inn.drop k).length)+(if s.cl=true then 0 else 70000)≤_
    rw[if_neg hc,xn,List.length_singleton]
    omega
theorem Fd:∀(n:Nat) (s:Cs),NxI s→NxI (Cs.cut n s)∧(Cs.cut n s).pot≤s.pot
 |0,s,h=>⟨h,ah _⟩
 |n+1,s,h=>by
  unfold Cs.cut
  split
  ·exact⟨h,ah _⟩
  ·rename_i h0
   have hc:¬s.cl=true:=fun q=>h0 (.inl q)
   have hm:s.ms.length<16:=Nat.lt_of_not_le fun q=>h0 (.inr q)
   split
   ·exact⟨h,ah _⟩
   ·rename_i hf
    split
    ·exact EZ h hc
    ·rename_i hz
     have hz:(eA s.inn).2=0:=Classical.not_not.1 hz;have hkl:(eA s.inn).1≤s.inn.length:=Nat.le_of_not_lt fun q=>hf (.inr ⟨hz,q⟩)
     have hk:2≤(eA s.inn).1:=by have:=mh s.inn hz;unfold eA;simp only;omega
     split
     ·exact EZ h hc
     ·rename_i y hy
      split
      ·exact EZ h hc
      ·obtain⟨q1,q2⟩:=FL h hc (y:=y) ⟨(Fb hy).2,by have:=Ff hy;omega⟩ hk hkl hm
       obtain⟨q3,q4⟩:=Fd n _ q1;exact⟨q3,Nat.le_trans q4 q2⟩
theorem Ft(s:Cs)(m:Mg):(s.sent m).inn=s.inn∧(s.sent m).ms=s.ms∧(s.sent m).cur=s.cur∧(s.sent m).cl=s.cl∧(s.sent m).out.length≤s.out.length+65536:=by
 unfold Cs.sent
 split
 ·rename_i h
  have:=jM h;refine⟨rfl,rfl,rfl,rfl,?_⟩;show(s.out++(cR m {}).1).length≤_;rw[xn]
  omega
 ·exact⟨rfl,rfl,rfl,rfl,by omega⟩
theorem FM(s:Cs)(y:Mg):(s.cancels y).inn=s.inn∧(∀z∈(s.cancels y).ms,z∈s.ms)∧(s.cancels y).ms.length≤s.ms.length∧(s.cancels y).cur=s.cur∧(s.cancels y).cl=s.cl∧(s.cancels y).out.length≤s.out.length+131072:=by
 have key:∀m,(s.sent m).inn=s.inn∧(∀z∈(s.sent m).ms,z∈s.ms)∧(s.sent m).ms.length≤s.ms.length∧(s.sent m).cur=s.cur∧(s.sent m).cl=s.cl∧(s.sent m).out.length≤s.out.length+131072:=fun m=>by
  obtain⟨h1,h2,h3,h4,h5⟩:=Ft s m;exact⟨h1,by rw[h2];exact fun _ q=>q,by rw[h2];exact ah _,h3,h4,by omega⟩
 unfold Cs.cancels
 split
 ·rename_i k _ _
  split
  ·exact key _
  ·split
   ·exact key _
   ·rename_i x _ _
    obtain⟨h1,h2,h3,h4,h5⟩:=Ft (s.strike k) (xu x.1.id (gk x.1.op) 118);obtain⟨g1,g2,g3,g4,g5⟩:=Ft ((s.strike k).sent (xu x.1.id (gk x.1.op) 118)) (xu y.id 24 0);refine⟨g1.trans h1,by rw[g2,h2];exact fun z q=>(List.mem_filter.1 q).1,by rw[g2,h2];exact List.length_filter_le _ _,g3.trans h3,g4.trans h4,?_⟩;have h5:_≤s.out.length+65536:=h5
    omega
 ·exact key _
def Cs.after(s:Cs)(y:Mg×Ls)(r:List (Mg×Ls)):Cs:=Cs.cut ((Cs.cancels {s with ms:=r} y.1).inn.length+1) (Cs.cancels {s with ms:=r} y.1)
def Cs.next:Nat→Cs→Option (Mg×Ls)×Cs
 |0,s=>(none,s)
 |n+1,s=>if s.cl=true∨s.cur.isSome=true then(none,s) else match s.ms with
  |[]=>(none,s)
  |y::r=>if gS y.1=true then Cs.next n (s.after y r) else(some y,s.took y r)
theorem EO{s:Cs}{y:Mg×Ls}{r:List (Mg×Ls)}(n:Nat)(hcl:s.cl=false)(hcu:s.cur=none)(hms:s.ms=y::r):Cs.next (n+1) s=if gS y.1=true then Cs.next n (s.after y r) else(some y,s.took y r):=by
 conv=>lhs;unfold Cs.next
 rw[if_neg (show ¬(s.cl=true∨s.cur.isSome=true) by rw[hcl,hcu];simp),hms]
theorem Fu{s:Cs}{y:Mg×Ls}{r:List (Mg×Ls)}(h:NxI s)(hc:¬s.cl=true)(hms:s.ms=y::r):NxI (Cs.cancels {s with ms:=r} y.1)∧(Cs.cancels {s with ms:=r} y.1).pot<s.pot:=by
 obtain⟨h1,h2,h3,h4,h5,h6⟩:=FM {s with ms:=r} y.1;have hl:s.ms.length=r.length+1:=by rw[hms];rfl
 have hb:=h.bd;have hm:=h.ms;rw[if_neg hc] at hb;have h3:(Cs.cancels {s with ms:=r} y.1).ms.length≤r.length:=h3;have h1:(Cs.cancels {s with ms:=r} y.1).inn=s.inn:=h1;have h6:(Cs.cancels {s with ms:=r} y.1).out.length≤s.out.length+131072:=h6;have h5:(Cs.cancels {s with ms:=r} y.1).cl=s.cl:=h5;refine⟨⟨by omega,fun z hz=>h.val z (by rw[hms];exact List.mem_cons_of_mem _ (h2 z hz)),?_⟩,?_⟩
 ·rw[h5,if_neg hc,h1]
  omega
 ·unfold Cs.pot
  rw[h1]
  omega
theorem Fg{s:Cs}{y:Mg×Ls}{r:List (Mg×Ls)}(h:NxI s)(hc:¬s.cl=true)(hms:s.ms=y::r):NxI (s.after y r)∧(s.after y r).pot<s.pot:=by
 obtain⟨h1,h2⟩:=Fu h hc hms;obtain⟨h3,h4⟩:=Fd ((Cs.cancels {s with ms:=r} y.1).inn.length+1) _ h1;exact⟨h3,Nat.lt_of_le_of_lt h4 h2⟩
theorem NxI.mono{s t:Cs}(h:NxI s)(h1:t.ms.length≤s.ms.length)(h2:∀y∈t.ms,y∈s.ms)(h3:t.inn=s.inn)(h4:t.out=s.out)(h5:t.cl=s.cl):NxI t:=
 ⟨Nat.le_trans h1 h.ms,fun y hy=>h.val y (h2 y hy),by have:=h.bd;rw[h3,h4,h5];omega⟩
theorem FS{s:Cs}{y:Mg×Ls}{r:List (Mg×Ls)}(h:NxI s)(hms:s.ms=y::r):NxI (s.took y r):=
 (Fd _ _ (h.mono (t:={s with ms:=r,cur:=some (y.1.id,y.1.op)}) (by rw[hms];simp) (fun z hz=>by rw[hms];exact List.mem_cons_of_mem _ hz) rfl rfl rfl)).1
theorem Fh:∀(n:Nat) (s:Cs),NxI s→NxI (Cs.next n s).2
 |0,s,h=>h
 |n+1,s,h=>by
  unfold Cs.next
  split
  ·exact h
  ·rename_i h0
   split
   ·exact h
   ·rename_i y r hms
    split
    ·exact Fh n _ (Fg h (fun q=>h0 (.inl q)) hms).1
    ·exact FS h hms
def nxC(s:Cs):Option (Mg×Ls)×Cs:=Cs.next (s.pot+1) s
theorem F0{s:Cs}(h:NxI s):NxI {(nxC s).2 with cur:=none}:=(Fh (s.pot+1) s h).mono (ah _) (fun _ q=>q) rfl rfl rfl
def EW(C:Nat)(w:World):Nat:=match w.cell? ⟨C,1,none⟩ with|some (.slice _ n _)=>n|_=>0
theorem Fv{P X:Nat→Prop}{C:Nat}{s:Cs}{w:World}(h:dc P X C s w):EW C w=s.ms.length:=by
 obtain⟨_,_,⟨a,cap,h1⟩,_⟩:=h.cells;unfold EW;rw[h1]
def FG(P X:Nat→Prop)(C E:Nat)(w:World)(ANS:Option (Mg×Ls)×Cs)(wr:World):Prop:=
 ∃(P1 X1:Nat→Prop) (s:Cs) (n:Nat),dc P1 X1 C s wr∧Nx P X w P1 X1 wr∧¬P1 E∧(∀g,P1 g→g<wr.heap.size)∧Hc wr E Zm 32∧s.pot<n∧NxI s∧Cs.next n s=ANS
theorem EU(w0:World)(P X:Nat→Prop)(C:Nat)(s:Cs)(w:World)(h:dc P X C s w)(hH:Hm w0 X w)(hI:NxI s):
  Calls Tryz.prog 17 #[.pointer (some ⟨C,0,none⟩)] w (EK P X C w (Cs.next (s.pot+1) s)):=by
 obtain⟨ANS,hA⟩:=nmm (Cs.next (s.pot+1) s);rw[hA];generalize hPR:(EK P X C w ANS:Ending→World→Prop)=PR;have b1:=alb w Zm 32;have x1:=alz w Zm 32;have h1:=h.small.bel b1;obtain⟨HREL,HPR,HH⟩:=Ch (show FG P X C w.heap.size w ANS (w.alloc (.cells Zm 32)) from⟨_,X,s,s.pot+1,h1,⟨Kb.of b1,fun _ _ q=>q,fun _ _ q=>q.1⟩,(fun q=>Nat.lt_irrefl _ q.2),(fun g hg=>Nat.lt_of_lt_of_le hg.2 b1.size),x1,Nat.lt_succ_self _,hI,hA⟩) hPR hH;clear hPR b1 x1 h1 hA h hH hI
 go_enter Tryz.func17,Tryz.ntmps17
 go_wp2_with fail
 go_loopw [] (fun wr=>FG P X C w.heap.size w ANS wr) (fun wr=>EW C wr+pm C wr)
 case atStart=>exact HREL.out
 case round=>
  obtain⟨P1,X1,s1,n,hat,hnx,hPE,hPl,xr,hn,hI,hnext⟩:=hrel;have hM0:EW C wr+pm C wr=s1.pot:=by rw[Fv hat,vS hat];rfl
  have HM0:=Lib.hid hM0;have hsz:=hnx.kb.size;have hXE:¬X1 w.heap.size:=fun q=>hPE (by obtain⟨_,_,_,_,_,_,q2⟩:=hat;exact q2.b.xP _ q)
  obtain⟨n,rfl⟩:∃k,n=k+1:=⟨n -1,by omega⟩;obtain⟨c8,c3,⟨av,cap,c1⟩,z3⟩:=hat.cells;clear hM0
  by_cases hid:s1.cl=true∨s1.cur.isSome=true∨s1.ms=[]
  ·have hans:ANS=(none,s1):=by
    rw[←hnext];unfold Cs.next
    by_cases h1:s1.cl=true∨s1.cur.isSome=true
    ·rw[if_pos h1]
    ·rw[if_neg h1]
     have h2:s1.ms=[]:=by
      rcases hid with q|q|q
      ·exact absurd (.inl q) h1
      ·exact absurd (.inr q) h1
      ·exact q
     rw[h2]
   obtain⟨D,hD⟩:=nmm (Zm:Array Value);have hD1:D.all (·.oneCell')=true:=by rw[←hD];simp[Value.oneCell']
   have hD2:D.size=28:=by rw[←hD];rfl
   have e3:=setRow_heap wr w.heap.size _ D _ _ xr;have FIN:PR (.returned (.tuple #[.agg D,Bf])) (wr.setRow w.heap.size D):=by
    rw[←HPR.out,hans];exact⟨by rw[←hD];rfl,P1,X1,hat.row hPE D,hnx.kb.row (.inr (ah _)) D,hnx.xs,hnx.ps⟩
   have c3':(∃F,wr.cell? ⟨C,3,none⟩=some (.pointer (some ⟨F,0,none⟩)))∨(s1.cur=none∧wr.cell? ⟨C,3,none⟩=some (.pointer none)):=by
    cases hcu:s1.cur with
    |none=>exact .inr ⟨rfl,c3 hcu⟩
    |some c=>exact .inl (hat.cells2 hcu).1
   have HX:Hid (wr.cell? ⟨C,8,none⟩=some (.bool true)∨(wr.cell? ⟨C,8,none⟩=some (Bf)∧∃F,wr.cell? ⟨C,3,none⟩=some (.pointer (some ⟨F,0,none⟩)))∨(wr.cell? ⟨C,8,none⟩=some (Bf)∧wr.cell? ⟨C,3,none⟩=some (.pointer none)∧wr.cell? ⟨C,1,none⟩=some (.slice av 0 cap))):=Lib.hid (by
    cases hcl:s1.cl with
    |true=>rw[hcl] at c8;exact .inl c8
    |false=>
     rw[hcl] at c8;rcases c3' with q|⟨q0,q⟩
     ·exact .inr (.inl ⟨c8,q⟩)
     ·refine .inr (.inr ⟨c8,q,?_⟩)
      rcases hid with r|r|r
      ·rw[hcl] at r;cases r
      ·rw[q0] at r;cases r
      ·rw[r] at c1;exact c1)
   obtain⟨XR,HD,HD1,HD2,HF,E3⟩:=Cy xr hD hD1 hD2 FIN e3;clear c8 c3 c1 z3 c3' FIN hans hnext hat hnx hPE hPl xr hI hid hD hD1 hD2 e3 hn;rcases HX.out with q8|⟨q8,F,q3⟩|⟨q8,q3,q1⟩
   all_goals
    clear HX
    go_wp2_with (refine bh rfl 32 (.tmp 2) (.tmp 44) rfl w.heap.size 32 Zm D (by rfl) (by show Act.eval _ (.tmp 44)=.agg D;rw[←HD.out];rfl) XR.out (by rw[HD2.out];rfl) (by rw[HD2.out];rfl) HD1.out ?_;generalize wr.setRow w.heap.size D=w4 at E3 HF⊢;clear XR)
    refine aH (v:=.tuple #[.agg D,Bf]) ?_ rfl HF.out
    simp[results,Tryz.f17]
    show((Sem.run Tryz.prog (loadVar 32 ⟨w.heap.size,0,none⟩) w4).andThen fun a w'=>Result.ok (Value.tuple #[a,Bf]) w')=_;rw[aJ (P:=Tryz.prog) w4 w.heap.size 32 32 D (0,0) _ E3.out (show Tryz.prog.underlying 32=_ from Tryz.underlying32) (by rfl) (by rw[HD2.out];rfl)]
    simp
  ·have hcl:s1.cl=false:=by cases hc:s1.cl with|false=>rfl|true=>exact absurd (.inl hc) hid
   have hcu:s1.cur=none:=by cases hc:s1.cur with|none=>rfl|some c=>exact absurd (.inr (.inl (by rw[hc];rfl))) hid
   obtain⟨y,r,hms⟩:∃y r,s1.ms=y::r:=by
    cases hm:s1.ms with
    |nil=>exact absurd (.inr (.inr hm)) hid
    |cons y r=>exact⟨y,r,rfl⟩
   have c3:=c3 hcu;have hml:s1.ms.length=r.length+1:=by rw[hms];rfl
   rw[hml] at c1;rw[hcl] at c8;have hg0:decide (((r.length+1:Nat):Int)>0)=true:=aC (by omega);have kd:=sA P1 X1 C s1 0 y wr hat (by rw[hms];rfl) (by have:=hI.ms;omega);rw[show({s1 with ms:=s1.ms.eraseIdx 0}:Cs)={s1 with ms:=r} by rw[hms];rfl] at kd;have hnext2:(if gS y.1=true then Cs.next n (s1.after y r) else(some y,s1.took y r))=ANS:=by
    rw[←hnext];exact(EO n hcl hcu hms).symm
   have hcn:¬s1.cl=true:=by rw[hcl];simp
   have hci:=Fu hI hcn hms;have hai:=Fg hI hcn hms;have hCl:C<wr.heap.size:=hPl C (by obtain⟨_,_,_,_,_,_,q2⟩:=hat;exact q2.b.xP _ q2.b.xC);obtain⟨HAI,HI,HNX,HNEXT,HP,HCU,HXC⟩:=Ck (show _∧_ from⟨hci,hai⟩) hI hnx hnext2 (show _∧_∧_∧_∧_∧_∧_∧_∧_ from⟨hPE,hPl,hXE,xr,hn,hml,hCl,hcl,hms⟩) hcu hat.xC;clear hid hnext hnext2 hci hai hcn hI hnx hPE hPl hXE xr hn hml hat hms hcl hcu hCl z3
   go_wp2_with fail
   refine ag kd ?_;rintro e w2 ⟨⟨m,rfl,hpl,hls⟩,h2,k2⟩;have x2:=k2.at HP.out.2.2.2.1 HP.out.2.2.1;obtain⟨D,hD⟩:=nmm m.row;have hD1:D.all (·.oneCell')=true:=by rw[←hD];exact hls.one
   have hD2:D.size=28:=by rw[←hD];rfl
   have hD0:D[0]?=some (.int .i64 y.1.id):=by rw[←hD,←hpl];rfl
   have hDo:D[1]?=some (.int .i64 y.1.op):=by rw[←hD,←hpl];rfl
   have hic:gS m=gS y.1:=by rw[←hpl];rfl
   have hk:=k2.size;have hvl:m.value.length≤1000000:=by
    have:m.value=y.1.value:=by rw[←hpl];rfl
    rw[this];exact(HI.out.val y (by rw[HP.out.2.2.2.2.2.2.2.2];exact List.mem_cons_self ..)).2
   have kcc:=fun(W:World) (P':Nat→Prop) (hW:dc P' X1 C {s1 with ms:=r} W) (hM:Hm w0 X1 W)=>Fs w0 P' X1 C {s1 with ms:=r} m W hW hM (by rw[hD];exact hD1) hvl (by show r.length≤1000;have h1:=HI.out.ms;have h2:=HP.out.2.2.2.2.2.1;omega) (by show s1.out.length+70000≤_;have h1:=HI.out.bd;have h2:=HP.out.2.2.2.2.2.1;omega)
   have hcm:Cs.cancels {s1 with ms:=r} m=Cs.cancels {s1 with ms:=r} y.1:=by rw[←hpl];rfl
   rw[hcm,hD] at kcc;rw[hD];have ki:=fun W=>ET m W
   rw[hD,hic] at ki;have y3:=alz w2 Zm 32;have g3:Bw w2 ((w2.alloc (.cells Zm 32)).setRow w2.heap.size D):=xo ((aA _ _).alloc (ah _) _) (ah _) D;have e3:=setRow_heap (w2.alloc (.cells Zm 32)) w2.heap.size _ D _ _ y3;obtain⟨H3,Y3,HK,HD,HD0,HDO,HD1,HD2,KC,KB2⟩:=Cz (show _∧_∧_∧_∧_ from⟨h2.bel g3,bk g3 x2,e3,k2.bel g3,g3.size⟩) y3 (show _∧_∧_ from⟨hpl,hls,hk⟩) hD hD0 hDo hD1 hD2 kcc k2;have G3:=Lib.hid g3;clear kd c1 c3 c8 hg0 hpl hls h2 k2 x2 hD hD0 hDo hD1 hD2 hic hk hvl kcc hcm y3 g3 e3
   go_wp2_with (first
    |(refine stM (.tmp 4) (.tmp 30) D Y3.out HD2.out HD1.out ?_;generalize((w2.alloc (.cells Zm 32)).setRow w2.heap.size D)=w3 at H3 G3⊢;clear Y3)
    |(refine ldM (.tmp 4) H3.out.2.2.1 HD2.out ?_))
   refine ag (show Calls _ _ _ _ _ from ki w3) ?_;rintro e w4 ⟨rfl,hb4⟩;have h4:=H3.out.1.bel hb4;have x4:=bk hb4 H3.out.2.1;have e4:=bk hb4 H3.out.2.2.1;have k4:Kb X1 wr w4:=H3.out.2.2.2.1.bel hb4;have H4:=Lib.hid (show _∧_∧_∧_ from⟨h4,x4,e4,k4⟩);obtain⟨ic,hic⟩:=nmm (gS y.1);rw[hic];obtain⟨HIC,HB4⟩:=Cg hic hb4;clear ki h4 x4 e4 k4 hic hb4;cases ic with
   |true=>
    have hM4:Hm w0 X1 w4:=(HH.out.to HNX.out).to (P:=P1) (P':=P1) ⟨H4.out.2.2.2,fun _ _ q=>q,fun _ _ q=>q⟩;have kc:=KC.out w4 P1 H4.out.1 hM4;have HM4:=Lib.hid hM4;have E4:=H4.out.2.2.1;clear hM4 KC
    go_wp2_with (refine ldM (.tmp 4) E4 HD2.out ?_)
    refine ag kc ?_;rintro e w5 ⟨rfl,P5,X5,h5,n5⟩;have kcut:=wo w0 P5 X5 C _ w5 h5 (HM4.out.to n5) (by have:=HAI.out.1.1.bd;omega) HAI.out.1.1.ms (by have:=HAI.out.1.1.bd;omega);have N5:=Lib.hid n5;clear kc h5 n5 E4
    go_wp2_with fail
    refine ag kcut ?_;rintro e w6 ⟨rfl,P6,X6,h6,n6⟩;have nw:Nx P1 X1 wr P6 X6 w6:=(Nx.trans (P1:=P1) (X1:=X1) ⟨H4.out.2.2.2,fun _ _ q=>q,fun _ _ q=>q⟩ N5.out).trans n6;have hE1:=(gl HP.out.2.2.2.1);have x6:=nw.kb.at HP.out.2.2.2.1 HP.out.2.2.1;have REL:FG P X C w.heap.size w ANS w6:=⟨_,X6,s1.after y r,n,h6.small,HNX.out.trans ⟨nw.kb,nw.xs,fun j hj q=>nw.ps j hj q.1⟩,(fun q=>HP.out.1 (nw.ps _ hE1 q.1)),(fun g hg=>hg.2),x6,by have h1:=HAI.out.2.2;have h2:=HP.out.2.2.2.2.1;omega,HAI.out.2.1,by have:=HNEXT.out;rw[HIC.out,if_pos rfl] at this;exact this⟩;have MEA:EW C w6+pm C w6<EW C wr+pm C wr:=by rw[HM0.out,Fv h6,vS h6];exact HAI.out.2.2
    obtain⟨HR,HMEA⟩:=Cg REL MEA;clear REL MEA kcut h6 n6 nw hE1 x6 N5
    go_wp2_with fail
    go_roundw
    case rel=>exact HR.out
    case measure=>exact HMEA.out
   |false=>
    obtain⟨h4,x4,e4,k4⟩:=H4.out;have hFX:¬X1 w2.heap.size:=fun q=>by have h1:=HP.out.2.1 _ (by obtain⟨_,_,_,_,_,_,q2⟩:=h4;exact q2.b.xP _ q);have:=HK.out.2.2;omega
    have hE1:=(gl HP.out.2.2.2.1);obtain⟨d8,d3,_,z3⟩:=h4.cells;have d3:=d3 HCU.out;have h5:=h4.setCur (c:=(y.1.id,y.1.op)) e4 HD0.out HDO.out hFX;have hEC:w.heap.size≠C:=fun e=>HP.out.2.2.1 (by rw[e];exact HXC.out)
    have hFC:w2.heap.size≠C:=fun e=>hFX (by rw[e];exact HXC.out)
    have e5:=(heap_setCell_other w4 ⟨C,3,none⟩ w2.heap.size (.pointer (some ⟨w2.heap.size,0,none⟩)) hFC).trans e4;have x5:=(heap_setCell_other w4 ⟨C,3,none⟩ w.heap.size (.pointer (some ⟨w2.heap.size,0,none⟩)) hEC).trans x4;have k5:Kb X1 wr (w4.setCell ⟨C,3,none⟩ (.pointer (some ⟨w2.heap.size,0,none⟩))):=k4.set (.inl HXC.out) _;obtain⟨HFX,H5,E5,X5,K5⟩:=Cj hFX h5 e5 x5 k5;clear h4 x4 e4 k4 d8 h5 e5 x5 k5 H4 KC hEC hFC hFX
    go_wp2_with fail
    generalize w4.setCell ⟨C,3,none⟩ (.pointer (some ⟨w2.heap.size,0,none⟩))=w5 at H5 E5 X5 K5⊢;clear d3 z3;have hi:s1.inn.length≤1000000000:=by have:=HI.out.bd;omega
    have kc:=wo w0 _ X1 C _ w5 H5.out ((HH.out.to HNX.out).to (P:=P1) (P':=P1) ⟨K5.out,fun _ _ q=>q,fun _ _ q=>q⟩) hi (show r.length≤16 by have h1:=HI.out.ms;have h2:=HP.out.2.2.2.2.2.1;omega) (show s1.out.length≤_ by have:=HI.out.bd;omega);refine ag kc ?_;rintro e w6 ⟨rfl,P6,X6,h6,n6⟩;have e6:=n6.kb.at E5.out HFX.out;have x6:=n6.kb.at X5.out HP.out.2.2.1;have hw5:=K5.out.size;have hE5:=(gl X5.out);have hPE:¬P6 w.heap.size:=fun q=>by
     rcases n6.ps _ hE5 q with q|q
     ·exact HP.out.1 q
     ·have:=HK.out.2.2;omega
    have nw:Nx P1 X1 wr P6 X6 w6:=⟨K5.out.step n6.kb fun _ _ q=>q,fun j hj q=>n6.xs j (by omega) q,fun j hj q=>by
     rcases n6.ps j (by omega) q with q|q
     ·exact q
     ·have:=HK.out.2.2;omega⟩
    have hwr:w.heap.size≤wr.heap.size:=HNX.out.kb.size;have FIN:PR (.returned (.tuple #[.agg D,.bool true])) (w6.setRow w.heap.size D):=by
     rw[←HPR.out,←HNEXT.out,HIC.out,if_neg (by decide),←HD.out];refine⟨m,P6,X6,rfl,HK.out.1,h6.row hPE _,⟨(HNX.out.trans nw).kb.row (.inr (ah _)) _,(HNX.out.trans nw).xs,(HNX.out.trans nw).ps⟩,HK.out.2.1.kept fun g hg hl=>?_⟩;have hgr:g<wr.heap.size:=HP.out.2.1 g hg.1;have hge:g≠w.heap.size:=fun e=>HP.out.1 (e▸hg.1)
     have hg2:w6.heap[g]?=w2.heap[g]?:=(nw.kb.block g hgr hg.2).trans (KB2.out.block g hgr hg.2).symm;refine⟨(setRow_other w6 w.heap.size g _ hge).trans hg2,fun hgw=>HNX.out.ps g hgw hg.1,?_,fun q=>hg.2 (nw.xs g hgr q)⟩;have q6:=nw.kb.size;have qs:(w6.setRow w.heap.size m.row).heap.size=w6.heap.size:=by simp[World.setRow]
     omega
    have t7:=setRow_heap w6 w.heap.size _ D _ _ x6;obtain⟨HF,T7,X6',E6⟩:=Ci FIN t7 x6 e6;clear FIN t7 x6 e6 h6 n6 kc H5 E5 X5 K5 hPE hw5 hE5 nw hwr hE1 hi
    go_wp2_with (first
     |(refine ldM (.tmp 4) E6.out HD2.out ?_)
     |(refine stM (.tmp 2) (.tmp 43) D X6'.out HD2.out HD1.out ?_;generalize(w6.setRow w.heap.size D)=w7 at T7 HF⊢))
    refine aH (v:=.tuple #[.agg D,.bool true]) ?_ rfl HF.out;have hr:=rlM T7.out HD2.out
    simp[results,Tryz.f17]
    show((Sem.run Tryz.prog (loadVar 32 ⟨w.heap.size,0,none⟩) w7).andThen fun a w'=>Result.ok (Value.tuple #[a,.bool true]) w')=_;rw[hr]
    simp
def EP(k:Nat):List UInt8:=[48,3,2,1,UInt8.ofNat k]
def xt(k:Nat):Mg:={id:=1,op:=23,oid:=Dc,has:=true,value:=EP k}
theorem Fa:∀k:Nat,k<21→xy (EP k)=some (k:Int):=by decide
theorem Fi:∀k:Nat,k<21→(cR (xt k) {}).2=0:=by decide
theorem Fj{m:Mg}{l:Ls}(h:(cR m l).2≠0):(cR m l).1=[]:=by
 unfold cR at h⊢
 split
 ·rename_i hv
  rw[if_pos hv] at h;unfold dD at h⊢
  split
  ·rfl
  ·rename_i h1
   rw[if_neg h1] at h
   split
   ·rfl
   ·rename_i h2
    rw[if_neg h2] at h
    split
    ·rfl
    ·rename_i h3
     rw[if_neg h3] at h
     split
     ·rfl
     ·rename_i h4
      rw[if_neg h4] at h;exact absurd rfl h
 ·rfl
theorem EQ(s:Cs)(m:Mg):s.sent m={s with out:=s.out++(cR m {}).1}:=by
 unfold Cs.sent
 split
 ·rfl
 ·rename_i h
  rw[Fj h,List.append_nil]
theorem ER{k:Nat}(h:k<21):Good (xt k,{}):=⟨Fi k h,rfl,(show fC.contains 23=true by decide),(show gq 23=false by decide),(show(1:Int)≠0 by decide)⟩
theorem Fw{s:Cs}{out:List UInt8}{B:List (Mg×Ls)}(h:InH out s B)(n:Nat):Cs.next (n+1) s=nxH s:=by
 have hs:=h.st;cases B with
 |nil=>
  rw[DZ h,hs];unfold Cs.next;rw[if_neg (by simp[stA])]
  rfl
 |cons y r=>
  have hms:s.ms=y::r.take 15:=by rw[hs];rfl
  have hno:gS y.1=false:=by unfold gS;rw[aE (h.ext y (List.mem_cons_self ..)),Bool.false_and]
  rw[EO n (by rw[hs];rfl) (by rw[hs];rfl) hms,hno,if_neg (by decide)];unfold nxH;rw[hms]
theorem FC{out:List UInt8}:∀(B:List (Mg×Ls)) (n:Nat) (s:Cs),InH out s B→mx nxC n s=mx nxH n s
 |_,0,_,_=>rfl
 |[],n+1,s,h=>by
  have e:nxC s=nxH s:=Fw h s.pot;rw[DV n (e.trans (DZ h)),DV n (DZ h)]
 |y::r,n+1,s,h=>by
  have e:nxC s=nxH s:=Fw h s.pot;rw[DW n (e.trans (Ee h)),DW n (Ee h)];show(y::(mx nxC n (stA none out r)).1,(mx nxC n (stA none out r)).2)=(y::(mx nxH n (stA none out r)).1,(mx nxH n (stA none out r)).2);rw[FC r n _ h.next]
structure CaF (F:List (Mg×Ls)):Prop where
 good:∀z∈F,Good z
 ids:(F.map (·.1.id)).Nodup
 ext:∀z∈F,z.1.op≠23
 len:F.length≤12
theorem CaF.st{F:List (Mg×Ls)}(h:CaF F)(out:List UInt8):InH out {ms:=F,out:=out} F:=by
 refine⟨?_,h.good,h.ids,h.ext,by have:=h.len;omega⟩;have hl:=h.len;unfold stA;rw[List.take_of_length_le (by omega),List.drop_of_length_le (by omega)]
 rfl
theorem FN{k:Nat}(_:k<21){F F':List (Mg×Ls)}{out:List UInt8}(hF:CaF F)(hF':CaF F')(hc:Cs.cancels {ms:=F} (xt k)={ms:=F',out:=out}):
  mx nxC 400 (stA none [] ((xt k,{})::F))=(F',{out:=out}):=by
 have hl:=hF.len;have hst:stA none [] ((xt k,{})::F)={ms:=(xt k,{})::F}:=by
  unfold stA;rw[List.take_of_length_le (by simp;omega),List.drop_of_length_le (by simp;omega)]
  rfl
 have h1:nxC (stA none [] ((xt k,{})::F))=nxH {ms:=F',out:=out}:=by
  rw[hst];unfold nxC;rw[EO (s:={ms:=(xt k,{})::F}) (y:=(xt k,{})) (r:=F) _ rfl rfl rfl,if_pos (show gS (xt k)=true by rfl)];have ha:Cs.after {ms:=(xt k,{})::F} (xt k,{}) F={ms:=F',out:=out}:=by
   unfold Cs.after;rw[show Cs.cancels {({ms:=(xt k,{})::F}:Cs) with ms:=F} (xt k)={ms:=F',out:=out} from hc];exact ld _ _ rfl
  rw[ha];exact Fw (hF'.st out) _
 have hH:=hF'.st out;have h2:mx nxC 400 (stA none [] ((xt k,{})::F))=mx nxH 400 {ms:=F',out:=out}:=by
  cases F' with
  |nil=>rw[DV 399 (h1.trans (DZ hH)),DV 399 (DZ hH)]
  |cons y r=>
   rw[DW 399 (h1.trans (Ee hH)),DW 399 (Ee hH)];show(y::(mx nxC 399 (stA none out r)).1,(mx nxC 399 (stA none out r)).2)=(y::(mx nxH 399 (stA none out r)).1,(mx nxH 399 (stA none out r)).2);rw[FC r 399 _ hH.next]
 rw[h2,Ep F' 400 _ hH (by have:=hF'.len;omega)]
 rfl
theorem FT{k:Nat}(hk:k<21){F:List (Mg×Ls)}(hn:∀z∈F,z.1.id≠(k:Int)):Cs.cancels {ms:=F} (xt k)={ms:=F,out:=(cR (xu 1 24 119) {}).1}:=by
 unfold Cs.cancels;rw[show(xt k).value=EP k from rfl,Fa k hk,show(xt k).has=true from rfl];have:F.find? (fun x=>x.1.id==(k:Int))=none:=by
  rw[List.find?_eq_none];intro b hb
  simpa using hn b hb
 simp only[this,EQ];show({ms:=F,out:=[]++(cR (xu 1 24 119) {}).1}:Cs)=_;rw[List.nil_append]
theorem FU{k:Nat}(hk:k<21){F:List (Mg×Ls)}(hF:CaF F){j:Nat}{x:Mg×Ls}(hx:F[j]?=some x)(hid:x.1.id=(k:Int))(h0:x.1.op=0):Cs.cancels {ms:=F} (xt k)={ms:=F,out:=(cR (xu 1 24 121) {}).1}:=by
 unfold Cs.cancels;rw[show(xt k).value=EP k from rfl,Fa k hk,show(xt k).has=true from rfl];have:=EV (fun y:Mg×Ls=>y.1.id) (k:Int) F j x hF.ids hx hid;simp only[this];rw[if_pos (show(x.1.op==0||gS x.1)=true by rw[h0];rfl),EQ];show({ms:=F,out:=[]++(cR (xu 1 24 121) {}).1}:Cs)=_;rw[List.nil_append]
theorem FH{k:Nat}(hk:k<21){F:List (Mg×Ls)}(hF:CaF F){j:Nat}{x:Mg×Ls}(hx:F[j]?=some x)(hid:x.1.id=(k:Int))(h0:x.1.op≠0):
  Cs.cancels {ms:=F} (xt k)={ms:=F.eraseIdx j,out:=(cR (xu k (gk x.1.op) 118) {}).1++(cR (xu 1 24 0) {}).1}:=by
 unfold Cs.cancels;rw[show(xt k).value=EP k from rfl,Fa k hk,show(xt k).has=true from rfl];have:=EV (fun y:Mg×Ls=>y.1.id) (k:Int) F j x hF.ids hx hid;simp only[this];have hic:gS x.1=false:=by unfold gS;rw[aE (hF.ext x (List.mem_of_getElem? hx)),Bool.false_and]
 rw[if_neg (show ¬(x.1.op==0||gS x.1)=true by rw[hic,aE h0];decide),EQ,EQ,hid];show({ms:=F.filter fun y=>y.1.id !=(k:Int),out:=([]++(cR (xu k (gk x.1.op) 118) {}).1)++(cR (xu 1 24 0) {}).1}:Cs)=_;rw[List.nil_append,←DU (fun y:Mg×Ls=>y.1.id) (k:Int) F j hF.ids (by rw[List.getElem?_map,hx,←hid];rfl)]
theorem CaF.erase{F:List (Mg×Ls)}(h:CaF F)(j:Nat):CaF (F.eraseIdx j):=
 ⟨fun z hz=>h.good z (List.mem_of_mem_eraseIdx hz),by rw[gx];exact h.ids.sublist (List.eraseIdx_sublist _ _),fun z hz=>h.ext z (List.mem_of_mem_eraseIdx hz),Nat.le_trans (List.length_eraseIdx_le _ _) h.len⟩
theorem Ga:∀k:Nat,k<21→dD (.mk 0 16 true [] [.mk 0 2 false [UInt8.ofNat k] []])=(EP k,0)∧bK (.mk 0 16 true [] [.mk 0 2 false [UInt8.ofNat k] []])≤65537:=by decide
theorem FO(k:Nat):LsOk (xt k) {}:=by
 constructor<;>first|exact eC|exact dx|(simp;done)|(simp[xt,EP,Dc];done)
theorem FV{k:Nat}(hk:k<21):Cs.feed {} (frB (xt k,{}))=stA none [] [(xt k,{})]:=Et (out:=[]) (B:=[]) (y:=(xt k,{})) (fun z hz=>by cases hz) (ER hk) (by simp)
theorem Gb{k:Nat}{F:List (Mg×Ls)}(hF:CaF F)(h2:∀z∈F,2≤z.1.id):(((xt k,{})::F).map (·.1.id)).Nodup:=by
 rw[List.map_cons,List.nodup_cons];refine⟨fun h=>?_,hF.ids⟩;obtain⟨z,hz,e⟩:=List.mem_map.1 h;have h3:=h2 z hz;have h4:z.1.id=1:=e
 omega
theorem FW{k:Nat}(hk:k<21){F:List (Mg×Ls)}(hF:CaF F)(h2:∀z∈F,2≤z.1.id){q:Nat}{y:Mg×Ls}(hy:F[q]?=some y):
  (stA none [] ((xt k,{})::F.take q)).feed (frB y)=stA none [] ((xt k,{})::F.take (q+1)):=by
 have ht:F.take (q+1)=F.take q++[y]:=by rw[List.take_add_one,hy];rfl
 have hnd:=Gb (k:=k) hF h2;have hg:∀z∈(xt k,({}:Ls))::F.take q,Good z:=fun z hz=>by
  rcases aY.1 hz with rfl|q'
  ·exact ER hk
  ·exact hF.good z (List.mem_of_mem_take q')
 have hn:((((xt k,({}:Ls))::F.take q)++[y]).map (·.1.id)).Nodup:=by
  rw[List.cons_append,←ht];exact hnd.sublist (((List.take_sublist (q+1) F).cons_cons _).map _)
 rw[Et hg (hF.good y (List.mem_of_getElem? hy)) hn,ht]
 rfl
theorem Gc{k:Nat}(hk:k<21){F:List (Mg×Ls)}(hF:CaF F):NxI (stA none [] ((xt k,{})::F)):=by
 have hl:=hF.len;have hok:∀z∈F,LsOk z.1 z.2∧z.1.value.length≤1000000:=fun z hz=>by
  have hr:=fo (hF.good z hz).wr;rw[(hF.good z hz).pl] at hr;exact⟨(Fb hr).2,Nat.le_trans (Ff hr) (by omega)⟩
 have hg:∀z∈(xt k,({}:Ls))::F,Good z:=fun z hz=>by
  rcases aY.1 hz with rfl|q
  ·exact ER hk
  ·exact hF.good z q
 have hi:=Eh (cur:=none) (out:=[]) hg (by simp;omega);have h0:(stA none [] ((xt k,({}:Ls))::F)).inn=[]:=by
  show List.flatMap frB (List.drop 16 _)=[];rw[List.drop_of_length_le (by simp;omega)]
  rfl
 refine⟨by show(List.take 16 _).length≤16;simp;omega,fun y hy=>?_,?_⟩
 ·rcases aY.1 (List.mem_of_mem_take hy) with rfl|q
  ·exact⟨FO k,by simp[xt,EP]⟩
  ·exact hok y q
 ·have h1:(stA none [] ((xt k,({}:Ls))::F)).ms.length≤16:=by show(List.take 16 _).length≤16;simp;omega
  rw[h0];show 0+200000*((stA none [] ((xt k,({}:Ls))::F)).ms.length+0)+(if false=true then 0 else 70000)≤_;rw[if_neg (by decide)]
  omega
theorem Fx(w:World)(hE:Env w):Cr 4 #[] w (.bool true):=by
 have kn:=nM w
 go_enter Tryz.func4,Tryz.ntmps4
 go_wp2_with fail
 refine ag kn ?_;rintro e w1 ⟨rfl,h1,b1⟩;have hm1:Hm w (Xc w.heap.size) w1:=⟨hE,b1,fun g hg=>by rw[show g=_ from hg];exact ah _⟩;have kw:=fa DS {} w1 (uA _ _ rfl) Dv hm1.now;rw[CN] at kw;simp only at kw;obtain⟨H1,HM1⟩:=Cg h1 hm1;clear kn h1 hm1 hE;have hx:(⟨#[48,9,2,1,1,74,4,100,99,61,122]⟩:ByteArray).extract 0 3=⟨#[48,9,2]⟩:=by rfl
 have hy:(⟨#[48,9,2,1,1,74,4,100,99,61,122]⟩:ByteArray).extract 3 11=⟨#[1,1,74,4,100,99,61,122]⟩:=by rfl
 go_wp2_with fail
 refine ag kw ?_;rintro e w2 ⟨rfl,hb2⟩;have h2:=H1.out.bel hb2;have m2:=HM1.out.bels hb2;have kf:=gF w _ _ _ {} [48,9,2] w2 h2 m2 (by decide) (by decide) (by decide);rw[C4] at kf;have HM2:=hid m2;clear kw hb2 h2 m2 H1 HM1
 go_wp2_with fail
 refine ag kf ?_;rintro e w3 ⟨rfl,P3,X3,h3,n3⟩;have m3:=HM2.out.to n3;have ki:Calls Tryz.prog 17 #[.pointer (some ⟨w.heap.size,0,none⟩)] w3 fun e w'=>e=.returned (.tuple #[.agg (Mg.row {}),Bf])∧em P3 X3 w.heap.size w3 {inn:=[48,9,2]} w':=EU w P3 X3 _ {inn:=[48,9,2]} w3 h3 m3 ⟨by simp,(fun y hy=>by cases hy),by decide⟩
 obtain⟨Z,hZ⟩:=nmm (Mg.row {});have hZ1:Z.all (·.oneCell')=true:=by rw[←hZ];exact row_one _ ⟨rfl,rfl,rfl,rfl,rfl⟩
 have hZ2:Z.size=28:=by rw[←hZ];rfl
 rw[hZ] at ki;obtain⟨HZ1,HZ2,H3,M3⟩:=Ci hZ1 hZ2 h3 m3;clear kf HM2 h3 n3 m3 hZ hZ1 hZ2 hx
 go_wp2_with fail
 refine ag ki ?_;rintro e w4 ⟨rfl,P4,X4,h4,n4⟩;have y4:=alz w4 Zm 32;have g4:Bw w4 ((w4.alloc (.cells Zm 32)).setRow w4.heap.size Z):=xo ((aA _ _).alloc (ah _) _) (ah _) Z;have h5:=h4.bel g4;have m5:=(M3.out.to n4).bels g4;have kf:=gF w _ _ _ {inn:=[48,9,2]} [1,1,74,4,100,99,61,122] _ h5 m5 (by decide) (by decide) (by decide);rw[Dn] at kf;obtain⟨Y4,H5,M5,KF⟩:=Ci y4 h5 m5 kf;clear ki y4 g4 h5 m5 kf H3 M3 h4 n4
 go_wp2_with (refine stM (.tmp 4) (.tmp 25) Z Y4.out HZ2.out HZ1.out ?_;generalize((w4.alloc (.cells Zm 32)).setRow w4.heap.size Z)=w5 at H5 M5 KF⊢;clear Y4)
 refine ag (show Calls _ _ _ _ _ from KF.out) ?_;rintro e w6 ⟨rfl,P6,X6,h6,n6⟩;have m6:=M5.out.to n6;have kw:=Ec _ _ _ _ w6 h6 (by decide);obtain⟨H6,M6⟩:=Cg h6 m6;clear KF h6 n6 m6 H5 M5 hy
 go_wp2_with fail
 refine ag kw ?_;rintro e w7 ⟨⟨v,rfl,hv⟩,hb7⟩;have h7:=H6.out.bel hb7;have m7:=M6.out.bels hb7;have hv:w7.ownsRow w6.heap.size 3 1 v 1 [.int .i64 1]:=hv;obtain⟨gv,cv,rfl,hgv,hgl⟩:=hv.form (by omega);have q7:w7.cell? ⟨gv,0,none⟩=some (.int .i64 1):=by have:=hv.cells (g:=gv) rfl 0 (.int .i64 1) rfl;simpa[Addr.add] using this
 have kx:Calls Tryz.prog 17 #[.pointer (some ⟨w.heap.size,0,none⟩)] w7 (Dd P6 X6 w.heap.size w7 (DS,{}) (Cs.took {ms:=[(DS,{})]} (DS,{}) [])):=EU w P6 X6 _ {ms:=[(DS,{})]} w7 h7 m7 ⟨by simp,(fun y hy=>by rw[List.mem_singleton] at hy;rw[hy];exact⟨Dv,by simp[DS]⟩),by decide⟩;rw[C7] at kx;have HG:Hid (¬X6 gv∧gv<w7.heap.size):=hid ⟨fun q=>by have:=H6.out.xl gv q;omega,hgl⟩;have M7:=hid m7;clear kw hb7 h7 m7 hv H6 M6 hgv hgl
 go_wp2_with fail
 refine ag kx ?_;rintro e w8 ⟨m,P8,X8,rfl,hpl,h8,n8,hl8⟩;have q8:w8.cell? ⟨gv,0,none⟩=some (.int .i64 1):=(World.cell?_of_block (n8.kb.block gv HG.out.2 HG.out.1)).trans q7;have m8:=M7.out.to n8;obtain⟨D,hD⟩:=nmm m.row;have hD1:D.all (·.oneCell')=true:=by rw[←hD];exact hl8.one
 have hD2:D.size=28:=by rw[←hD];rfl
 have hD3:D[2]?=some (.string ⟨#[100,99,61,122]⟩):=by rw[←hD,show m.row[2]?=some (.string ⟨m.pl.dn.toArray⟩) from rfl,hpl];rfl
 rw[hD];have y8:=alz w8 Zm 32;have e9:=setRow_heap (w8.alloc (.cells Zm 32)) w8.heap.size _ D _ _ y8;have g9:Bw w8 ((w8.alloc (.cells Zm 32)).setRow w8.heap.size D):=xo ((aA _ _).alloc (ah _) _) (ah _) D;obtain⟨Y8,E9,G9,H8,M8,HD1,HD2,HD3⟩:=Cx y8 e9 g9 h8 m8 hD1 hD2 hD3;clear kx y8 e9 g9 h8 n8 m8 hl8 hpl hD hD1 hD2 hD3 M7 q7 HG
 go_wp2_with (refine stM (.tmp 7) (.tmp 36) D Y8.out HD2.out HD1.out ?_;have q9:((w8.alloc (.cells Zm 32)).setRow w8.heap.size D).cell? ⟨gv,0,none⟩=some (.int .i64 1):=(G9.out.cell (bj q8)).trans q8;have d9:((w8.alloc (.cells Zm 32)).setRow w8.heap.size D).cell? ⟨w8.heap.size,2,none⟩=some (.string ⟨#[100,99,61,122]⟩):=(aq E9.out 2).trans HD3.out;clear q8;generalize((w8.alloc (.cells Zm 32)).setRow w8.heap.size D)=w9 at E9 G9 q9 d9⊢;clear Y8)
 have h9:=H8.out.bel G9.out;have m9:=M8.out.bels G9.out;have kc:=Eb _ _ _ _ (1,10) w9 h9 rfl;refine ag kc ?_;rintro e w10 ⟨rfl,hb10⟩;have kl:=iM _ _ _ _ w10 (h9.bel hb10);have m10:=m9.bels hb10;clear kc h9 m9 H8 M8 E9 G9 q9 d9 hb10
 go_wp2_with fail
 refine ag kl ?_;rintro e w11 ⟨rfl,hb11⟩;have km:=CM w.heap.size w11;have m11:=m10.bels hb11;clear kl m10 hb11
 go_wp2_with fail
 refine ag km ?_;rintro e w12 ⟨rfl,hb12⟩;have m12:=m11.bels hb12;clear km m11 hb12
 go_wp2_with fail
 go_ret
 exact⟨rfl,m12.bel⟩
end Go.Proofs.YtfhghdcbofbceaaGreatDoor
