/- OpA, LsA, PlainRed, RdA, RdG, OpB. -/
import Derived.Test.YtfhghdcbofbceaaGreatDoorX8
import Derived.Test.YtfhghdcbofbceaaGreatDoorX10
namespace Go.Proofs.YtfhghdcbofbceaaGreatDoor
open Go.RowKit Go.Lib
set_option maxRecDepth 100000
set_option maxHeartbeats 16000000
structure LsOk (m:Mg) (l:Ls):Prop where
 dn:m.dn.length≤100000000
 secret:m.secret.length≤100000000
 newRdn:m.newRdn.length≤100000000
 newSup:m.newSup.length≤100000000
 typ:m.typ.length≤100000000
 value:m.value.length≤100000000
 oid:m.oid.length≤100000000
 matched:m.matched.length≤100000000
 text:m.text.length≤100000000
 filt:eP l.filt
 sel:l.sel.length≤100000000
 sels:∀s∈l.sel,s.length≤1000000000
 mods:l.mods.length≤100000000
 modss:∀x∈l.mods,x.2.1.length≤1000000000∧x.2.2.length≤100000000∧∀s∈x.2.2,s.length≤1000000000
 attrs:pD l.attrs
 ctl:l.ctl.length≤100000000
 ctls:∀c∈l.ctl,c.oid.length≤100000000∧c.value.length≤100000000
def dR(ml:List Md):List Mo:=ml.map fun x=>(x.1.toNat,x.2)
theorem gD{ml:List Md}(h:ml.all (fun x=>bB x.1 2)=true){x:Md}(hx:x∈ml):0≤x.1∧x.1≤2:=by
 have:=List.all_eq_true.1 h x hx;simp only[bB,aI,aT] at this;exact this
theorem eY.nat{w:World}{v:Value}{ml:List Md}(h:eY w v ml)(hr:ml.all (fun x=>bB x.1 2)=true):kK w v (dR ml):=by
 obtain⟨a,cap,rfl,hc,hk⟩:=h;refine⟨a,cap,by simp[dR],by simpa[dR] using hc,fun h0=>?_⟩;obtain⟨g,o,rfl,hcell⟩:=hk (by intro h;apply h0;simp[dR,h]);refine⟨g,o,rfl,fun j y hj=>?_⟩;simp only[dR,List.getElem?_map] at hj;cases hx:ml[j]? with
 |none=>rw[hx] at hj;cases hj
 |some x=>
  rw[hx] at hj;simp only[aw,Option.some.injEq] at hj;subst hj;obtain⟨c0,c1,c2⟩:=hcell j x hx;have:=gD hr (List.mem_of_getElem? hx);exact⟨by rw[c0];simp only[Option.some.injEq,Value.int.injEq,true_and];omega,c1,c2⟩
theorem oe{m:Mg}{l:Ls}(hk:LsOk m l)(hr:l.mods.all (fun x=>bB x.1 2)=true):sG (dR l.mods):=by
 refine⟨by simpa[dR] using hk.mods,fun y hy=>?_⟩;simp only[dR,List.mem_map] at hy;obtain⟨x,hx,rfl⟩:=hy;have:=gD hr hx;exact⟨by show x.1.toNat≤_;omega,hk.modss x hx⟩
def ip(m:Mg):El:=if m.sasl then .mk 2 3 true [] [.mk 0 4 false m.secret []] else .mk 2 0 false m.secret []
def dh(m:Mg):List El:=
 [.mk 0 10 false (sgB m.code.toNat) [],.mk 0 4 false m.matched [],.mk 0 4 false m.text []]++(if m.oid=[] then[] else[.mk 2 10 false m.oid []])++(if m.has then[.mk 2 11 false m.value []] else[])
def opE(m:Mg)(l:Ls):El:=
 if m.op=0 then .mk 1 0 true [] [.mk 0 2 false (sgB m.ver.toNat) [],.mk 0 4 false m.dn [],ip m]
 else if m.op=2 then .mk 1 2 false [] []
 else if m.op=3 then .mk 1 3 true [] (cY m.dn m.scope.toNat m.deref.toNat m.size.toNat m.time.toNat m.types (cD 20 l.filt).1 l.sel)
 else if m.op=6 then .mk 1 6 true [] [.mk 0 4 false m.dn [],.mk 0 16 true [] ((dR l.mods).map du)]
 else if m.op=8∨m.op=4 then .mk 1 m.op true [] [.mk 0 4 false m.dn [],.mk 0 16 true [] (l.attrs.map bI)]
 else if m.op=10 then .mk 1 10 false m.dn []
 else if m.op=12 then .mk 1 12 true [] ([.mk 0 4 false m.dn [],.mk 0 4 false m.newRdn [],.mk 0 1 false (blB m.delOld) []]++if m.hasSup then[.mk 2 0 false m.newSup []] else[])
 else if m.op=14 then .mk 1 14 true [] [.mk 0 4 false m.dn [],.mk 0 16 true [] [.mk 0 4 false m.typ [],.mk 0 4 false m.value []]]
 else if m.op=16 then .mk 1 16 false (sgB m.target.toNat) []
 else if m.op=23 then .mk 1 23 true [] ([.mk 2 0 false m.oid []]++if m.has then[.mk 2 1 false m.value []] else[])
 else .mk 1 m.op true [] (dh m)
theorem sT(args:Array Value)(w:World):(callFunc 78 args).run Tryz.prog w=.ok (.enter 78 args) w:=by go_simp
theorem sU(args:Array Value)(w:World):(callFunc 79 args).run Tryz.prog w=.ok (.enter 79 args) w:=by go_simp
theorem og(args:Array Value)(w:World):(callFunc 85 args).run Tryz.prog w=.ok (.enter 85 args) w:=by go_simp
theorem Bo(args:Array Value)(w:World):(callFunc 86 args).run Tryz.prog w=.ok (.enter 86 args) w:=by go_simp
theorem oh(args:Array Value)(w:World):(callFunc 87 args).run Tryz.prog w=.ok (.enter 87 args) w:=by go_simp
theorem DR(args:Array Value)(w:World):(callFunc 76 args).run Tryz.prog w=.ok (.enter 76 args) w:=by go_simp
theorem kX{n:Nat}(h:n≤127):sgB n=[UInt8.ofNat n]:=by
 unfold sgB;rw[if_pos (by omega)]
theorem xp{m:Mg}{l:Ls}(h:bH m l=true):br m l=true∧(0≤m.id∧m.id≤2147483647)∧(m.op≠6→l.mods=[]):=by
 simp only[bH,aI,bB,aT] at h;obtain⟨⟨⟨⟨h1,h2⟩,h3⟩,h4⟩,h5⟩:=h;refine⟨h1,h2,fun h6=>?_⟩;simp only[iB,aI,gQ,h6,if_false,beq_iff_eq] at h4;exact List.length_eq_zero_iff.1 h4.1.2.symm
theorem dj{m:Mg}{l:Ls}{w:World}(hm:MgM w m l)(hk:LsOk m l)(hr:l.mods.all (fun x=>bB x.1 2)=true)(w':World)(hb:Bw w w'):
  Calls Tryz.prog 82 #[m.mods] w' fun e w''=>(∃v,e=.returned v∧rp ((dR l.mods).map du) v w'')∧Bw w' w'':=
 (qZ m.mods (dR l.mods) w' ((hm.mods.below hb).nat hr) (oe hk hr)).mono fun _ _ ⟨⟨u,h,hu⟩,hb⟩=>⟨⟨_,h,u,rfl,hu.mono fun _ _ _=>trivial⟩,hb⟩
theorem cZ{m:Mg}{l:Ls}{w:World}(hm:MgM w m l)(hk:LsOk m l)(w':World)(hb:Bw w w'):
  Calls Tryz.prog 83 #[m.attrs] w' fun e w''=>(∃v,e=.returned v∧rp (l.attrs.map bI) v w'')∧Bw w' w'':=
 (pE m.attrs l.attrs w' (hm.attrs.below hb) hk.attrs).mono fun _ _ ⟨⟨u,h,hu⟩,hb⟩=>⟨⟨_,h,u,rfl,hu.mono fun _ _ _=>trivial⟩,hb⟩
theorem xF{m:Mg}{l:Ls}(hk:LsOk m l):SmE (.mk 0 16 true [] (l.attrs.map bI)):=by
 have h1:=mT l.attrs hk.attrs.2;have h2:=hk.attrs.1;simp only[SmE,List.length_map];exact⟨by simp,by omega,h1⟩
theorem mg{m:Mg}{l:Ls}(hk:LsOk m l)(hr:l.mods.all (fun x=>bB x.1 2)=true):SmE (.mk 0 16 true [] ((dR l.mods).map du)):=by
 have h0:=oe hk hr;have h1:=zR (dR l.mods) h0.2;have h2:=h0.1;simp only[SmE,List.length_map];exact⟨by simp,by omega,h1⟩
def opx(w:World)(m:Mg)(l:Ls):OpX:=⟨w.heap.size,m.dn,m.typ,m.value,m.mods,m.attrs,(dR l.mods).map du,l.attrs.map bI⟩
theorem kY{m:Mg}{l:Ls}(hk:LsOk m l)(_:m.code.toNat≤2147483647):SmL (dh m)∧(dh m).length≤5:=by
 have h1:=(eg m.code.toNat).2;have h2:=hk.matched;have h3:=hk.text;have h4:=hk.oid;have h5:=hk.value;unfold dh
 constructor
 ·refine wP _ _ (wP _ _ ?_ ?_) ?_
  ·simp only[SmL,SmE];simp;omega
  ·split<;>simp only[SmL,SmE]<;>simp;omega
  ·split<;>simp only[SmL,SmE]<;>simp;omega
 ·split<;>split<;>simp
theorem oK(m:Mg)(l:Ls)(hk:LsOk m l)(h0:0≤m.code)(h1:m.code≤2147483647)(w:World):
  Calls Tryz.prog 88 #[.agg m.row] w fun e w'=>(∃v a n c,e=.returned v∧v=.slice a n c∧bf (fun _=>True) w' v (dh m))∧Bw w w':=by
 have hc:m.code=(m.code.toNat:Int):=by omega
 have fin:∀(K:List El),dh m=K→(Calls Tryz.prog 88 #[.agg m.row] w fun e w'=>(∃v,e=.returned v∧bJ w.heap.size w' v K)∧Bw w w')→Calls Tryz.prog 88 #[.agg m.row] w fun e w'=>(∃v a n c,e=.returned v∧v=.slice a n c∧bf (fun _=>True) w' v (dh m))∧Bw w w':=by
  intro K hK h;rw[hK];refine h.mono ?_;rintro e w' ⟨⟨v,rfl,ho⟩,hb⟩;obtain⟨a,c,hv⟩:=ho.shape;exact⟨⟨v,a,_,c,rfl,hv,ho.kids⟩,hb⟩
 have c24:m.row[24]?=some (.int .i64 (m.code.toNat:Int)):=by rw[←hc];rfl
 have hval:=hk.value;have hoid:=hk.oid
 by_cases ho:m.oid=[]
 ·have c21:m.row[21]?=some (.string ⟨#[]⟩):=by
   have:m.row[21]?=some (.string ⟨m.oid.toArray⟩):=rfl;rw[this,ho]
  cases hh:m.has
  ·exact fin _ (by simp[dh,ho,hh]) (pR m.row m.code.toNat m.matched m.text w c24 rfl rfl c21 ((show m.row[22]?=some (.bool m.has) from rfl).trans (by rw[hh])) (by omega))
  ·exact fin _ (by simp[dh,ho,hh]) (pS m.row m.code.toNat m.matched m.text m.value w c24 rfl rfl c21 ((show m.row[22]?=some (.bool m.has) from rfl).trans (by rw[hh])) rfl (by omega) (by omega))
 ·cases hh:m.has
  ·exact fin _ (by simp[dh,ho,hh]) (pT m.row m.code.toNat m.matched m.text m.oid w c24 rfl rfl rfl ((show m.row[22]?=some (.bool m.has) from rfl).trans (by rw[hh])) (by omega) ho (by omega))
  ·exact fin _ (by simp[dh,ho,hh]) (pU m.row m.code.toNat m.matched m.text m.oid m.value w c24 rfl rfl rfl ((show m.row[22]?=some (.bool m.has) from rfl).trans (by rw[hh])) rfl (by omega) ho (by omega) (by omega))
structure Kd (α:Type) where
 K:Nat
 R:(Nat→Prop)→World→α→List Value→Prop
 len:∀{P:Nat→Prop} {w:World} {x:α} {c:List Value},R P w x c→c.length=K
 one:∀{P:Nat→Prop} {w:World} {x:α} {c:List Value},R P w x c→∀u∈c,u.oneCell'=true
 kept:∀{P Q:Nat→Prop} {w w':World} {x:α} {c:List Value},R P w x c→(∀g,P g→g<w.heap.size→w'.heap[g]?=w.heap[g]?∧Q g)→R Q w' x c
def bM{α:Type}(kd:Kd α)(P:Nat→Prop)(w:World)(v:Value)(l:List α):Prop:=
 ∃a cap,v=.slice a l.length cap∧l.length≤cap∧(l≠[]→∃g o,a=some ⟨g,o,none⟩∧P g∧∀(j:Nat) (x:α),l[j]?=some x→∃c,(∀(i:Nat) (u:Value),c[i]?=some u→w.cell? ⟨g,o+j*kd.K+i,none⟩=some u)∧kd.R P w x c)
theorem bM.nil{α:Type}(kd:Kd α)(P:Nat→Prop)(w:World):bM kd P w (Sn) []:=⟨none,0,rfl,ah _,fun h=>absurd rfl h⟩
theorem bM.shape{α:Type}{kd:Kd α}{P:Nat→Prop}{w:World}{v:Value}{l:List α}(h:bM kd P w v l):∃a c,v=.slice a l.length c:=by
 obtain⟨a,c,hv,_⟩:=h;exact⟨a,c,hv⟩
theorem bM.kept{α:Type}{kd:Kd α}{P Q:Nat→Prop}{w w':World}{v:Value}{l:List α}(h:bM kd P w v l)(hk:∀g,P g→g<w.heap.size→w'.heap[g]?=w.heap[g]?∧Q g)(hK:0<kd.K):bM kd Q w' v l:=by
 obtain⟨a,cap,hv,hc,hr⟩:=h;refine⟨a,cap,hv,hc,fun h0=>?_⟩;obtain⟨g,o,ha,hp,hcell⟩:=hr h0;have hlt:g<w.heap.size:=by
  obtain⟨x,r,rfl⟩:∃x r,l=x::r:=by cases l with|nil=>exact absurd rfl h0|cons x r=>exact⟨x,r,rfl⟩
  obtain⟨c,h1,h2⟩:=hcell 0 x rfl;have hl:=kd.len h2;have:=h1 0 (c[0]'(by omega)) (aM _);exact bj this
 obtain⟨hb,hq⟩:=hk g hp hlt;refine⟨g,o,ha,hq,fun j x hj=>?_⟩;obtain⟨c,h1,h2⟩:=hcell j x hj;exact⟨c,fun i u hu=>(World.cell?_of_block (w:=w) hb).trans (h1 i u hu),kd.kept h2 hk⟩
theorem bM.below{α:Type}{kd:Kd α}{P:Nat→Prop}{w w':World}{v:Value}{l:List α}(h:bM kd P w v l)(hb:Bw w w')(hK:0<kd.K):bM kd P w' v l:=h.kept (fun g hp hl=>⟨hb.block g hl,hp⟩) hK
theorem bM.mono{α:Type}{kd:Kd α}{P Q:Nat→Prop}{w:World}{v:Value}{l:List α}(h:bM kd P w v l)(hk:∀g,P g→g<w.heap.size→Q g)(hK:0<kd.K):bM kd Q w v l:=h.kept (fun g hp hl=>⟨rfl,hk g hp hl⟩) hK
def dt{α:Type}(kd:Kd α)(t:TypeId)(B:Nat)(w:World)(v:Value)(l:List α):Prop:=
 ∃cs:List (List Value),cs.length=l.length∧w.ownsRow B t kd.K v l.length cs.flatten∧∀(j:Nat) (x:α) (c:List Value),l[j]?=some x→cs[j]?=some c→kd.R (fun g=>B≤g∧v.ownBlock≠some g) w x c
theorem dt.nil{α:Type}(kd:Kd α)(t:TypeId)(B:Nat)(w:World):dt kd t B w (Sn) []:=⟨[],rfl,⟨by simp,.inl ⟨rfl,rfl⟩⟩,fun j e u h=>by simp at h⟩
theorem dt.shape{α:Type}{kd:Kd α}{t:TypeId}{B:Nat}{w:World}{v:Value}{l:List α}(h:dt kd t B w v l):∃a c,v=.slice a l.length c:=by
 obtain⟨cs,_,ho,_⟩:=h;exact gf ho
theorem dt.lt{α:Type}{kd:Kd α}{t:TypeId}{B:Nat}{w:World}{v:Value}{l:List α}(h:dt kd t B w v l){g:Nat}(hg:v.ownBlock=some g):B≤g∧g<w.heap.size:=by
 obtain⟨cs,_,ho,_⟩:=h;exact ho.lt g hg
theorem dt.keep{α:Type}{kd:Kd α}{t:TypeId}{B:Nat}{w w':World}{v:Value}{l:List α}(h:dt kd t B w v l)(hk:∀j,B≤j→j<w.heap.size→w'.heap[j]?=w.heap[j]?):dt kd t B w' v l:=by
 obtain⟨cs,hu,ho,hkk⟩:=h;refine⟨cs,hu,⟨ho.1,?_⟩,fun j e u q1 q2=>kd.kept (hkk j e u q1 q2) fun g hg hl=>⟨hk g hg.1 hl,hg⟩⟩;rcases ho.2 with h0|⟨g,cap,cur,hv,hb,hg,rest⟩
 ·exact .inl h0
 ·exact .inr ⟨g,cap,cur,hv,hb,(hk g hb (gl hg)).trans hg,rest⟩
theorem dt.below{α:Type}{kd:Kd α}{t:TypeId}{B:Nat}{w w':World}{v:Value}{l:List α}(h:dt kd t B w v l)(hb:Bw w w'):dt kd t B w' v l:=h.keep fun j _ hj=>hb.block j hj
theorem jX{K:Nat}:∀(cs:List (List Value)) (_:∀c∈cs,c.length=K) (j:Nat) (c:List Value) (i:Nat) (u:Value),cs[j]?=some c→c[i]?=some u→cs.flatten[j*K+i]?=some u
 |[],_,j,c,i,u,h,_=>by simp at h
 |x::r,hl,0,c,i,u,h,hu=>by
  simp at h
  subst h;rw[List.flatten_cons,Nat.zero_mul,Nat.zero_add,List.getElem?_append_left (List.getElem?_eq_some_iff.1 hu).1];exact hu
 |x::r,hl,j+1,c,i,u,h,hu=>by
  have hx:=hl x (by simp);rw[List.flatten_cons,List.getElem?_append_right (by rw[hx,Nat.succ_mul];omega),hx,show(j+1)*K+i -K=j*K+i by rw[Nat.succ_mul];omega];exact jX r (fun c hc=>hl c (by simp[hc])) j c i u (by simpa using h) hu
theorem dt.lst{α:Type}{kd:Kd α}{t:TypeId}{B:Nat}{w:World}{v:Value}{l:List α}(h:dt kd t B w v l):bM kd (fun g=>B≤g) w v l:=by
 obtain⟨cs,hu,ho,hkk⟩:=h;have hlen:∀c∈cs,c.length=kd.K:=by
  intro c hc;obtain⟨j,hj,hjc⟩:=List.mem_iff_getElem.1 hc;exact kd.len (hkk j (l[j]'(by omega)) c (aM _) (by rw[aM hj,hjc]))
 rcases ho.2 with⟨rfl,h0⟩|⟨g,cap,cur,rfl,hb,hg,hc,hcm,hsz,htk⟩
 ·have:l=[]:=List.length_eq_zero_iff.1 h0
  subst this;exact bM.nil _ _ _
 ·refine⟨some ⟨g,0,none⟩,cap,rfl,hc,fun _=>⟨g,0,rfl,hb,fun j x hj=>?_⟩⟩
  obtain⟨c,hcc⟩:∃c,cs[j]?=some c:=⟨cs[j]'(by rw[hu];exact(List.getElem?_eq_some_iff.1 hj).1),aM _⟩;refine⟨c,fun i u hiu=>?_,kd.kept (hkk j x c hj hcc) fun g hg _=>⟨rfl,hg.1⟩⟩;have hf:=jX cs hlen j c i u hcc hiu;rw[Nat.zero_add,aq hg];rw[←htk,List.getElem?_take] at hf
  split at hf
  ·simpa using hf
  ·cases hf
theorem dt.more{α:Type}{kd:Kd α}{t:TypeId}{B H g cap:Nat}{w w':World}{v:Value}{cs:List (List Value)}{l:List α}{e:α}{c:List Value}(hu:cs.length=l.length)
  (hk:∀(j:Nat) (x:α) (c:List Value),l[j]?=some x→cs[j]?=some c→kd.R (fun g=>B≤g∧v.ownBlock≠some g) w x c) (hke:kd.R (fun g=>B≤g∧v.ownBlock≠some g) w e c)
  (ho:w'.ownsRow B t kd.K (.slice (some ⟨g,0,none⟩) (l.length+1) cap) (l.length+1) (cs.flatten++c))
  (hg:w.grownBy w' v.ownBlock) (hat:v.ownBlock=some g∨g=H) (hH:w.heap.size=H):dt kd t B w' (.slice (some ⟨g,0,none⟩) (l.length+1) cap) (l++[e]):=by
 have hkeep:∀(x:α) (c:List Value),kd.R (fun g=>B≤g∧v.ownBlock≠some g) w x c→kd.R (fun g'=>B≤g'∧(.slice (some ⟨g,0,none⟩) (l.length+1) cap:Value).ownBlock≠some g') w' x c:=by
  intro x c q;refine kd.kept q fun g' hg' hl'=>⟨hg.block g' hl' (fun h=>hg'.2 h.symm),hg'.1,fun h=>?_⟩
  have hgg:g=g':=by simpa[Value.ownBlock] using h
  rcases hat with h1|h1
  ·exact hg'.2 (hgg▸h1)
  ·omega
 have hlen:(l++[e]).length=l.length+1:=by simp
 refine⟨cs++[c],by simp[hu],?_,fun j x y q1 q2=>?_⟩
 ·rw[hlen,List.flatten_append,List.flatten_cons,List.flatten_nil,List.append_nil]
  exact ho
 ·by_cases hj:j<l.length
  ·rw[List.getElem?_append_left hj] at q1
   rw[List.getElem?_append_left (by omega)] at q2;exact hkeep _ _ (hk j x y q1 q2)
  ·have hj':j=l.length:=by
    have:=(List.getElem?_eq_some_iff.1 q1).1
    simp at this
    omega
   subst hj';rw[List.getElem?_append_right (ah _)] at q1;rw[List.getElem?_append_right (by omega)] at q2
   simp[hu] at q1 q2
   subst q1;subst q2;exact hkeep _ _ hke
theorem ii{α:Type}(kd:Kd α)(t te:TypeId)(ti:TypeInfo)(z:Value)(bytes:Nat)(ht:Tryz.prog.underlying t=some (.slice te))(hi:Tryz.prog.info? te=some ti)(hz:ti.zero=some z)(hsize:ti.size=kd.K)(hby:ti.bytes=bytes)(hzs:z.cells.size=kd.K)(hsz:0<kd.K)(hb8:bytes≤1000)
  {w:World} {o:Oper} {a:Act} {K:Act→World→Prop} {Q:Exit→Act→World→Prop} (s x:Operand) (ho:o.op=.call {callee:=.builtin .append,args:=#[s,x],argTypes:=#[t,t]})
  (B:Nat) (v:Value) (l:List α) (hs:a.eval s=v) (hown:dt kd te B w v l) (e:α) (c:List Value) (b:Nat) (hx:a.eval x=.slice (some ⟨b,0,none⟩) 1 1) (hb:w.heap[b]?=some (.cells c.toArray te (0,0)))
  (hke:kd.R (fun g=>B≤g∧v.ownBlock≠some g) w e c) (hl:l.length≤1000000000) (hB:B≤w.heap.size)
  (h:∀a' c' w',dt kd te B w' (.slice a' (l.length+1) c') (l++[e])→w.grownBy w' v.ownBlock→K (a.put o.dst (.slice a' (l.length+1) c')) w'):Oper.wp Tryz.prog o a w K Q:=by
 obtain⟨cs,hu,hown',hk⟩:=hown;refine wp_append_lies w s x t ho B te ti z kd.K bytes ht hi hz hsize hby hzs hsz v l.length cs.flatten hs hown' ⟨b,0,none⟩ 1 1 c hx (by rw[kd.len hke,Nat.one_mul]) (World.news_of_block hb) (kd.one hke) (by decide) (by unfold maxLen;omega) (by have:=Nat.mul_le_mul (show l.length+1≤1000000001 by omega) hb8;omega) hB _ rfl ?_;intro g cap w' q1 q2 q3 _;exact h _ _ _ (dt.more hu hk hke q1 q2 q3 rfl) q2
theorem fN{α:Type}(kd:Kd α)(t te:TypeId)(ti:TypeInfo)(z:Value)(bytes:Nat)(ht:Tryz.prog.underlying t=some (.slice te))(hi:Tryz.prog.info? te=some ti)(hz:ti.zero=some z)(hsize:ti.size=kd.K)(hby:ti.bytes=bytes)(hzs:z.cells.size=kd.K)(hsz:0<kd.K)(hb8:bytes≤1000)
  {w:World} {ops:Array Oper} {rest:List Oper} {o:Oper} {a:Act} {Q:Exit→Act→World→Prop} (hgd:o.guard=none) (s x:Operand) (ho:o.op=.call {callee:=.builtin .append,args:=#[s,x],argTypes:=#[t,t]})
  (B:Nat) (v:Value) (l:List α) (hs:a.eval s=v) (hown:dt kd te B w v l) (e:α) (c:List Value) (b:Nat) (hx:a.eval x=.slice (some ⟨b,0,none⟩) 1 1) (hb:w.heap[b]?=some (.cells c.toArray te (0,0)))
  (hke:kd.R (fun g=>B≤g∧v.ownBlock≠some g) w e c) (hl:l.length≤1000000000) (hB:B≤w.heap.size)
  (h:∀a' c' w',dt kd te B w' (.slice a' (l.length+1) c') (l++[e])→w.grownBy w' v.ownBlock→wpList Tryz.prog ops Q rest (a.put o.dst (.slice a' (l.length+1) c')) w'):wpList Tryz.prog ops Q (o::rest) a w:=
 aB hgd fun _ hK=>ii kd t te ti z bytes ht hi hz hsize hby hzs hsz hb8 s x ho B v l hs hown e c b hx hb hke hl hB fun a' c' w' h1 h2=>hK _ _ (h a' c' w' h1 h2)
/- The kinds of lists. -/
def kdS:Kd (List UInt8) where
 K:=1
 R:=fun _ _ x c=>c=[.string ⟨x.toArray⟩]
 len:=fun h=>by rw[h];rfl
 one:=fun h u hu=>by rw[h] at hu;simp at hu;subst hu;rfl
 kept:=fun h _=>h
theorem bM.strs{P:Nat→Prop}{w:World}{v:Value}{l:List (List UInt8)}(h:bM kdS P w v l):ct w v l:=by
 obtain⟨a,cap,hv,hc,hr⟩:=h;refine⟨a,cap,hv,hc,fun h0=>?_⟩;obtain⟨g,o,ha,_,hcell⟩:=hr h0;refine⟨g,o,ha,fun j x hj=>?_⟩;obtain⟨c,h1,h2⟩:=hcell j x hj;have h2':c=[.string ⟨x.toArray⟩]:=h2;have:=h1 0 (.string ⟨x.toArray⟩) (by rw[h2'];rfl)
 simpa[kdS] using this
def kdA:Kd (List UInt8×List (List UInt8)) where
 K:=2
 R:=fun P w x c=>∃u,c=[.string ⟨x.1.toArray⟩,u]∧bM kdS P w u x.2
 len:=fun⟨_,h,_⟩=>by rw[h];rfl
 one:=fun⟨_,h,hu⟩ u hm=>by
  obtain⟨a,c,rfl⟩:=hu.shape;rw[h] at hm;simp at hm;rcases hm with rfl|rfl<;>rfl
 kept:=fun⟨u,h,hu⟩ hk=>⟨u,h,hu.kept hk (by decide)⟩
theorem bM.attrs{P:Nat→Prop}{w:World}{v:Value}{l:List (List UInt8×List (List UInt8))}(h:bM kdA P w v l):eG w v l:=by
 obtain⟨a,cap,hv,hc,hr⟩:=h;refine⟨a,cap,hv,hc,fun h0=>?_⟩;obtain⟨g,o,ha,_,hcell⟩:=hr h0;refine⟨g,o,ha,fun j x hj=>?_⟩;obtain⟨c,h1,u,h2,h3⟩:=hcell j x hj;have q0:=h1 0 (.string ⟨x.1.toArray⟩) (by rw[h2];rfl);have q1:=h1 1 u (by rw[h2];rfl);exact⟨by simpa[kdA] using q0,u,by simpa[kdA] using q1,h3.strs⟩
def kdM:Kd Md where
 K:=3
 R:=fun P w x c=>∃u,c=[.int .i64 x.1,.string ⟨x.2.1.toArray⟩,u]∧bM kdS P w u x.2.2
 len:=fun⟨_,h,_⟩=>by rw[h];rfl
 one:=fun⟨_,h,hu⟩ u hm=>by
  obtain⟨a,c,rfl⟩:=hu.shape;rw[h] at hm;simp at hm;rcases hm with rfl|rfl|rfl<;>rfl
 kept:=fun⟨u,h,hu⟩ hk=>⟨u,h,hu.kept hk (by decide)⟩
theorem bM.mods{P:Nat→Prop}{w:World}{v:Value}{l:List Md}(h:bM kdM P w v l):eY w v l:=by
 obtain⟨a,cap,hv,hc,hr⟩:=h;refine⟨a,cap,hv,hc,fun h0=>?_⟩;obtain⟨g,o,ha,_,hcell⟩:=hr h0;refine⟨g,o,ha,fun j x hj=>?_⟩;obtain⟨c,h1,u,h2,h3⟩:=hcell j x hj;have q0:=h1 0 (.int .i64 x.1) (by rw[h2];rfl);have q1:=h1 1 (.string ⟨x.2.1.toArray⟩) (by rw[h2];rfl);have q2:=h1 2 u (by rw[h2];rfl);exact⟨by simpa[kdM] using q0,by simpa[kdM] using q1,u,by simpa[kdM] using q2,h3.strs⟩
def kdC:Kd Ct where
 K:=4
 R:=fun _ _ x c=>c=[.string ⟨x.oid.toArray⟩,.bool x.crit,.bool x.has,.string ⟨x.value.toArray⟩]
 len:=fun h=>by rw[h];rfl
 one:=fun h u hm=>by rw[h] at hm;simp at hm;rcases hm with rfl|rfl|rfl|rfl<;>rfl
 kept:=fun h _=>h
theorem bM.ctls{P:Nat→Prop}{w:World}{v:Value}{l:List Ct}(h:bM kdC P w v l):ig w v l:=by
 obtain⟨a,cap,hv,hc,hr⟩:=h;refine⟨a,cap,hv,hc,fun h0=>?_⟩;obtain⟨g,o,ha,_,hcell⟩:=hr h0;refine⟨g,o,ha,fun j x hj=>?_⟩;obtain⟨c,h1,h2⟩:=hcell j x hj;have h2':c=[.string ⟨x.oid.toArray⟩,.bool x.crit,.bool x.has,.string ⟨x.value.toArray⟩]:=h2;have q0:=h1 0 (.string ⟨x.oid.toArray⟩) (by rw[h2'];rfl);have q1:=h1 1 (.bool x.crit) (by rw[h2'];rfl);have q2:=h1 2 (.bool x.has) (by rw[h2'];rfl);have q3:=h1 3 (.string ⟨x.value.toArray⟩) (by rw[h2'];rfl);exact⟨by simpa[kdC] using q0,by simpa[kdC] using q1,by simpa[kdC] using q2,by simpa[kdC] using q3⟩
def kdF:Kd Fl where
 K:=7
 R:=fun P w x c=>∃u,c=[.int .i64 x.op,.int .i64 x.n,.string ⟨x.typ.toArray⟩,.string ⟨x.value.toArray⟩,.string ⟨x.init.toArray⟩,.string ⟨x.final.toArray⟩,u]∧bM kdS P w u x.any
 len:=fun⟨_,h,_⟩=>by rw[h];rfl
 one:=fun⟨_,h,hu⟩ u hm=>by
  obtain⟨a,c,rfl⟩:=hu.shape;rw[h] at hm;simp at hm;rcases hm with rfl|rfl|rfl|rfl|rfl|rfl|rfl<;>rfl
 kept:=fun⟨u,h,hu⟩ hk=>⟨u,h,hu.kept hk (by decide)⟩
theorem bM.flts{P:Nat→Prop}{w:World}{v:Value}{l:List Fl}(h:bM kdF P w v l):de w v l:=by
 obtain⟨a,cap,hv,hc,hr⟩:=h;refine⟨a,cap,hv,hc,fun h0=>?_⟩;obtain⟨g,o,ha,_,hcell⟩:=hr h0;refine⟨g,o,ha,fun j x hj=>?_⟩;obtain⟨c,h1,u,h2,h3⟩:=hcell j x hj;have q0:=h1 0 (.int .i64 x.op) (by rw[h2];rfl);have q1:=h1 1 (.int .i64 x.n) (by rw[h2];rfl);have q2:=h1 2 (.string ⟨x.typ.toArray⟩) (by rw[h2];rfl);have q3:=h1 3 (.string ⟨x.value.toArray⟩) (by rw[h2];rfl);have q4:=h1 4 (.string ⟨x.init.toArray⟩) (by rw[h2];rfl);have q5:=h1 5 (.string ⟨x.final.toArray⟩) (by rw[h2];rfl);have q6:=h1 6 u (by rw[h2];rfl);exact⟨by simpa[kdF] using q0,by simpa[kdF] using q1,by simpa[kdF] using q2,by simpa[kdF] using q3,by simpa[kdF] using q4,by simpa[kdF] using q5,u,by simpa[kdF] using q6,h3.strs⟩
def dW(l:List UInt8):Nat:=l.foldl (fun v b=>v*256+b.toNat) 0
def bt:List UInt8→Nat×Nat×Int
 |[]=>(0,0,20)
 |b0::r=>if 30<b0.toNat% 32 then(0,0,21) else match r with
  |[]=>(0,0,20)
  |b1::r2=>if b1.toNat<128 then(2,b1.toNat,0)
   else if b1.toNat -128<1∨4<b1.toNat -128 then(0,0,22)
   else if r2.length<b1.toNat -128 then(0,0,20)
   else if 65536<2+(b1.toNat -128)+dW (r2.take (b1.toNat -128)) then(0,0,2)
   else(2+(b1.toNat -128),dW (r2.take (b1.toNat -128)),0)
def dC(g:List UInt8→Except Int (El×List UInt8)):Nat→List UInt8→Except Int (List El)
 |_,[]=>.ok []
 |0,_::_=>.ok []
 |n+1,b::t=>match g (b::t) with
  | .error e=>.error e
  | .ok (k,c)=>match dC g n c with
   | .error e=>.error e
   | .ok ks=>.ok (k::ks)
def bP:Nat→List UInt8→Except Int (El×List UInt8)
 |0,b=>if(bt b).2.2=0 then .error 23 else .error (bt b).2.2
 |k+1,b=>if(bt b).2.2=0 then
   if b.length<(bt b).1+(bt b).2.1 then .error 20
   else if(b.headD 0).toNat/32% 2=0 then .ok (.mk (((b.headD 0).toNat/64:Nat):Int) (((b.headD 0).toNat% 32:Nat):Int) false ((b.drop (bt b).1).take (bt b).2.1) [],b.drop ((bt b).1+(bt b).2.1))
   else match dC (bP k) ((b.drop (bt b).1).take (bt b).2.1).length ((b.drop (bt b).1).take (bt b).2.1) with
    | .error e=>.error e
    | .ok ks=>.ok (.mk (((b.headD 0).toNat/64:Nat):Int) (((b.headD 0).toNat% 32:Nat):Int) true [] ks,b.drop ((bt b).1+(bt b).2.1))
  else .error (bt b).2.2
def fO(b:List UInt8):Except Int El:=match bP 20 b with
 | .error e=>.error e
 | .ok (e,[])=>.ok e
 | .ok (_,_::_)=>.error 25
theorem mh(b:List UInt8)(h:(bt b).2.2=0):2≤(bt b).1:=by
 unfold bt at*
 split at h
 ·simp at h
 ·rename_i b0 r
  split at h
  ·simp at h
  ·rename_i h1
   simp only[h1,if_false];cases r with
   |nil=>simp at h
   |cons b1 r2=>
    simp only at h⊢
    split
    ·simp
    ·rename_i h2
     simp only[h2,if_false] at h
     split
     ·rename_i h3;rw[if_pos h3] at h;simp at h
     ·rename_i h3
      simp only[h3,if_false] at h
      split
      ·rename_i h4;rw[if_pos h4] at h;simp at h
      ·rename_i h4
       simp only[h4,if_false] at h
       split
       ·rename_i h5;rw[if_pos h5] at h;simp at h
       ·simp
theorem jL(b:List UInt8):(bt b).1+(bt b).2.1≤65536:=by
 unfold bt
 split
 ·simp
 ·split
  ·simp
  ·split
   ·simp
   ·rename_i b1 r2
    have:=UInt8.toNat_lt b1
    split
    ·simp only;omega
    ·split
     ·simp
     ·split
      ·simp
      ·split
       ·simp
       ·simp only;omega
theorem pW(b:List UInt8):(bt b).1≤6:=by
 unfold bt
 split
 ·simp
 ·split
  ·simp
  ·split
   ·simp
   ·split
    ·simp
    ·split
     ·simp
     ·rename_i h3
      split
      ·simp
      ·split
       ·simp
       ·simp only[not_or] at h3⊢;omega
theorem mi:∀(k:Nat) (b:List UInt8) (e:El) (r:List UInt8),bP k b=.ok (e,r)→r.length<b.length
 |0,b,e,r,h=>by
  unfold bP at h
  split at h<;>cases h
 |k+1,b,e,r,h=>by
  unfold bP at h
  by_cases h0:(bt b).2.2=0
  ·have h2:=mh b h0
   rw[if_pos h0] at h
   by_cases h1:b.length<(bt b).1+(bt b).2.1
   ·rw[if_pos h1] at h;cases h
   ·rw[if_neg h1] at h
    have:r=b.drop ((bt b).1+(bt b).2.1):=by
     split at h
     ·cases h;rfl
     ·split at h<;>cases h;rfl
    rw[this,List.length_drop]
    omega
  ·rw[if_neg h0] at h;cases h
theorem iD{g:List UInt8→Except Int (El×List UInt8)}(hg:∀b e r,g b=.ok (e,r)→r.length<b.length):∀(n:Nat) (c:List UInt8),c.length≤n→dC g n c=dC g c.length c
 |0,c,h=>by
  have:c=[]:=List.length_eq_zero_iff.1 (by omega);subst this;rfl
 |n+1,[],_=>by simp[dC]
 |n+1,b::t,h=>by
  simp only[aG] at h⊢;unfold dC;cases hr:g (b::t) with
  |error e=>rfl
  |ok p=>
   obtain⟨k,c⟩:=p;have h2:=hg _ _ _ hr;simp only[aG] at h2;simp only;rw[iD hg n c (by omega),iD hg t.length c (by omega)]
theorem oL{g:List UInt8→Except Int (El×List UInt8)}(hg:∀b e r,g b=.ok (e,r)→r.length<b.length)(b:UInt8)(t:List UInt8):
  dC g (b::t).length (b::t)=(match g (b::t) with| .error e=>.error e| .ok (k,c)=>match dC g c.length c with| .error e=>.error e| .ok ks=>.ok (k::ks)):=by
 simp only[aG,dC];cases hr:g (b::t) with
 |error e=>rfl
 |ok p=>
  obtain⟨k,c⟩:=p;have h2:=hg _ _ _ hr;simp only[aG] at h2;simp only;rw[iD hg t.length c (by omega)]
/- What is written. -/
theorem DN(n:Nat):1≤(cV n).length∧(cV n).length≤4:=by
 unfold cV;split
 ·simp
 ·split
  ·simp
  ·split<;>simp
theorem kZ:∀(ks:List El) (n:Nat),n≤65537→n≤cw n ks∧cw n ks≤65537
 |[],n,h=>⟨ah _,h⟩
 |e::r,n,h=>by
  have:=kZ r (min (n+bK e) 65537) (by omega);unfold cw
  omega
theorem A4(e:El):2≤bK e:=by
 cases e with
 |mk c t k b ks=>
  unfold bK;have h:=(DN (min (cw b.length ks) 65537)).1
  omega
theorem iE:∀(ks:List El) (n:Nat),cw n ks≤65536→cw n ks=n+bR ks
 |[],n,_=>by simp[cw,bR]
 |e::r,n,h=>by
  unfold cw at h⊢;have h1:=kZ r (min (n+bK e) 65537) (by omega);have h2:=iE r (min (n+bK e) 65537) h;rw[h2];simp only[bR]
  omega
mutual
theorem ja:∀e:El,bK e≤65536→(eJ e).length=bK e
 | .mk c t k b ks=>by
  intro h;have hs:cw b.length ks≤65536:=by
   unfold bK at h;have:=(DN (min (cw b.length ks) 65537)).1
   omega
  have h1:=iE ks b.length hs;have h2:bR ks≤65536:=by omega
  have h3:=jb ks h2;have h4:bK (.mk c t k b ks)=1+(cV (b.length+bR ks)).length+(b.length+bR ks):=by
   unfold bK at h⊢;rw[Nat.min_eq_left (show cw b.length ks≤65537 by omega),h1] at h⊢
   omega
  rw[h4];simp only[eJ,xn,aG,h3]
  omega
theorem jb:∀ks:List El,bR ks≤65536→(dq ks).length=bR ks
 |[]=>fun _=>rfl
 |e::r=>by
  intro h;simp only[bR] at h;have h1:=ja e (by omega);have h2:=jb r (by omega);simp only[dq,bR,xn,h1,h2]
end
theorem oN{n:Nat}(h:n<256):(UInt8.ofNat n).toNat=n:=by simp[UInt8.toNat_ofNat'];omega
theorem pX(x:UInt8)(n:Nat)(r:List UInt8)(hx:x.toNat% 32≤30)(hn:1+(cV n).length+n≤65536):bt (x::(cV n++r))=(1+(cV n).length,n,0):=by
 have h0:¬30<x.toNat% 32:=by omega
 unfold bt;simp only[h0,if_false]
 by_cases h1:n<128
 ·have e:cV n=[UInt8.ofNat n]:=by simp[cV,h1]
  rw[e] at hn⊢;simp only[List.cons_append,List.nil_append,aG,aU];rw[oN (by omega),if_pos h1]
 ·by_cases h2:n<256
  ·have e:cV n=[129,UInt8.ofNat n]:=by simp[cV,h1,h2]
   have e1:(129:UInt8).toNat=129:=rfl;rw[e] at hn⊢;simp only[List.cons_append,List.nil_append,aG,aU] at hn⊢;rw[e1]
   simp[dW,oN h2]
   omega
  ·by_cases h3:n<65536
   ·have e:cV n=[130,UInt8.ofNat (n/256),UInt8.ofNat n]:=by simp[cV,h1,h2,h3]
    have e1:(130:UInt8).toNat=130:=rfl;have e2:(UInt8.ofNat n).toNat=n% 256:=by simp[UInt8.toNat_ofNat']
    have e3:(UInt8.ofNat (n/256)).toNat=n/256:=oN (by omega);rw[e] at hn⊢;simp only[List.cons_append,List.nil_append,aG,aU] at hn⊢;rw[e1];have e4:n/256*256+n% 256=n:=by omega
    simp only[List.take_succ_cons,List.take_zero,dW,List.foldl_cons,List.foldl_nil,e2,e3,Nat.reduceSub,Nat.zero_mul,Nat.zero_add,e4]
    simp
    rw[if_neg (by omega),if_neg (by omega)]
   ·have:=(DN n).1
    omega
mutual
def okE:Nat→El→Bool
 |d,.mk c t k b ks=>match d with
  |0=>false
  |d+1=>decide (0≤c)&&decide (c≤3)&&decide (0≤t)&&decide (t≤30)&&(if k then decide (b=[]) else decide (ks=[]))&&okL d ks
def okL:Nat→List El→Bool
 |_,[]=>true
 |d,e::r=>okE d e&&okL d r
end
theorem pY(c t:Int)(k:Bool)(hc:0≤c∧c≤3)(ht:0≤t∧t≤30):
  ((UInt8.ofNat (c.toNat*64+t.toNat+(if k then 32 else 0))).toNat/64:Nat)=c∧((UInt8.ofNat (c.toNat*64+t.toNat+(if k then 32 else 0))).toNat% 32:Nat)=t∧(UInt8.ofNat (c.toNat*64+t.toNat+(if k then 32 else 0))).toNat/32% 2=(if k then 1 else 0):=by
 rw[oN (by split<;>omega)];cases k<;>simp<;>omega
mutual
theorem k0:∀(e:El) (d:Nat) (rest:List UInt8),okE d e=true→bK e≤65536→bP d (eJ e++rest)=.ok (e,rest)
 | .mk c t k b ks=>by
  intro d rest ho hs;cases d with
  |zero=>simp[okE] at ho
  |succ d=>
   simp only[okE,aI,aT] at ho;obtain⟨⟨⟨⟨⟨c0,c1⟩,t0⟩,t1⟩,hf⟩,hk⟩:=ho;have hs1:cw b.length ks≤65536:=by
    unfold bK at hs;have:=(DN (min (cw b.length ks) 65537)).1
    omega
   have h1:=iE ks b.length hs1;have h2:bR ks≤65536:=by omega
   have h3:=jb ks h2;have h4:1+(cV (b.length+bR ks)).length+(b.length+bR ks)≤65536:=by
    unfold bK at hs;rw[Nat.min_eq_left (show cw b.length ks≤65537 by omega),h1] at hs
    omega
   obtain⟨g1,g2,g3⟩:=pY c t k ⟨c0,c1⟩ ⟨t0,t1⟩;obtain⟨x,hx⟩:=nmm (UInt8.ofNat (c.toNat*64+t.toNat+(if k then 32 else 0)));rw[hx] at g1 g2 g3;have hS:eJ (.mk c t k b ks)++rest=x::(cV (b.length+bR ks)++(b++dq ks++rest)):=by simp[eJ,hx]
   have hh:=pX x (b.length+bR ks) (b++dq ks++rest) (by omega) h4;rw[hS];unfold bP;rw[hh];simp only[if_true,List.headD_cons];have e1:List.drop (1+(cV (b.length+bR ks)).length) (x::(cV (b.length+bR ks)++(b++dq ks++rest)))=b++dq ks++rest:=by
    rw[Nat.add_comm,List.drop_succ_cons,List.drop_left]
   have e2:List.drop (1+(cV (b.length+bR ks)).length+(b.length+bR ks)) (x::(cV (b.length+bR ks)++(b++dq ks++rest)))=rest:=by
    rw[←List.drop_drop,e1,←h3,←xn,List.drop_left]
   have e3:List.take (b.length+bR ks) (b++dq ks++rest)=b++dq ks:=by
    rw[←h3,←xn,List.take_left]
   rw[e1,e2,e3,if_neg (by simp only[aG,xn,h3];omega)];simp only[g1,g2,g3];cases k with
   |false=>
    simp only[aW,if_false,aT] at hf;subst hf
    simp[dq]
   |true=>
    simp only[if_true,aT] at hf;subst hf;simp only[if_true,List.nil_append];rw[if_neg (by decide),lc ks d (dq ks).length hk h2 (ah _)]
theorem lc:∀(ks:List El) (d n:Nat),okL d ks=true→bR ks≤65536→(dq ks).length≤n→dC (bP d) n (dq ks)=.ok ks
 |[]=>by intro d n _ _ _;unfold dq dC;rfl
 |e::r=>by
  intro d n ho hs hn;simp only[okL,aI] at ho;simp only[bR] at hs;have he:=k0 e d (dq r) ho.1 (by omega);have hl:=ja e (by omega);have hp:=A4 e;simp only[dq,xn,hl] at hn;obtain⟨n,rfl⟩:∃m,n=m+1:=⟨n -1,by omega⟩;have hr:=lc r d n ho.2 (by omega) (by omega);obtain⟨y,t,hy⟩:∃y t,eJ e++dq r=y::t:=by
   cases e with
   |mk c t k b ks=>simp only[eJ,List.cons_append];exact⟨_,_,rfl⟩
  simp only[dq];rw[hy] at he⊢;unfold dC;rw[he];simp only[hr]
end
mutual
theorem pZ:∀(e:El) (d f:Nat),f+d=20→eT cn d e=true→eT dw d e=true→eW d e=false→okE f e=true
 | .mk c t k b ks=>by
  intro d f hf h1 h2 h3;unfold eT at h1 h2;unfold eW at h3
  by_cases hd:20≤d
  ·rw[if_pos hd] at h3;cases h3
  ·rw[if_neg hd] at h1 h2 h3
   obtain⟨f,rfl⟩:∃g,f=g+1:=⟨f -1,by omega⟩;simp only[aI] at h1 h2;have:=p7 ks (d+1) f (by omega) h1.2 h2.2 h3;simp only[okE];rw[this];have e1:(decide (0≤c)&&decide (c≤3)&&decide (0≤t)&&decide (t≤30))=true:=h1.1;have e2:(if k=true then decide (b=[]) else decide (ks=[]))=true:=h2.1;rw[e1,e2]
   rfl
theorem p7:∀(ks:List El) (d f:Nat),f+d=20→dS cn d ks=true→dS dw d ks=true→eX d ks=false→okL f ks=true
 |[]=>by intro d f _ _ _ _;rfl
 |e::r=>by
  intro d f hf h1 h2 h3;simp only[dS,aI] at h1 h2;simp only[eX,Bool.or_eq_false_iff] at h3;simp only[okL,aI];exact⟨pZ e d f hf h1.1 h2.1 h3.1,p7 r d f hf h1.2 h2.2 h3.2⟩
end
theorem ng(e:El)(h:(dD e).2=0):fO (dD e).1=.ok e∧(dD e).1=eJ e∧(eJ e).length=bK e∧bK e≤65536∧okE 20 e=true:=by
 unfold dD at h⊢
 by_cases h1:eT cn 0 e=false
 ·rw[if_pos h1] at h;simp at h
 ·rw[if_neg h1] at h⊢
  by_cases h2:eT dw 0 e=false
  ·rw[if_pos h2] at h;simp at h
  ·rw[if_neg h2] at h⊢
   by_cases h3:eW 0 e=true
   ·rw[if_pos h3] at h;simp at h
   ·rw[if_neg h3] at h⊢
    by_cases h4:65536<bK e
    ·rw[if_pos h4] at h;simp at h
    ·rw[if_neg h4]
     have ho:=pZ e 0 20 rfl (by simpa using h1) (by simpa using h2) (by simpa using h3);have hr:=k0 e 20 [] ho (by omega);rw[List.append_nil] at hr;exact⟨by unfold fO;simp only[hr],rfl,ja e (by omega),by omega,ho⟩
def eA(b:List UInt8):Nat×Int:=((bt b).1+(bt b).2.1,(bt b).2.2)
theorem AF(e:El)(h:(dD e).2=0):eA (dD e).1=((dD e).1.length,0):=by
 obtain⟨h1,h2,h3,h4,h5⟩:=ng e h;rw[h2];have h6:=h3;cases e with
 |mk c t k b ks=>
  have hs1:cw b.length ks≤65536:=by
   unfold bK at h4;have:=(DN (min (cw b.length ks) 65537)).1
   omega
  have g1:=iE ks b.length hs1;have g3:=jb ks (by omega);simp only[okE,aI,aT] at h5;obtain⟨⟨⟨⟨⟨c0,c1⟩,t0⟩,t1⟩,hf⟩,hk⟩:=h5;obtain⟨_,q2,_⟩:=pY c t k ⟨c0,c1⟩ ⟨t0,t1⟩;have hS:eJ (.mk c t k b ks)=UInt8.ofNat (c.toNat*64+t.toNat+(if k then 32 else 0))::(cV (b.length+bR ks)++(b++dq ks)):=by simp[eJ]
  rw[hS] at h3⊢;simp only[aG,xn,g3] at h3;unfold eA;rw[pX _ (b.length+bR ks) (b++dq ks) (by omega) (by omega)];simp only[aG,xn,g3];simp only[Prod.mk.injEq,and_true]
  omega
theorem vb(N b:Nat)(h2:N% 256=0)(hb:b<256):(N|||b)=N+b:=by
 have h:=Nat.shiftLeft_add_eq_or_of_lt (i:=8) (b:=b) hb (N/256);have h5:N/256*2^8=N:=Nat.div_mul_cancel (Nat.dvd_of_mod_eq_zero h2);rw[Nat.shiftLeft_eq,h5] at h;exact h.symm
theorem sw(x:Int)(b:Nat)(hx:x% 256=0)(hb:b<256):bits BinOp.or IntKind.i64 x (b:Int)=IntKind.i64.wrap (x+b):=by
 obtain⟨N,hN⟩:=nmm ((BitVec.ofInt 64 x).toNat);have h1:(N:Int)=x% 18446744073709551616:=by rw[←hN];simp;omega
 have h2:N% 256=0:=by omega
 have h3:=vb N b h2 hb;have h4:(BitVec.ofInt 64 (b:Int)).toNat=b:=by simp;omega
 show IntKind.i64.wrap (((BitVec.ofInt 64 x|||BitVec.ofInt 64 (b:Int)).toNat:Nat):Int)=_;rw[BitVec.toNat_or,hN,h4,h3];rw[aK,aK]
 omega
theorem dP(l:List UInt8)(k:Nat)(c:UInt8)(h:l[k]?=some c)(hk:k<(⟨l.toArray⟩:ByteArray).size):(⟨l.toArray⟩:ByteArray)[k]'hk=c:=by
 obtain⟨h1,h2⟩:=List.getElem?_eq_some_iff.1 h;show l.toArray[k]=c
 simpa using h2
theorem yK(l:List UInt8)(c:UInt8):dW (l++[c])=dW l*256+c.toNat:=by simp[dW]
theorem jx:∀(n:Nat) (l:List UInt8),l.length=n→dW l<256^n
 |0,l,h=>by
  have:l=[]:=List.length_eq_zero_iff.1 h;subst this;simp[dW]
 |n+1,l,h=>by
  rcases List.eq_nil_or_concat l with h0|⟨r,c,h0⟩
  ·subst h0;simp at h
  ·rw[List.concat_eq_append] at h0
   subst h0;have h1:=jx n r (by simpa using h);have h2:=UInt8.toNat_lt c;rw[yK,Nat.pow_succ]
   omega
def tJ(w:World)(l:List UInt8)(v i:Value)(wr:World):Prop:=∃k:Nat,i=.int .i64 (k:Int)∧k≤l.length∧v=.int .i64 ((dW (l.take k):Nat):Int)∧wr=w
theorem zO(l:List UInt8)(h1:1≤l.length)(h7:l.length≤6)(w:World):
  Calls Tryz.prog 112 #[.string ⟨l.toArray⟩] w fun e w'=>e=.returned (.tuple #[.int .i64 ((dW l:Nat):Int),I0])∧w'=w:=by
 have f1:decide ((l.length:Int)<1)=false:=an (by omega);have f2:decide ((7:Int)<(l.length:Int))=false:=an (by omega);have f3:decide ((l.length:Int)>7)=false:=an (by omega)
 go_enter Tryz.func112,Tryz.ntmps112
 go_wp2_with fail
 go_loopw [4,5,16] (fun v _ i wr=>tJ w l v i wr) (fun _ _ i _=>l.length -(RowKit.intOf i).toNat)
 case atStart=>exact⟨0,rfl,Nat.zero_le _,rfl,rfl⟩
 case round=>
  obtain⟨k,rfl,hk,rfl,hw⟩:=hrel;rw[hw];clear hw
  by_cases hkl:k<l.length
  ·obtain⟨c,hc⟩:∃c,l[k]?=some c:=⟨_,by simp[hkl];rfl⟩
   have e0:=dP l k c hc (by rw[Lib.size_mk];omega);have i1:decide ((k:Int)<(l.length:Int))=true:=aC (by omega);have i2:(k:Int)<(l.length:Int):=by omega
   have hts:dW (l.take (k+1))=dW (l.take k)*256+c.toNat:=by rw[List.take_add_one,hc];exact yK _ _
   have hlt:=jx k (l.take k) (by simp;omega);have hlt2:dW (l.take k)<256^5:=Nat.lt_of_lt_of_le hlt (Nat.pow_le_pow_right (by omega) (by omega));obtain⟨V,hV⟩:=nmm (dW (l.take k));rw[hV] at hts hlt2⊢;have hc8:=UInt8.toNat_lt c;have hw1:IntKind.i64.wrap ((V:Int)*256)=(V:Int)*256:=by rw[aK];omega
   have hor:bits BinOp.or IntKind.i64 ((V:Int)*256) (c.toNat:Int)=((V*256+c.toNat:Nat):Int):=by
    rw[sw _ _ (by omega) hc8,aK];omega
   have HTS:=hid hts;clear hts hc hlt hV
   go_wp2_with fail
   exact⟨⟨k+1,by go_num,by omega,by rw[HTS.out];exact congrArg _ (by omega),rfl⟩,by simp[RowKit.intOf];omega⟩
  ·obtain rfl:k=l.length:=by omega
   rw[List.take_of_length_le (ah _)]
   go_wp2_with fail
   go_ret2
   exact⟨rfl,rfl⟩
def dZ(v:Int)(b:UInt8):Int:=IntKind.i64.wrap (v*256+(b.toNat:Int))
def sgI:List UInt8→Int
 |[]=>0
 |b::r=>r.foldl dZ (if b.toNat<128 then(b.toNat:Int) else(b.toNat:Int) -256)
theorem rC(b:UInt8)(r:List UInt8)(c:UInt8):sgI (b::(r++[c]))=dZ (sgI (b::r)) c:=by simp[sgI]
def Dw(w:World)(b:UInt8)(r:List UInt8)(v i:Value)(wr:World):Prop:=∃k:Nat,i=.int .i64 ((k+1:Nat):Int)∧k≤r.length∧v=.int .i64 (sgI (b::r.take k))∧wr=w
theorem oO(b:UInt8)(r:List UInt8)(h8:r.length≤7)(w:World):
  Calls Tryz.prog 146 #[.string ⟨(b::r).toArray⟩] w fun e w'=>e=.returned (.tuple #[.int .i64 (sgI (b::r)),I0])∧w'=w:=by
 obtain⟨S,hS⟩:=nmm (b::r);have hl:S.length=r.length+1:=by rw[←hS];rfl
 have hp0:0<(⟨S.toArray⟩:ByteArray).size:=by rw[Lib.size_mk];omega
 have e0:=dP S 0 b (by rw[←hS];rfl) hp0;rw[hS];have HS:=hid hS;have f1:decide ((S.length:Int)<1)=false:=an (by omega);have f2:decide ((8:Int)<(S.length:Int))=false:=an (by omega);have f3:decide ((S.length:Int)>8)=false:=an (by omega);have f4:(0:Int)<(S.length:Int):=by omega
 have hb8:=UInt8.toNat_lt b;have hi8:IntKind.i8.wrap (b.toNat:Int)=(if b.toNat<128 then(b.toNat:Int) else(b.toNat:Int) -256):=by
  by_cases hbb:b.toNat<128<;>simp[IntKind.wrap,IntKind.bits,IntKind.signed,hbb]<;>omega
 obtain⟨B,hB⟩:=nmm ((if b.toNat<128 then(b.toNat:Int) else(b.toNat:Int) -256):Int);have hB0:-128≤B∧B≤127:=by rw[←hB];split<;>omega
 rw[hB] at hi8;have hw64:IntKind.i64.wrap B=B:=by rw[aK];omega
 have hsg0:sgI [b]=B:=by rw[←hB];rfl
 obtain⟨HSG,HL⟩:=Cg hsg0 hl;clear hS hsg0 hB hb8 hB0 hl
 go_enter Tryz.func146,Tryz.ntmps146
 go_wp2_with fail
 go_loopw [4,5] (fun v i wr=>Dw w b r v i wr) (fun _ i _=>S.length -(RowKit.intOf i).toNat)
 case atStart=>exact⟨0,rfl,Nat.zero_le _,by rw[show r.take 0=[] from rfl,HSG.out],rfl⟩
 case round=>
  clear e0 hi8 hw64;obtain⟨k,rfl,hk,rfl,hw⟩:=hrel;rw[hw];clear hw
  by_cases hkl:k<r.length
  ·obtain⟨c,hc⟩:∃c,r[k]?=some c:=⟨_,by simp[hkl];rfl⟩
   obtain⟨K1,hK1⟩:=nmm (k+1);have hl:=HL.out;have hp1:K1<(⟨S.toArray⟩:ByteArray).size:=by rw[Lib.size_mk];omega
   have e1:=dP S K1 c (by rw[←hK1,←HS.out];simpa using hc) hp1;have i1:decide ((K1:Int)<(S.length:Int))=true:=aC (by omega);have i2:(K1:Int)<(S.length:Int):=by omega
   have hts:sgI (b::r.take (k+1))=dZ (sgI (b::r.take k)) c:=by rw[List.take_add_one,hc];exact rC _ _ _
   obtain⟨V,hV⟩:=nmm (sgI (b::r.take k));rw[hV] at hts⊢;have hc8:=UInt8.toNat_lt c;have hor:bits BinOp.or IntKind.i64 (IntKind.i64.wrap (V*256)) (c.toNat:Int)=dZ V c:=by
    rw[sw _ _ (by rw[aK];omega) hc8];unfold dZ;rw[aK,aK,aK]
    omega
   have hor2:bits BinOp.or IntKind.i64 (wrap64 (V*256)) (c.toNat:Int)=dZ V c:=by
    have e:wrap64 (V*256)=IntKind.i64.wrap (V*256):=by first|rfl|(rw[aK];unfold wrap64;split<;>omega)|(rw[aK];unfold wrap64;omega)|simp[wrap64,aK]
    rw[e];exact hor
   have HOR:=hid hor2;clear hor hor2;have hcw:IntKind.i64.wrap (c.toNat:Int)=(c.toNat:Int):=by rw[aK];omega
   have HTS:=hid hts;have hK8:K1≤8:=by omega
   clear hts hc hV hl;rw[hK1];have HK1:=hid hK1;clear hK1
   go_wp2_with fail
   exact⟨⟨k+1,by rw[HK1.out];go_num,by omega,by rw[HTS.out];exact congrArg _ HOR.out,rfl⟩,by have h1:=HK1.out;have h2:=HL.out;simp only[RowKit.intOf];omega⟩
  ·obtain rfl:k=r.length:=by omega
   rw[List.take_of_length_le (ah _),HS.out,←HL.out];have i1:decide ((S.length:Int)<(S.length:Int))=false:=an (by omega)
   go_wp2_with fail
   go_ret2
   exact⟨rfl,rfl⟩
theorem oP(S:List UInt8)(h8:S.length<1∨8<S.length)(hl:S.length≤1000000000)(w:World):
  Calls Tryz.prog 146 #[.string ⟨S.toArray⟩] w fun e w'=>e=.returned (.tuple #[I0,.int .i64 1])∧w'=w:=by
 rcases h8 with h|h
 ·have f1:decide ((S.length:Int)<1)=true:=aC (by omega)
  go_enter Tryz.func146,Tryz.ntmps146
  go_wp2_with fail
  go_ret2
  exact⟨rfl,rfl⟩
 ·have f1:decide ((S.length:Int)<1)=false:=an (by omega)
  have f2:decide ((8:Int)<(S.length:Int))=true:=aC (by omega);have f3:decide ((S.length:Int)>8)=true:=aC (by omega)
  go_enter Tryz.func146,Tryz.ntmps146
  go_wp2_with fail
  go_ret2
  exact⟨rfl,rfl⟩
def kN(S:List UInt8):Int×Int:=if 1≤S.length∧S.length≤8 then(sgI S,0) else(0,1)
theorem oQ(S:List UInt8)(hl:S.length≤1000000000)(w:World):
  Calls Tryz.prog 146 #[.string ⟨S.toArray⟩] w fun e w'=>e=.returned (.tuple #[.int .i64 (kN S).1,.int .i64 (kN S).2])∧w'=w:=by
 unfold kN
 by_cases h:1≤S.length∧S.length≤8
 ·rw[if_pos h]
  cases S with
  |nil=>simp at h
  |cons b r=>simp only[aG] at h;exact oO b r (by omega) w
 ·rw[if_neg h]
  exact oP S (by omega) hl w
def gA(el:El)(cl t:Int):Int×Int:=if isE el cl t false&&decide (1≤el.bytes.length∧el.bytes.length≤8) then(sgI el.bytes,0) else(0,24)
theorem jY(el:El)(u:Value)(cl t:Int)(w:World)(h:bf (fun _=>True) w u el.kids)(hl:el.bytes.length≤1000000000):
  Cr 122 #[.agg (elA el u),.int .i64 cl,.int .i64 t] w (.tuple #[.int .i64 (gA el cl t).1,.int .i64 (gA el cl t).2]):=by
 obtain⟨E,hE⟩:=nmm (elA el u);have b1:=alb w E 40;have r1:=alz w E 40;have ks:=oQ el.bytes hl (w.alloc (.cells E 40));have k:=kz el u cl t false (w.alloc (.cells E 40)) (h.below b1);obtain⟨I,hI⟩:=nmm (isE el cl t false);obtain⟨GA,hGA⟩:=nmm ((gA el cl t).1);obtain⟨GB,hGB⟩:=nmm ((gA el cl t).2);rw[hE,hI] at k;rw[hE,hGA,hGB];have hq3:E[3]?=some (.string ⟨el.bytes.toArray⟩):=by rw[←hE];rfl
 have hEs:E.size=5:=by rw[←hE];rfl
 obtain⟨HQ3,HES⟩:=Cg hq3 hEs;obtain⟨SA,hSA⟩:=nmm ((kN el.bytes).1);obtain⟨SB,hSB⟩:=nmm ((kN el.bytes).2);rw[hSA,hSB] at ks;have key:(I=true∧SB=0∧GA=SA∧GB=0)∨(I=true∧SB=1∧GA=0∧GB=24)∨(I=false∧GA=0∧GB=24):=by
  rw[←hGA,←hGB,←hSA,←hSB,←hI];unfold gA kN
  by_cases h1:1≤el.bytes.length∧el.bytes.length≤8<;>cases isE el cl t false<;>simp[h1]
 clear hE hI hGA hGB hSA hSB hq3 hEs h hl;rcases key with⟨rfl,rfl,rfl,rfl⟩|⟨rfl,rfl,rfl,rfl⟩|⟨rfl,rfl,rfl⟩
 all_goals
  go_enter Tryz.func122,Tryz.ntmps122
  go_upto_region 1 with fail
  generalize w.alloc (.cells E 40)=w1 at b1 r1 k ks⊢;have q3:w1.cell? ⟨w.heap.size,3,none⟩=some (.string ⟨el.bytes.toArray⟩):=(aq r1 3).trans HQ3.out
  go_wp2_with fail
  refine ag ks ?_;rintro e w2 ⟨rfl,rfl⟩;clear q3 ks
  go_wp2_with (refine ldE (.tmp 3) r1 HES.out ?_)
  refine ag k ?_;rintro e w3 ⟨rfl,hb3⟩;have b3:=btt b1 hb3;clear k hb3 r1 b1
  go_wp2_with fail
  go_ret2
  exact⟨rfl,b3⟩
theorem gE(v:Int)(b:UInt8)(h0:0≤v)(h1:v<1099511627776):dZ v b=v*256+(b.toNat:Int):=by
 have:=UInt8.toNat_lt b;unfold dZ;rw[aK]
 omega
theorem sg2(a b:UInt8)(h:a.toNat<128):sgI [a,b]=(a.toNat:Int)*256+(b.toNat:Int):=by
 show dZ (if a.toNat<128 then(a.toNat:Int) else(a.toNat:Int) -256) b=_;rw[if_pos h,gE _ _ (by omega) (by omega)]
theorem sg3(a b c:UInt8)(h:a.toNat<128):sgI [a,b,c]=((a.toNat:Int)*256+(b.toNat:Int))*256+(c.toNat:Int):=by
 have h2:=UInt8.toNat_lt b;rw[show sgI [a,b,c]=dZ (sgI [a,b]) c from rfl,sg2 a b h,gE _ _ (by omega) (by omega)]
theorem sg4(a b c d:UInt8)(h:a.toNat<128):sgI [a,b,c,d]=(((a.toNat:Int)*256+(b.toNat:Int))*256+(c.toNat:Int))*256+(d.toNat:Int):=by
 have h2:=UInt8.toNat_lt b;have h3:=UInt8.toNat_lt c;rw[show sgI [a,b,c,d]=dZ (sgI [a,b,c]) d from rfl,sg3 a b c h,gE _ _ (by omega) (by omega)]
theorem sW(n:Nat)(h:n≤2147483647):sgI (sgB n)=(n:Int)∧1≤(sgB n).length∧(sgB n).length≤8:=by
 have hl:=eg n;refine⟨?_,hl.1,by omega⟩;have u:∀k,(UInt8.ofNat k).toNat=k% 256:=fun k=>by simp[UInt8.toNat_ofNat']
 unfold sgB
 by_cases h1:n<128
 ·rw[if_pos h1]
  show(if(UInt8.ofNat n).toNat<128 then((UInt8.ofNat n).toNat:Int) else _)=_;rw[u,if_pos (by omega)]
  omega
 ·rw[if_neg h1]
  by_cases h2:n<32768
  ·rw[if_pos h2,sg2 _ _ (by rw[u];omega),u,u]
   omega
  ·rw[if_neg h2]
   by_cases h3:n<8388608
   ·rw[if_pos h3,sg3 _ _ _ (by rw[u];omega),u,u,u]
    omega
   ·rw[if_neg h3,sg4 _ _ _ _ (by rw[u];omega),u,u,u,u]
    omega
theorem qa(m:Mg)(l:Ls)(w:World)(hm:MgM w m l)(hk:LsOk m l)(hv:bH m l=true)(hop:m.op=0)(hs:m.sasl=true):Calls Tryz.prog 48 #[.agg m.row] w fun e w'=>(∃u,e=.returned (.agg (elA (opE m l) u))∧bf (fun g=>w.heap.size≤g) w' u (opE m l).kids)∧Bw w w':=by
 obtain⟨hkb,⟨hi0,hi1⟩,hmo⟩:=xp hv;simp only[br,hop,if_true,aI,aT] at hkb;obtain⟨hv1,hv2⟩:=hkb;have hvn:m.row[3]?=some (.int .i64 (m.ver.toNat:Int)):=by rw[show((m.ver.toNat:Nat):Int)=m.ver by omega];rfl
 have hsg:=kX (n:=m.ver.toNat) (by omega);have hrow1:m.row[1]?=some (.int .i64 0):=by rw[←hop];rfl
 have hE:opE m l=.mk 1 0 (El.cons (.mk 0 16 true [] [.mk 0 2 false [UInt8.ofNat m.ver.toNat] [],.mk 0 4 false m.dn [],.mk 2 3 true [] [.mk 0 4 false m.secret []]])) (El.bytes (.mk 0 16 true [] [.mk 0 2 false [UInt8.ofNat m.ver.toNat] [],.mk 0 4 false m.dn [],.mk 2 3 true [] [.mk 0 4 false m.secret []]])) (El.kids (.mk 0 16 true [] [.mk 0 2 false [UInt8.ofNat m.ver.toNat] [],.mk 0 4 false m.dn [],.mk 2 3 true [] [.mk 0 4 false m.secret []]])):=by simp[opE,hop,El.cons,El.bytes,El.kids,ip,hs,hsg]
 rw[hE];have hr:l.mods.all (fun x=>bB x.1 2)=true:=by rw[hmo (by rw[hop];decide)];rfl
 refine dG (opx w m l) m.row w 2 0 (by decide) (.mk 0 16 true [] [.mk 0 2 false [UInt8.ofNat m.ver.toNat] [],.mk 0 4 false m.dn [],.mk 2 3 true [] [.mk 0 4 false m.secret []]]) (by have h1:=hk.dn;have h2:=hk.secret;simp[SmE,SmL];omega) rfl hrow1 rfl rfl rfl rfl rfl (by have:=hk.typ;show m.typ.length≤_;omega) (by have:=hk.value;show m.value.length≤_;omega) (dj hm hk hr) (cZ hm hk) ?_;intro V w' hV hb hM;have hV:V=.func (.func 77) #[] #[.pointer (some ⟨w.heap.size,0,none⟩)]:=hV;subst hV;refine⟨_,_,rfl,oz,?_⟩;refine(nR w.heap.size m.ver.toNat m.row m.dn m.secret w' hM (by omega) rfl hvn (by rw[←hs];rfl) rfl (by have:=hk.dn;omega) (by have:=hk.secret;omega)).mono ?_;rintro e w'' ⟨⟨u,rfl,hu⟩,hb'⟩;exact⟨⟨u,rfl,hu.mono fun _ _ _=>trivial⟩,hb'⟩
theorem qc(m:Mg)(l:Ls)(w:World)(hm:MgM w m l)(hk:LsOk m l)(hv:bH m l=true)(hop:m.op=0)(hs:m.sasl=false):Calls Tryz.prog 48 #[.agg m.row] w fun e w'=>(∃u,e=.returned (.agg (elA (opE m l) u))∧bf (fun g=>w.heap.size≤g) w' u (opE m l).kids)∧Bw w w':=by
 obtain⟨hkb,⟨hi0,hi1⟩,hmo⟩:=xp hv;simp only[br,hop,if_true,aI,aT] at hkb;obtain⟨hv1,hv2⟩:=hkb;have hvn:m.row[3]?=some (.int .i64 (m.ver.toNat:Int)):=by rw[show((m.ver.toNat:Nat):Int)=m.ver by omega];rfl
 have hsg:=kX (n:=m.ver.toNat) (by omega);have hrow1:m.row[1]?=some (.int .i64 0):=by rw[←hop];rfl
 have hE:opE m l=.mk 1 0 (El.cons (.mk 0 16 true [] [.mk 0 2 false [UInt8.ofNat m.ver.toNat] [],.mk 0 4 false m.dn [],.mk 2 0 false m.secret []])) (El.bytes (.mk 0 16 true [] [.mk 0 2 false [UInt8.ofNat m.ver.toNat] [],.mk 0 4 false m.dn [],.mk 2 0 false m.secret []])) (El.kids (.mk 0 16 true [] [.mk 0 2 false [UInt8.ofNat m.ver.toNat] [],.mk 0 4 false m.dn [],.mk 2 0 false m.secret []])):=by simp[opE,hop,El.cons,El.bytes,El.kids,ip,hs,hsg]
 rw[hE];have hr:l.mods.all (fun x=>bB x.1 2)=true:=by rw[hmo (by rw[hop];decide)];rfl
 refine dG (opx w m l) m.row w 2 0 (by decide) (.mk 0 16 true [] [.mk 0 2 false [UInt8.ofNat m.ver.toNat] [],.mk 0 4 false m.dn [],.mk 2 0 false m.secret []]) (by have h1:=hk.dn;have h2:=hk.secret;simp[SmE,SmL];omega) rfl hrow1 rfl rfl rfl rfl rfl (by have:=hk.typ;show m.typ.length≤_;omega) (by have:=hk.value;show m.value.length≤_;omega) (dj hm hk hr) (cZ hm hk) ?_;intro V w' hV hb hM;have hV:V=.func (.func 77) #[] #[.pointer (some ⟨w.heap.size,0,none⟩)]:=hV;subst hV;refine⟨_,_,rfl,oz,?_⟩;refine(Am w.heap.size m.ver.toNat m.row m.dn m.secret w' hM (by omega) rfl hvn (by rw[←hs];rfl) rfl (by have:=hk.dn;omega) (by have:=hk.secret;omega)).mono ?_;rintro e w'' ⟨⟨u,rfl,hu⟩,hb'⟩;exact⟨⟨u,rfl,hu.mono fun _ _ _=>trivial⟩,hb'⟩
theorem nh(m:Mg)(l:Ls)(w:World)(hm:MgM w m l)(hk:LsOk m l)(hv:bH m l=true)(hop:m.op=2):Calls Tryz.prog 48 #[.agg m.row] w fun e w'=>(∃u,e=.returned (.agg (elA (opE m l) u))∧bf (fun g=>w.heap.size≤g) w' u (opE m l).kids)∧Bw w w':=by
 obtain⟨hkb,⟨hi0,hi1⟩,hmo⟩:=xp hv;have hrow1:m.row[1]?=some (.int .i64 2):=by rw[←hop];rfl
 have hE:opE m l=.mk 1 2 (El.cons (.mk 0 4 false [] [])) (El.bytes (.mk 0 4 false [] [])) (El.kids (.mk 0 4 false [] [])):=by simp[opE,hop,El.cons,El.bytes,El.kids]
 rw[hE];have hr:l.mods.all (fun x=>bB x.1 2)=true:=by rw[hmo (by rw[hop];decide)];rfl
 refine dG (opx w m l) m.row w 3 2 (by decide) (.mk 0 4 false [] []) (by simp[SmE,SmL]) rfl hrow1 rfl rfl rfl rfl rfl (by have:=hk.typ;show m.typ.length≤_;omega) (by have:=hk.value;show m.value.length≤_;omega) (dj hm hk hr) (cZ hm hk) ?_;intro V w' hV hb hM;have hV:V=.func (.func 78) #[] #[]:=hV;subst hV;refine⟨_,_,rfl,sT,?_⟩;refine(mV w').mono ?_;rintro e w'' ⟨⟨u,rfl,hu⟩,hb'⟩;exact⟨⟨u,rfl,hu.mono fun _ _ _=>trivial⟩,hb'⟩
theorem ni(m:Mg)(l:Ls)(w:World)(hm:MgM w m l)(hk:LsOk m l)(hv:bH m l=true)(hop:m.op=10):Calls Tryz.prog 48 #[.agg m.row] w fun e w'=>(∃u,e=.returned (.agg (elA (opE m l) u))∧bf (fun g=>w.heap.size≤g) w' u (opE m l).kids)∧Bw w w':=by
 obtain⟨hkb,⟨hi0,hi1⟩,hmo⟩:=xp hv;have hrow1:m.row[1]?=some (.int .i64 10):=by rw[←hop];rfl
 have hE:opE m l=.mk 1 10 (El.cons (.mk 0 4 false m.dn [])) (El.bytes (.mk 0 4 false m.dn [])) (El.kids (.mk 0 4 false m.dn [])):=by simp[opE,hop,El.cons,El.bytes,El.kids]
 rw[hE];have hr:l.mods.all (fun x=>bB x.1 2)=true:=by rw[hmo (by rw[hop];decide)];rfl
 refine dG (opx w m l) m.row w 37 10 (by decide) (.mk 0 4 false m.dn []) (by have:=hk.dn;simp[SmE,SmL];omega) rfl hrow1 rfl rfl rfl rfl rfl (by have:=hk.typ;show m.typ.length≤_;omega) (by have:=hk.value;show m.value.length≤_;omega) (dj hm hk hr) (cZ hm hk) ?_;intro V w' hV hb hM;have hV:V=.func (.func 84) #[] #[.pointer (some ⟨w.heap.size,0,none⟩)]:=hV;subst hV;refine⟨_,_,rfl,Cd,?_⟩;refine(qW w.heap.size _ m.dn w' hM rfl).mono ?_;rintro e w'' ⟨rfl,hb'⟩;exact⟨⟨_,rfl,bf.nil _ _⟩,hb'⟩
theorem mj(m:Mg)(l:Ls)(w:World)(hm:MgM w m l)(hk:LsOk m l)(hv:bH m l=true)(hop:m.op=16):Calls Tryz.prog 48 #[.agg m.row] w fun e w'=>(∃u,e=.returned (.agg (elA (opE m l) u))∧bf (fun g=>w.heap.size≤g) w' u (opE m l).kids)∧Bw w w':=by
 obtain⟨hkb,⟨hi0,hi1⟩,hmo⟩:=xp hv;simp only[br,hop] at hkb;have h1:=hkb
 simp[bB] at h1
 have hvn:m.row[23]?=some (.int .i64 (m.target.toNat:Int)):=by rw[show((m.target.toNat:Nat):Int)=m.target by omega];rfl
 have hrow1:m.row[1]?=some (.int .i64 16):=by rw[←hop];rfl
 have hE:opE m l=.mk 1 16 (El.cons (.mk 0 2 false (sgB m.target.toNat) [])) (El.bytes (.mk 0 2 false (sgB m.target.toNat) [])) (El.kids (.mk 0 2 false (sgB m.target.toNat) [])):=by simp[opE,hop,El.cons,El.bytes,El.kids]
 rw[hE];have hr:l.mods.all (fun x=>bB x.1 2)=true:=by rw[hmo (by rw[hop];decide)];rfl
 refine dG (opx w m l) m.row w 56 16 (by decide) (.mk 0 2 false (sgB m.target.toNat) []) (by have:=(eg m.target.toNat).2;simp[SmE,SmL];omega) rfl hrow1 rfl rfl rfl rfl rfl (by have:=hk.typ;show m.typ.length≤_;omega) (by have:=hk.value;show m.value.length≤_;omega) (dj hm hk hr) (cZ hm hk) ?_;intro V w' hV hb hM;have hV:V=.func (.func 86) #[] #[.pointer (some ⟨w.heap.size,0,none⟩)]:=hV;subst hV;refine⟨_,_,rfl,Bo,?_⟩;refine(lW w.heap.size m.target.toNat m.row w' hM hvn (by omega)).mono ?_;rintro e w'' ⟨⟨u,rfl,hu⟩,hb'⟩;exact⟨⟨u,rfl,hu.mono fun _ _ _=>trivial⟩,hb'⟩
theorem qd(m:Mg)(l:Ls)(w:World)(hm:MgM w m l)(hk:LsOk m l)(hv:bH m l=true)(hop:m.op=12)(hs:m.hasSup=true):Calls Tryz.prog 48 #[.agg m.row] w fun e w'=>(∃u,e=.returned (.agg (elA (opE m l) u))∧bf (fun g=>w.heap.size≤g) w' u (opE m l).kids)∧Bw w w':=by
 obtain⟨hkb,⟨hi0,hi1⟩,hmo⟩:=xp hv;have hrow1:m.row[1]?=some (.int .i64 12):=by rw[←hop];rfl
 have hE:opE m l=.mk 1 12 (El.cons (.mk 0 16 true [] [.mk 0 4 false m.dn [],.mk 0 4 false m.newRdn [],.mk 0 1 false (blB m.delOld) [],.mk 2 0 false m.newSup []])) (El.bytes (.mk 0 16 true [] [.mk 0 4 false m.dn [],.mk 0 4 false m.newRdn [],.mk 0 1 false (blB m.delOld) [],.mk 2 0 false m.newSup []])) (El.kids (.mk 0 16 true [] [.mk 0 4 false m.dn [],.mk 0 4 false m.newRdn [],.mk 0 1 false (blB m.delOld) [],.mk 2 0 false m.newSup []])):=by simp[opE,hop,El.cons,El.bytes,El.kids,hs]
 rw[hE];have hr:l.mods.all (fun x=>bB x.1 2)=true:=by rw[hmo (by rw[hop];decide)];rfl
 refine dG (opx w m l) m.row w 39 12 (by decide) (.mk 0 16 true [] [.mk 0 4 false m.dn [],.mk 0 4 false m.newRdn [],.mk 0 1 false (blB m.delOld) [],.mk 2 0 false m.newSup []]) (by have h1:=hk.dn;have h2:=hk.newRdn;have h3:=hk.newSup;have h4:(blB m.delOld).length=1:=(by cases m.delOld<;>rfl);simp[SmE,SmL];omega) rfl hrow1 rfl rfl rfl rfl rfl (by have:=hk.typ;show m.typ.length≤_;omega) (by have:=hk.value;show m.value.length≤_;omega) (dj hm hk hr) (cZ hm hk) ?_;intro V w' hV hb hM;have hV:V=.func (.func 85) #[] #[.pointer (some ⟨w.heap.size,0,none⟩)]:=hV;subst hV;refine⟨_,_,rfl,og,?_⟩;refine(nX w.heap.size m.row m.dn m.newRdn m.newSup m.delOld w' hM rfl rfl rfl (by rw[←hs];rfl) rfl (by have:=hk.dn;omega) (by have:=hk.newRdn;omega) (by have:=hk.newSup;omega)).mono ?_;rintro e w'' ⟨⟨u,rfl,hu⟩,hb'⟩;exact⟨⟨u,rfl,hu.mono fun _ _ _=>trivial⟩,hb'⟩
theorem qe(m:Mg)(l:Ls)(w:World)(hm:MgM w m l)(hk:LsOk m l)(hv:bH m l=true)(hop:m.op=12)(hs:m.hasSup=false):Calls Tryz.prog 48 #[.agg m.row] w fun e w'=>(∃u,e=.returned (.agg (elA (opE m l) u))∧bf (fun g=>w.heap.size≤g) w' u (opE m l).kids)∧Bw w w':=by
 obtain⟨hkb,⟨hi0,hi1⟩,hmo⟩:=xp hv;have hrow1:m.row[1]?=some (.int .i64 12):=by rw[←hop];rfl
 have hE:opE m l=.mk 1 12 (El.cons (.mk 0 16 true [] [.mk 0 4 false m.dn [],.mk 0 4 false m.newRdn [],.mk 0 1 false (blB m.delOld) []])) (El.bytes (.mk 0 16 true [] [.mk 0 4 false m.dn [],.mk 0 4 false m.newRdn [],.mk 0 1 false (blB m.delOld) []])) (El.kids (.mk 0 16 true [] [.mk 0 4 false m.dn [],.mk 0 4 false m.newRdn [],.mk 0 1 false (blB m.delOld) []])):=by simp[opE,hop,El.cons,El.bytes,El.kids,hs]
 rw[hE];have hr:l.mods.all (fun x=>bB x.1 2)=true:=by rw[hmo (by rw[hop];decide)];rfl
 refine dG (opx w m l) m.row w 39 12 (by decide) (.mk 0 16 true [] [.mk 0 4 false m.dn [],.mk 0 4 false m.newRdn [],.mk 0 1 false (blB m.delOld) []]) (by have h1:=hk.dn;have h2:=hk.newRdn;have h3:=hk.newSup;have h4:(blB m.delOld).length=1:=(by cases m.delOld<;>rfl);simp[SmE,SmL];omega) rfl hrow1 rfl rfl rfl rfl rfl (by have:=hk.typ;show m.typ.length≤_;omega) (by have:=hk.value;show m.value.length≤_;omega) (dj hm hk hr) (cZ hm hk) ?_;intro V w' hV hb hM;have hV:V=.func (.func 85) #[] #[.pointer (some ⟨w.heap.size,0,none⟩)]:=hV;subst hV;refine⟨_,_,rfl,og,?_⟩;refine(nW w.heap.size m.row m.dn m.newRdn m.delOld w' hM rfl rfl rfl (by rw[←hs];rfl) (by have:=hk.dn;omega) (by have:=hk.newRdn;omega)).mono ?_;rintro e w'' ⟨⟨u,rfl,hu⟩,hb'⟩;exact⟨⟨u,rfl,hu.mono fun _ _ _=>trivial⟩,hb'⟩
theorem nj(m:Mg)(l:Ls)(w:World)(hm:MgM w m l)(hk:LsOk m l)(hv:bH m l=true)(hop:m.op=23)(hs:m.has=true):Calls Tryz.prog 48 #[.agg m.row] w fun e w'=>(∃u,e=.returned (.agg (elA (opE m l) u))∧bf (fun g=>w.heap.size≤g) w' u (opE m l).kids)∧Bw w w':=by
 obtain⟨hkb,⟨hi0,hi1⟩,hmo⟩:=xp hv;have hrow1:m.row[1]?=some (.int .i64 23):=by rw[←hop];rfl
 have hE:opE m l=.mk 1 23 (El.cons (.mk 0 16 true [] [.mk 2 0 false m.oid [],.mk 2 1 false m.value []])) (El.bytes (.mk 0 16 true [] [.mk 2 0 false m.oid [],.mk 2 1 false m.value []])) (El.kids (.mk 0 16 true [] [.mk 2 0 false m.oid [],.mk 2 1 false m.value []])):=by simp[opE,hop,El.cons,El.bytes,El.kids,hs]
 rw[hE];have hr:l.mods.all (fun x=>bB x.1 2)=true:=by rw[hmo (by rw[hop];decide)];rfl
 refine dG (opx w m l) m.row w 58 23 (by decide) (.mk 0 16 true [] [.mk 2 0 false m.oid [],.mk 2 1 false m.value []]) (by have h1:=hk.oid;have h2:=hk.value;simp[SmE,SmL];omega) rfl hrow1 rfl rfl rfl rfl rfl (by have:=hk.typ;show m.typ.length≤_;omega) (by have:=hk.value;show m.value.length≤_;omega) (dj hm hk hr) (cZ hm hk) ?_;intro V w' hV hb hM;have hV:V=.func (.func 87) #[] #[.pointer (some ⟨w.heap.size,0,none⟩)]:=hV;subst hV;refine⟨_,_,rfl,oh,?_⟩;refine(pH w.heap.size m.row m.oid m.value w' hM rfl (by rw[←hs];rfl) rfl (by have:=hk.oid;omega) (by have:=hk.value;omega)).mono ?_;rintro e w'' ⟨⟨u,rfl,hu⟩,hb'⟩;exact⟨⟨u,rfl,hu.mono fun _ _ _=>trivial⟩,hb'⟩
theorem nl(m:Mg)(l:Ls)(w:World)(hm:MgM w m l)(hk:LsOk m l)(hv:bH m l=true)(hop:m.op=23)(hs:m.has=false):Calls Tryz.prog 48 #[.agg m.row] w fun e w'=>(∃u,e=.returned (.agg (elA (opE m l) u))∧bf (fun g=>w.heap.size≤g) w' u (opE m l).kids)∧Bw w w':=by
 obtain⟨hkb,⟨hi0,hi1⟩,hmo⟩:=xp hv;have hrow1:m.row[1]?=some (.int .i64 23):=by rw[←hop];rfl
 have hE:opE m l=.mk 1 23 (El.cons (.mk 0 16 true [] [.mk 2 0 false m.oid []])) (El.bytes (.mk 0 16 true [] [.mk 2 0 false m.oid []])) (El.kids (.mk 0 16 true [] [.mk 2 0 false m.oid []])):=by simp[opE,hop,El.cons,El.bytes,El.kids,hs]
 rw[hE];have hr:l.mods.all (fun x=>bB x.1 2)=true:=by rw[hmo (by rw[hop];decide)];rfl
 refine dG (opx w m l) m.row w 58 23 (by decide) (.mk 0 16 true [] [.mk 2 0 false m.oid []]) (by have h1:=hk.oid;have h2:=hk.value;simp[SmE,SmL];omega) rfl hrow1 rfl rfl rfl rfl rfl (by have:=hk.typ;show m.typ.length≤_;omega) (by have:=hk.value;show m.value.length≤_;omega) (dj hm hk hr) (cZ hm hk) ?_;intro V w' hV hb hM;have hV:V=.func (.func 87) #[] #[.pointer (some ⟨w.heap.size,0,none⟩)]:=hV;subst hV;refine⟨_,_,rfl,oh,?_⟩;refine(pG w.heap.size m.row m.oid w' hM rfl (by rw[←hs];rfl) (by have:=hk.oid;omega)).mono ?_;rintro e w'' ⟨⟨u,rfl,hu⟩,hb'⟩;exact⟨⟨u,rfl,hu.mono fun _ _ _=>trivial⟩,hb'⟩
theorem np(m:Mg)(l:Ls)(w:World)(hm:MgM w m l)(hk:LsOk m l)(hv:bH m l=true)(hop:m.op=3):Calls Tryz.prog 48 #[.agg m.row] w fun e w'=>(∃u,e=.returned (.agg (elA (opE m l) u))∧bf (fun g=>w.heap.size≤g) w' u (opE m l).kids)∧Bw w w':=by
 obtain⟨hkb,⟨hi0,hi1⟩,hmo⟩:=xp hv;have hkb2:(bB m.scope 2&&bB m.deref 3&&bB m.size 2147483647&&bB m.time 2147483647&&dz l.filt)=true:=by simpa[br,hop] using hkb
 simp only[aI,bB,aT,dz] at hkb2;obtain⟨⟨⟨⟨h1,h2⟩,h3⟩,h4⟩,h5,h6⟩:=hkb2;have hw:bG 20 l.filt=some []:=by
  split at h6
  ·assumption
  ·cases h6
 have hc:∀n:Int,0≤n→((n.toNat:Nat):Int)=n:=fun n h=>by omega
 have hsm:SmE (.mk 0 16 true [] (cY m.dn m.scope.toNat m.deref.toNat m.size.toNat m.time.toNat m.types (cD 20 l.filt).1 l.sel)):=by
  simp only[SmE];exact⟨by simp,by simp[cY],xO _ _ _ _ _ _ _ _ (by have:=hk.dn;omega) (jr 20 l.filt [] (fun p hp=>(hk.filt.2 p hp).1) h5 hw) hk.sels (by have:=hk.sel;omega)⟩
 have hrow1:m.row[1]?=some (.int .i64 3):=by rw[←hop];rfl
 have hE:opE m l=.mk 1 3 (El.cons (.mk 0 16 true [] (cY m.dn m.scope.toNat m.deref.toNat m.size.toNat m.time.toNat m.types (cD 20 l.filt).1 l.sel))) (El.bytes (.mk 0 16 true [] (cY m.dn m.scope.toNat m.deref.toNat m.size.toNat m.time.toNat m.types (cD 20 l.filt).1 l.sel))) (El.kids (.mk 0 16 true [] (cY m.dn m.scope.toNat m.deref.toNat m.size.toNat m.time.toNat m.types (cD 20 l.filt).1 l.sel))):=by simp[opE,hop,El.cons,El.bytes,El.kids]
 rw[hE];have hr:l.mods.all (fun x=>bB x.1 2)=true:=by rw[hmo (by rw[hop];decide)];rfl
 refine dG (opx w m l) m.row w 5 3 (by decide) (.mk 0 16 true [] (cY m.dn m.scope.toNat m.deref.toNat m.size.toNat m.time.toNat m.types (cD 20 l.filt).1 l.sel)) (hsm) rfl hrow1 rfl rfl rfl rfl rfl (by have:=hk.typ;show m.typ.length≤_;omega) (by have:=hk.value;show m.value.length≤_;omega) (dj hm hk hr) (cZ hm hk) ?_;intro V w' hV hb hM;have hV:V=.func (.func 79) #[] #[.pointer (some ⟨w.heap.size,0,none⟩)]:=hV;subst hV;refine⟨_,_,rfl,sU,?_⟩;refine(mX w.heap.size m.row m.dn m.scope.toNat m.deref.toNat m.size.toNat m.time.toNat m.types m.filt m.sel l.filt l.sel w' hM rfl (by rw[hc _ h1.1];rfl) (by rw[hc _ h2.1];rfl) (by rw[hc _ h3.1];rfl) (by rw[hc _ h4.1];rfl) rfl rfl rfl (by have:=hk.dn;omega) (by omega) (by omega) (by omega) (by omega) (hm.filt.below hb) hk.filt h5 hw (hm.sel.below hb) hk.sel hk.sels).mono ?_;rintro e w'' ⟨⟨u,rfl,hu⟩,hb'⟩;exact⟨⟨u,rfl,hu.mono fun _ _ _=>trivial⟩,hb'⟩
theorem nq(m:Mg)(l:Ls)(w:World)(hm:MgM w m l)(hk:LsOk m l)(hv:bH m l=true)(hop:m.op=6):Calls Tryz.prog 48 #[.agg m.row] w fun e w'=>(∃u,e=.returned (.agg (elA (opE m l) u))∧bf (fun g=>w.heap.size≤g) w' u (opE m l).kids)∧Bw w w':=by
 obtain⟨hkb,⟨hi0,hi1⟩,hmo⟩:=xp hv;have hrow1:m.row[1]?=some (.int .i64 6):=by rw[←hop];rfl
 have hE:opE m l=.mk 1 6 (El.cons (.mk 0 16 true [] [.mk 0 4 false m.dn [],.mk 0 16 true [] ((dR l.mods).map du)])) (El.bytes (.mk 0 16 true [] [.mk 0 4 false m.dn [],.mk 0 16 true [] ((dR l.mods).map du)])) (El.kids (.mk 0 16 true [] [.mk 0 4 false m.dn [],.mk 0 16 true [] ((dR l.mods).map du)])):=by simp[opE,hop,El.cons,El.bytes,El.kids]
 rw[hE];have hr:l.mods.all (fun x=>bB x.1 2)=true:=by simpa[br,hop] using hkb
 have hsm:SmE (.mk 0 16 true [] [.mk 0 4 false m.dn [],.mk 0 16 true [] ((dR l.mods).map du)]):=by
  have h1:=hk.dn;have h2:=mg hk hr;simp only[SmE,SmL] at h2⊢
  simp at h2⊢
  exact⟨by omega,h2⟩
 refine dG (opx w m l) m.row w 15 6 (by decide) (.mk 0 16 true [] [.mk 0 4 false m.dn [],.mk 0 16 true [] ((dR l.mods).map du)]) (hsm) rfl hrow1 rfl rfl rfl rfl rfl (by have:=hk.typ;show m.typ.length≤_;omega) (by have:=hk.value;show m.value.length≤_;omega) (dj hm hk hr) (cZ hm hk) ?_;intro V w' hV hb hM;obtain⟨bc,u,rfl,hc,hu⟩:fc [.mk 0 4 false m.dn [],.mk 0 16 true [] ((dR l.mods).map du)] V w':=hV;refine⟨_,_,rfl,DR,?_⟩;refine(gh bc u [.mk 0 4 false m.dn [],.mk 0 16 true [] ((dR l.mods).map du)] w' hc hu (by have h:=hsm;simp only[SmE] at h;exact h.2.2) (by simp)).mono ?_;rintro e w'' ⟨⟨u,rfl,hu⟩,hb'⟩;exact⟨⟨u,rfl,hu.mono fun _ _ _=>trivial⟩,hb'⟩
theorem rD(m:Mg)(l:Ls)(w:World)(hm:MgM w m l)(hk:LsOk m l)(hv:bH m l=true)(hop:m.op=8):Calls Tryz.prog 48 #[.agg m.row] w fun e w'=>(∃u,e=.returned (.agg (elA (opE m l) u))∧bf (fun g=>w.heap.size≤g) w' u (opE m l).kids)∧Bw w w':=by
 obtain⟨hkb,⟨hi0,hi1⟩,hmo⟩:=xp hv;have hrow1:m.row[1]?=some (.int .i64 8):=by rw[←hop];rfl
 have hE:opE m l=.mk 1 8 (El.cons (.mk 0 16 true [] [.mk 0 4 false m.dn [],.mk 0 16 true [] (l.attrs.map bI)])) (El.bytes (.mk 0 16 true [] [.mk 0 4 false m.dn [],.mk 0 16 true [] (l.attrs.map bI)])) (El.kids (.mk 0 16 true [] [.mk 0 4 false m.dn [],.mk 0 16 true [] (l.attrs.map bI)])):=by simp[opE,hop,El.cons,El.bytes,El.kids]
 rw[hE];have hr:l.mods.all (fun x=>bB x.1 2)=true:=by rw[hmo (by rw[hop];decide)];rfl
 have hsm:SmE (.mk 0 16 true [] [.mk 0 4 false m.dn [],.mk 0 16 true [] (l.attrs.map bI)]):=by
  have h1:=hk.dn;have h2:=xF hk;simp only[SmE,SmL] at h2⊢
  simp at h2⊢
  exact⟨by omega,h2⟩
 refine dG (opx w m l) m.row w 25 8 (by decide) (.mk 0 16 true [] [.mk 0 4 false m.dn [],.mk 0 16 true [] (l.attrs.map bI)]) (hsm) rfl hrow1 rfl rfl rfl rfl rfl (by have:=hk.typ;show m.typ.length≤_;omega) (by have:=hk.value;show m.value.length≤_;omega) (dj hm hk hr) (cZ hm hk) ?_;intro V w' hV hb hM;obtain⟨bc,u,rfl,hc,hu⟩:fc [.mk 0 4 false m.dn [],.mk 0 16 true [] (l.attrs.map bI)] V w':=hV;refine⟨_,_,rfl,DR,?_⟩;refine(gh bc u [.mk 0 4 false m.dn [],.mk 0 16 true [] (l.attrs.map bI)] w' hc hu (by have h:=hsm;simp only[SmE] at h;exact h.2.2) (by simp)).mono ?_;rintro e w'' ⟨⟨u,rfl,hu⟩,hb'⟩;exact⟨⟨u,rfl,hu.mono fun _ _ _=>trivial⟩,hb'⟩
theorem oR(m:Mg)(l:Ls)(w:World)(hm:MgM w m l)(hk:LsOk m l)(hv:bH m l=true)(hop:m.op=4):Calls Tryz.prog 48 #[.agg m.row] w fun e w'=>(∃u,e=.returned (.agg (elA (opE m l) u))∧bf (fun g=>w.heap.size≤g) w' u (opE m l).kids)∧Bw w w':=by
 obtain⟨hkb,⟨hi0,hi1⟩,hmo⟩:=xp hv;have hrow1:m.row[1]?=some (.int .i64 4):=by rw[←hop];rfl
 have hE:opE m l=.mk 1 4 (El.cons (.mk 0 16 true [] [.mk 0 4 false m.dn [],.mk 0 16 true [] (l.attrs.map bI)])) (El.bytes (.mk 0 16 true [] [.mk 0 4 false m.dn [],.mk 0 16 true [] (l.attrs.map bI)])) (El.kids (.mk 0 16 true [] [.mk 0 4 false m.dn [],.mk 0 16 true [] (l.attrs.map bI)])):=by simp[opE,hop,El.cons,El.bytes,El.kids]
 rw[hE];have hr:l.mods.all (fun x=>bB x.1 2)=true:=by rw[hmo (by rw[hop];decide)];rfl
 have hsm:SmE (.mk 0 16 true [] [.mk 0 4 false m.dn [],.mk 0 16 true [] (l.attrs.map bI)]):=by
  have h1:=hk.dn;have h2:=xF hk;simp only[SmE,SmL] at h2⊢
  simp at h2⊢
  exact⟨by omega,h2⟩
 refine dG (opx w m l) m.row w 35 4 (by decide) (.mk 0 16 true [] [.mk 0 4 false m.dn [],.mk 0 16 true [] (l.attrs.map bI)]) (hsm) rfl hrow1 rfl rfl rfl rfl rfl (by have:=hk.typ;show m.typ.length≤_;omega) (by have:=hk.value;show m.value.length≤_;omega) (dj hm hk hr) (cZ hm hk) ?_;intro V w' hV hb hM;obtain⟨bc,u,rfl,hc,hu⟩:fc [.mk 0 4 false m.dn [],.mk 0 16 true [] (l.attrs.map bI)] V w':=hV;refine⟨_,_,rfl,DR,?_⟩;refine(gh bc u [.mk 0 4 false m.dn [],.mk 0 16 true [] (l.attrs.map bI)] w' hc hu (by have h:=hsm;simp only[SmE] at h;exact h.2.2) (by simp)).mono ?_;rintro e w'' ⟨⟨u,rfl,hu⟩,hb'⟩;exact⟨⟨u,rfl,hu.mono fun _ _ _=>trivial⟩,hb'⟩
theorem Fm(m:Mg)(l:Ls)(w:World)(hm:MgM w m l)(hk:LsOk m l)(hv:bH m l=true)(hop:m.op=14):Calls Tryz.prog 48 #[.agg m.row] w fun e w'=>(∃u,e=.returned (.agg (elA (opE m l) u))∧bf (fun g=>w.heap.size≤g) w' u (opE m l).kids)∧Bw w w':=by
 obtain⟨hkb,⟨hi0,hi1⟩,hmo⟩:=xp hv;have hrow1:m.row[1]?=some (.int .i64 14):=by rw[←hop];rfl
 have hE:opE m l=.mk 1 14 (El.cons (.mk 0 16 true [] [.mk 0 4 false m.dn [],.mk 0 16 true [] [.mk 0 4 false m.typ [],.mk 0 4 false m.value []]])) (El.bytes (.mk 0 16 true [] [.mk 0 4 false m.dn [],.mk 0 16 true [] [.mk 0 4 false m.typ [],.mk 0 4 false m.value []]])) (El.kids (.mk 0 16 true [] [.mk 0 4 false m.dn [],.mk 0 16 true [] [.mk 0 4 false m.typ [],.mk 0 4 false m.value []]])):=by simp[opE,hop,El.cons,El.bytes,El.kids]
 rw[hE];have hr:l.mods.all (fun x=>bB x.1 2)=true:=by rw[hmo (by rw[hop];decide)];rfl
 have hsm:SmE (.mk 0 16 true [] [.mk 0 4 false m.dn [],.mk 0 16 true [] [.mk 0 4 false m.typ [],.mk 0 4 false m.value []]]):=by
  have h1:=hk.dn;have h2:=hk.typ;have h3:=hk.value
  simp[SmE,SmL]
  omega
 refine dG (opx w m l) m.row w 54 14 (by decide) (.mk 0 16 true [] [.mk 0 4 false m.dn [],.mk 0 16 true [] [.mk 0 4 false m.typ [],.mk 0 4 false m.value []]]) (hsm) rfl hrow1 rfl rfl rfl rfl rfl (by have:=hk.typ;show m.typ.length≤_;omega) (by have:=hk.value;show m.value.length≤_;omega) (dj hm hk hr) (cZ hm hk) ?_;intro V w' hV hb hM;obtain⟨bc,u,rfl,hc,hu⟩:fc [.mk 0 4 false m.dn [],.mk 0 16 true [] [.mk 0 4 false m.typ [],.mk 0 4 false m.value []]] V w':=hV;refine⟨_,_,rfl,DR,?_⟩;refine(gh bc u [.mk 0 4 false m.dn [],.mk 0 16 true [] [.mk 0 4 false m.typ [],.mk 0 4 false m.value []]] w' hc hu (by have h:=hsm;simp only[SmE] at h;exact h.2.2) (by simp)).mono ?_;rintro e w'' ⟨⟨u,rfl,hu⟩,hb'⟩;exact⟨⟨u,rfl,hu.mono fun _ _ _=>trivial⟩,hb'⟩
theorem lg{m:Mg}{l:Ls}(h:br m l=true)(hn:m.op∉([0,2,3,6,8,4,10,12,14,16,23]:List Int)):0≤m.code∧m.code≤2147483647:=by
 simp only[aY,aZ,or_false,not_or] at hn;obtain⟨h0,h2,h3,h6,h8,h4,h10,h12,h14,h16,h23⟩:=hn;simp only[br,h0,h2,h3,h6,h8,h4,h10,h12,h14,h16,h23,if_false,or_self] at h
 by_cases h24:m.op=24
 ·simp only[h24,if_true,aI,bB,aT] at h;exact h.1
 ·simp only[h24,if_false] at h
  split at h
  ·simp only[bB,aI,aT] at h;exact h
  ·cases h
theorem nr(m:Mg)(l:Ls)(w:World)(hm:MgM w m l)(hk:LsOk m l)(hv:bH m l=true)(hn:m.op∉([0,2,3,6,8,4,10,12,14,16,23]:List Int)):Calls Tryz.prog 48 #[.agg m.row] w fun e w'=>(∃u,e=.returned (.agg (elA (opE m l) u))∧bf (fun g=>w.heap.size≤g) w' u (opE m l).kids)∧Bw w w':=by
 obtain⟨hkb,⟨hi0,hi1⟩,hmo⟩:=xp hv;obtain⟨hc0,hc1⟩:=lg hkb hn;have hr:l.mods.all (fun x=>bB x.1 2)=true:=by rw[hmo (by rintro h;rw[h] at hn;exact hn (by decide))];rfl
 obtain⟨hs1,hs2⟩:=kY hk (by omega);have hE:opE m l=.mk 1 m.op true [] (dh m):=by
  simp only[aY,aZ,or_false,not_or] at hn;obtain⟨h0,h2,h3,h6,h8,h4,h10,h12,h14,h16,h23⟩:=hn;simp only[opE,h0,h2,h3,h6,h8,h4,h10,h12,h14,h16,h23,if_false,or_self]
 rw[hE];exact tr (opx w m l) m.row w m.op (fun p hp h=>by
  rw[←h] at hn
  revert hn
  simp only[opL,aY,aZ,or_false] at hp;rcases hp with rfl|rfl|rfl|rfl|rfl|rfl|rfl|rfl|rfl|rfl|rfl<;>decide) (dh m) hs1 (by omega) rfl rfl rfl rfl rfl rfl rfl rfl (by have:=hk.typ;show m.typ.length≤_;omega) (by have:=hk.value;show m.value.length≤_;omega) (dj hm hk hr) (cZ hm hk) (fun w' _=>oK m l hk hc0 hc1 w')
theorem tK(m:Mg)(l:Ls)(w:World)(hm:MgM w m l)(hk:LsOk m l)(hv:bH m l=true):Calls Tryz.prog 48 #[.agg m.row] w fun e w'=>(∃u,e=.returned (.agg (elA (opE m l) u))∧bf (fun g=>w.heap.size≤g) w' u (opE m l).kids)∧Bw w w':=by
 by_cases h0:m.op=0
 ·cases hs:m.sasl
  ·exact qc m l w hm hk hv h0 hs
  ·exact qa m l w hm hk hv h0 hs
 by_cases h2:m.op=2
 ·exact nh m l w hm hk hv h2
 by_cases h3:m.op=3
 ·exact np m l w hm hk hv h3
 by_cases h6:m.op=6
 ·exact nq m l w hm hk hv h6
 by_cases h8:m.op=8
 ·exact rD m l w hm hk hv h8
 by_cases h4:m.op=4
 ·exact oR m l w hm hk hv h4
 by_cases h10:m.op=10
 ·exact ni m l w hm hk hv h10
 by_cases h12:m.op=12
 ·cases hs:m.hasSup
  ·exact qe m l w hm hk hv h12 hs
  ·exact qd m l w hm hk hv h12 hs
 by_cases h14:m.op=14
 ·exact Fm m l w hm hk hv h14
 by_cases h16:m.op=16
 ·exact mj m l w hm hk hv h16
 by_cases h23:m.op=23
 ·cases hs:m.has
  ·exact nl m l w hm hk hv h23 hs
  ·exact nj m l w hm hk hv h23 hs
 exact nr m l w hm hk hv (by simp only[aY,aZ,or_false,not_or];exact⟨h0,h2,h3,h6,h8,h4,h10,h12,h14,h16,h23⟩)
end Go.Proofs.YtfhghdcbofbceaaGreatDoor
