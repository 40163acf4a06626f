/- WrA, R9R, SkF, CpR, Grp, CpM, SameG. -/
import Derived.Test.YthjaiigijbjloaaGreatDoorW14
import Derived.Test.YthjaiigijbjloaaGreatDoorW15
namespace Go.Proofs.YthjaiigijbjloaaGreatDoor
open Go.RowKit Go.Lib
set_option maxRecDepth 100000
set_option maxHeartbeats 16000000
theorem sy{m:Mg}{l:Ls}(hk:LsOk m l)(hv:bH m l=true):SmE (opE m l):=by
 obtain⟨hkb,_,_⟩:=bT hv;have d1:=hk.dn;have d2:=hk.secret;have d3:=hk.newRdn;have d4:=hk.newSup;have d5:=hk.typ;have d6:=hk.value;have d7:=hk.oid;have d8:(blB m.delOld).length=1:=by cases m.delOld<;>rfl
 by_cases h0:m.op=0
 ·have h1:=(eg m.ver.toNat).2
  simp only[opE,h0,if_true,ip]
  split<;>simp[SmE,SmL]<;>omega
 by_cases h2:m.op=2
 ·simp[opE,h2,SmE,SmL]
 by_cases h3:m.op=3
 ·have hkb2:(bB m.scope 2&&bB m.deref 3&&bB m.size 2147483647&&bB m.time 2147483647&&dz l.filt)=true:=by simpa[br,h3] using hkb
  simp only[aI,bB,aT,dz] at hkb2;obtain⟨⟨⟨⟨h1,h2⟩,h3'⟩,h4⟩,h5,h6⟩:=hkb2;have hw:bG 20 l.filt=some []:=by
   split at h6
   ·assumption
   ·cases h6
  have e:opE m l=.mk 1 3 true [] (cY m.dn m.scope.toNat m.deref.toNat m.size.toNat m.time.toNat m.types (cD 20 l.filt).1 l.sel):=by simp[opE,h3]
  rw[e];simp only[SmE];exact⟨by simp,by simp[cY],xO _ _ _ _ _ _ _ _ (by omega) (jr 20 l.filt [] (fun p hp=>(hk.filt.2 p hp).1) h5 hw) hk.sels (by have:=hk.sel;omega)⟩
 by_cases h6:m.op=6
 ·have hr:l.mods.all (fun x=>bB x.1 2)=true:=by simpa[br,h6] using hkb
  have hs:=mg hk hr;have e:opE m l=.mk 1 6 true [] [.mk 0 4 false m.dn [],.mk 0 16 true [] ((dR l.mods).map du)]:=by simp[opE,h6]
  rw[e];simp only[SmE,SmL] at hs⊢
  simp at hs⊢
  exact⟨by omega,hs⟩
 by_cases h8:m.op=8∨m.op=4
 ·have hs:=xF hk
  have e:opE m l=.mk 1 m.op true [] [.mk 0 4 false m.dn [],.mk 0 16 true [] (l.attrs.map bI)]:=by simp only[opE,h0,h2,h3,h6,h8,if_true,if_false]
  rw[e];simp only[SmE,SmL] at hs⊢
  simp at hs⊢
  exact⟨by omega,hs⟩
 by_cases h10:m.op=10
 ·simp[opE,h10,SmE,SmL];omega
 by_cases h12:m.op=12
 ·simp only[opE,h12]
  simp
  split<;>simp[SmE,SmL]<;>omega
 by_cases h14:m.op=14
 ·simp[opE,h14,SmE,SmL];omega
 by_cases h16:m.op=16
 ·have h1:=(eg m.target.toNat).2
  simp[opE,h16,SmE,SmL];omega
 by_cases h23:m.op=23
 ·simp only[opE,h23]
  simp
  split<;>simp[SmE,SmL]<;>omega
 have hn:m.op∉([0,2,3,6,8,4,10,12,14,16,23]:List Int):=by
  simp only[aY,aZ,or_false,not_or] at h8⊢;exact⟨h0,h2,h3,h6,h8.1,h8.2,h10,h12,h14,h16,h23⟩
 obtain⟨hc0,hc1⟩:=lg hkb hn;obtain⟨hs1,hs2⟩:=kY hk (by omega);have e:opE m l=.mk 1 m.op true [] (dh m):=by simp only[opE,h0,h2,h3,h6,h8,h10,h12,h14,h16,h23,if_false]
 rw[e];simp only[SmE];exact⟨by simp,by omega,hs1⟩
theorem tM{m:Mg}{l:Ls}(hk:LsOk m l)(hv:bH m l=true):SmE (wm m l):=by
 have h1:=sy hk hv;have h2:=(eg m.id.toNat).2;have h3:=kO l.ctl hk.ctls;have h4:=hk.ctl;unfold wm mn;simp only[SmE];refine⟨by simp,by split<;>simp,wP _ _ ?_ ?_⟩
 ·simp only[SmL]
  exact⟨by simp[SmE,SmL];omega,h1,trivial⟩
 ·split
  ·trivial
  ·simp only[SmL,SmE,List.length_map]
   exact⟨⟨by simp,by omega,h3⟩,trivial⟩
def cR(m:Mg)(l:Ls):List UInt8×Int:=if bH m l then dD (wm m l) else([],70)
theorem qL(A:Array Value)(hsz:A.size=28)(w:World)
  (hval:∀w',Below w.heap.size w w'→Calls Tryz.prog 14 #[.agg A] w' fun e w''=>e=.returned (Bf)∧Below w'.heap.size w' w''):
  Cr 12 #[.agg A] w (.tuple #[Es,.int .i64 70]):=by
 have b1:=alb w A 28;have m1:=alz w A 28;have HS:=hid hsz;have kv:=hval _ b1;clear hsz hval
 go_enter Tryz.func12,Tryz.ntmps12
 go_upto_region 1 with fail
 generalize w.alloc (.cells A 28)=w1 at b1 m1 kv⊢
 go_wp2_with (refine bg rfl 28 (.tmp 1) rfl w.heap.size 28 _ (0,0) (by rfl) m1 _ Tryz.underlying28 rfl (by rw[HS.out];rfl) ?_)
 refine ag kv ?_;rintro e w2 ⟨rfl,hb2⟩;have b2:=btt b1 hb2;clear kv hb2 b1 m1
 go_wp2_with fail
 go_ret2
 exact⟨rfl,b2⟩
theorem fa(m:Mg)(l:Ls)(w:World)(hm:MgM w m l)(hk:LsOk m l)(hE:Env w):
  Cr 12 #[.agg m.row] w (.tuple #[.string ⟨(cR m l).1.toArray⟩,.int .i64 (cR m l).2]):=by
 have kv:∀w',Below w.heap.size w w'→Calls Tryz.prog 14 #[.agg m.row] w' fun e w''=>e=.returned (.bool (bH m l))∧Below w'.heap.size w' w'':=fun w' hb=>
  gR m l w' (hm.below hb) (by have:=hk.mods;omega) (by have:=hk.ctl;omega) (fun _ w2 hb2=>gu l.filt m.filt w2 ((hm.filt.below hb).below hb2) hk.filt ((hE.below hb).below hb2))
 unfold cR;cases hv:bH m l with
 |false=>
  rw[hv] at kv;exact qL m.row rfl w kv
 |true=>
  rw[hv] at kv;have hid:=(bT hv).2.1;exact sp 65537 pC m.row rfl (wm m l) (tM hk hv) (fV _) w kv (fun w' hb=>ns m l w' (hm.below hb) hk hid (opE m l) (sy hk hv) (fun w2 hb2=>tK m l w2 ((hm.below hb).below hb2) hk hv) (mn m l) rfl)
theorem zw{m:Mg}{l:Ls}(hv:bH m l=true)(hn:m.op∉([0,2,3,6,8,4,10,12,14,16,23]:List Int))(h24:m.op≠24):m.oid=[]∧m.has=false:=by
 simp only[bH,aI] at hv;have hp:=hv.1.1.2;simp only[aY,aZ,or_false,not_or] at hn;obtain⟨h0,h2,h3,h6,h8,h4,h10,h12,h14,h16,h23⟩:=hn;have hb:(bo m).oid=[]∧(bo m).has=false:=by
  unfold bo;rw[if_neg h0,if_neg h3,if_neg h6,if_neg (by intro h;exact h.elim h8 h4),if_neg h10,if_neg h12,if_neg h14,if_neg h16,if_neg h23,if_neg h24]
  split<;>exact⟨rfl,rfl⟩
 simp only[wJ,List.all_cons,List.all_nil,id,aI,aT] at hp;exact⟨hp.2.2.2.2.2.2.2.2.2.2.2.1.2.symm.trans hb.1,hp.2.2.2.2.2.2.2.2.2.2.2.2.1.symm.trans hb.2⟩
theorem yj(m:Mg)(l:Ls)(w:World)(hm:MgM w m l)(hk:LsOk m l)(hv:bH m l=true):Calls Tryz.prog 34 #[.agg m.row] w (FoP w (opE m l)):=by
 obtain⟨hkb,_,_⟩:=bT hv;unfold opE
 by_cases h0:m.op=0
 ·rw[if_pos h0]
  have hver:0≤m.ver∧m.ver≤2147483647:=by
   have:=hkb
   simp[br,h0] at this
   omega
  cases hs:m.sasl
  ·have e:ip m=.mk 2 0 false m.secret []:=by simp[ip,hs]
   rw[e];exact Ar m l w hver hs h0
  ·have e:ip m=.mk 2 3 true [] [.mk 0 4 false m.secret []]:=by simp[ip,hs]
   rw[e];exact As m l w hver hs h0
 rw[if_neg h0]
 by_cases h2:m.op=2
 ·rw[if_pos h2];exact zT m l w h2
 rw[if_neg h2]
 by_cases h3:m.op=3
 ·rw[if_pos h3]
  have hkb2:(bB m.scope 2&&bB m.deref 3&&bB m.size 2147483647&&bB m.time 2147483647&&dz l.filt)=true:=by simpa[br,h3] using hkb
  simp only[aI,bB,aT] at hkb2;obtain⟨⟨⟨⟨h1,h2'⟩,h3'⟩,h4⟩,h5⟩:=hkb2;exact zV m l w hm hk h5 (by omega) (by omega) (by omega) (by omega) h3
 rw[if_neg h3]
 by_cases h6:m.op=6
 ·rw[if_pos h6,AU]
  have hr:l.mods.all (fun x=>bB x.1 2)=true:=by simpa[br,h6] using hkb
  exact zW m l w hm hk (fun x hx=>gD hr hx) h6
 rw[if_neg h6]
 by_cases h8:m.op=8∨m.op=4
 ·rw[if_pos h8]
  rcases h8 with h8|h8
  ·rw[h8];exact Bp m l w hm hk h8
  ·rw[h8];exact At m l w hm hk h8
 rw[if_neg h8]
 by_cases h10:m.op=10
 ·rw[if_pos h10];exact zU m l w h10
 rw[if_neg h10]
 by_cases h12:m.op=12
 ·rw[if_pos h12]
  cases hs:m.hasSup
  ·exact yy m l w hs h12
  ·exact yO m l w hs h12
 rw[if_neg h12]
 by_cases h14:m.op=14
 ·rw[if_pos h14];exact zv m l w h14
 rw[if_neg h14]
 by_cases h16:m.op=16
 ·rw[if_pos h16]
  have:bB m.target 2147483647=true:=by simpa[br,h16] using hkb
  exact zu m l w (by simpa[bB] using this) h16
 rw[if_neg h16]
 by_cases h23:m.op=23
 ·rw[if_pos h23]
  cases hs:m.has
  ·exact yd m l w hs h23
  ·exact yi m l w hs h23
 rw[if_neg h23];have hn:m.op∉([0,2,3,6,8,4,10,12,14,16,23]:List Int):=by
  simp only[aY,aZ,or_false,not_or] at h8⊢;exact⟨h0,h2,h3,h6,h8.1,h8.2,h10,h12,h14,h16,h23⟩
 obtain⟨hc0,hc1⟩:=lg hkb hn;have hcode:0≤m.code∧m.code≤2147483647:=⟨hc0,hc1⟩
 by_cases h24:m.op=24
 ·rw[h24]
  unfold dh;cases ho:m.oid.isEmpty
  ·have ho':¬m.oid=[]:=by intro h;rw[h] at ho;cases ho
   cases hs:m.has
   ·simp only[if_neg ho',aW,if_false];exact xA m l w hcode ho hs h24
   ·simp only[if_neg ho',if_true];exact xD m l w hcode ho hs h24
  ·have ho':m.oid=[]:=List.isEmpty_iff.1 ho
   cases hs:m.has
   ·simp only[if_pos ho',aW,if_false];exact xq m l w hcode ho hs h24
   ·simp only[if_pos ho',if_true];exact xz m l w hcode ho hs h24
 ·obtain⟨ho,hs⟩:=zw hv hn h24
  unfold dh;simp only[ho,hs,if_true,aW,if_false];refine zX m l w hcode m.op ?_ rfl;simp only[aY,aZ,or_false,not_or] at hn⊢;exact⟨hn.1,hn.2.1,hn.2.2.1,hn.2.2.2.1,hn.2.2.2.2.1,hn.2.2.2.2.2.1,hn.2.2.2.2.2.2.1,hn.2.2.2.2.2.2.2.1,hn.2.2.2.2.2.2.2.2.1,hn.2.2.2.2.2.2.2.2.2.1,hn.2.2.2.2.2.2.2.2.2.2,h24⟩
def wR(n:Nat)(ops:Array Oper):List Oper→List Nat→Option (List Nat)
 |[],k=>some k
 |o::r,k=>
  match o.dst with
  |none=>none
  |some d=>
   if n≤d then none else
   match o.guard with
   |some (j,true)=>
    match (ops[j]?).bind (·.dst) with
    |some t=>if k.contains t then wR n ops r (k.filter (·!=d)) else none
    |none=>none
   |some (_,false)=>none
   |none=>
    match o.op with
    | .pick (.tmp t) _ (.const (.bool false))=>if k.contains t then wR n ops r (d::k) else none
    | .move (.tmp t)=>if k.contains t then wR n ops r (d::k) else none
    | .assign (.tmp t)=>if k.contains t then wR n ops r (d::k) else none
    |_=>none
theorem xG{a:Act}{d:Nat}{k:List Nat}(hd:d<a.tmps.size)(h:∀t∈k,a.tmps[t]?=some (.bool false)):∀t∈d::k,(a.put (some d) (.bool false)).tmps[t]?=some (.bool false):=by
 intro t ht;simp only[Act.put,Array.getElem?_setIfInBounds]
 by_cases e:d=t
 ·subst e;simp[hd]
 ·rw[if_neg e]
  rcases aY.1 ht with h1|h1
  ·exact absurd h1.symm e
  ·exact h t h1
theorem wX{P:Program}{ops:Array Oper}{Q:Exit→Act→World→Prop}{w:World}(n:Nat):∀(r:List Oper) (a:Act) (k k':List Nat),wR n ops r k=some k'→a.tmps.size=n→(∀t∈k,a.tmps[t]?=some (.bool false))→
  (∀a':Act,a'.defers=a.defers→(∀t∈k',a'.tmps[t]?=some (.bool false))→Q .normal a' w)→wpList P ops Q r a w
 |[],a,k,k',h,hs,hk,hQ=>by
  simp only[wR,Option.some.injEq] at h;subst h;exact hQ a rfl hk
 |o::r,a,k,k',h,hs,hk,hQ=>by
  unfold wR at h;cases hd:o.dst with
  |none=>rw[hd] at h;cases h
  |some d=>
   rw[hd] at h;simp only at h
   by_cases hn:n≤d
   ·rw[if_pos hn] at h;cases h
   ·rw[if_neg hn] at h
    have hdn:d<a.tmps.size:=by rw[hs];exact Nat.lt_of_not_le hn
    have hput:∀v:Value,(a.put (some d) v).tmps.size=n:=fun v=>by simp[Act.put,hs]
    cases hg:o.guard with
    |some g=>
     obtain⟨j,b⟩:=g;rw[hg] at h;cases b with
     |false=>cases h
     |true=>
      simp only at h;cases ht:(ops[j]?).bind (·.dst) with
      |none=>rw[ht] at h;cases h
      |some t=>
       rw[ht] at h;simp only at h
       split at h
       ·rename_i hc
        have hct:=hk t (by simpa using hc);have hw:Region.wanted o (yielded ops a.tmps)=false:=by simp[Region.wanted,hg,yielded,ht,hct]
        refine wpList_skip hw ?_;rw[hd];refine wX n r _ _ k' h (hput _) (fun t' ht'=>?_) (fun a' h1 h2=>hQ a' (by rw[h1];rfl) h2);have hm:=List.mem_filter.1 ht';have hne:d≠t':=by
         have:=hm.2;intro e;subst e
         simp at this
        simp only[Act.put,Array.getElem?_setIfInBounds];rw[if_neg hne];exact hk t' hm.1
       ·cases h
    |none=>
     rw[hg] at h;simp only at h
     split at h
     ·rename_i t x hop
      split at h
      ·rename_i hc
       have hct:=hk t (by simpa using hc);refine aB hg fun K hK=>?_
       unfold Oper.wp execOp;simp only[hop];have:a.eval (.tmp t)=.bool false:=by simp[Act.eval,Array.getD_eq_getD_getElem?,hct]
       simp only[this,asBool,Sem.run_bind,Sem.run_pure,Result.andThen_ok];refine hK _ _ ?_;rw[hd];exact wX n r _ _ k' h (hput _) (xG hdn hk) (fun a' h1 h2=>hQ a' (by rw[h1];rfl) h2)
      ·cases h
     ·rename_i t hop
      split at h
      ·rename_i hc
       have hct:=hk t (by simpa using hc);refine aB hg fun K hK=>?_
       unfold Oper.wp execOp;simp only[hop];have:a.eval (.tmp t)=.bool false:=by simp[Act.eval,Array.getD_eq_getD_getElem?,hct]
       simp only[this,Sem.run_pure];refine hK _ _ ?_;rw[hd];exact wX n r _ _ k' h (hput _) (xG hdn hk) (fun a' h1 h2=>hQ a' (by rw[h1];rfl) h2)
      ·cases h
     ·rename_i t hop
      split at h
      ·rename_i hc
       have hct:=hk t (by simpa using hc);refine aB hg fun K hK=>?_
       unfold Oper.wp execOp;simp only[hop];have:a.eval (.tmp t)=.bool false:=by simp[Act.eval,Array.getD_eq_getD_getElem?,hct]
       simp only[this,Sem.run_pure];refine hK _ _ ?_;rw[hd];exact wX n r _ _ k' h (hput _) (xG hdn hk) (fun a' h1 h2=>hQ a' (by rw[h1];rfl) h2)
      ·cases h
     ·cases h
inductive Cp where
 |pm (k:Nat)
 |px (k:Nat)
 |ld (k j:Nat)
 |st (k jp jv:Nat)
def Co(ops:Array Oper)(j:Nat):Option Nat:=(ops[j]?).bind (·.dst)
def yz(md:Region.Mode)(s1 s4:Nat)(T:TypeId)(ts:List TypeId)(ops:Array Oper)(tab:List Cp)(o:Oper):Cp→Bool
 | .pm k=>(match o.op with| .fieldAddr t (.tmp x) f=>decide (t=T)&&decide (x=s1)&&decide (f=k)|_=>false)&&o.dst.isSome&&decide (k<28)
 | .px k=>(match o.op with| .fieldAddr t (.tmp x) f=>decide (t=T)&&decide (x=s4)&&decide (f=k)|_=>false)&&o.dst.isSome&&decide (k<28)
 | .ld k j=>(match o.op with| .load t (.tmp x)=>ts.contains t&&decide (Co ops j=some x)|_=>false)&&o.dst.isSome&&(o.after.toList.any fun e=>Region.binds md e&&decide (e.on=j))&&(match tab[j]? with|some (.pm k')=>decide (k'=k)|_=>false)&&decide (k<28)
 | .st k jp jv=>(match o.op with| .store t (.tmp x) (.tmp y)=>ts.contains t&&decide (Co ops jp=some x)&&decide (Co ops jv=some y)|_=>false)&&o.dst.isNone&&(o.after.toList.any fun e=>Region.binds md e&&decide (e.on=jp))&&(o.after.toList.any fun e=>Region.binds md e&&decide (e.on=jv))&&
   (match tab[jp]? with|some (.px k')=>decide (k'=k)|_=>false)&&(match tab[jv]? with|some (.ld k' _)=>decide (k'=k)|_=>false)&&decide (k<28)
def zY(md:Region.Mode)(s1 s4:Nat)(T:TypeId)(ts:List TypeId)(ops:Array Oper)(tab:List Cp):Bool:=
 decide (tab.length=ops.size)&&((List.range ops.size).all fun i=>(match Co ops i with|some d=>decide (d≠s1)&&decide (d≠s4)|none=>true)&&match ops[i]?,tab[i]? with|some o,some c=>yz md s1 s4 T ts ops tab o c|_,_=>false)
def Cp.v(gm gx:Nat)(ms:Array Value):Cp→Value
 | .pm k=>.pointer (some ⟨gm,k,none⟩)
 | .px k=>.pointer (some ⟨gx,k,none⟩)
 | .ld k _=>ms.getD k undef
 | .st _ _ _=>undef
def nE(gm gx:Nat)(ms:Array Value):List Oper→List Cp→Act→Act
 |o::r,c::t,a=>nE gm gx ms r t (a.put o.dst (c.v gm gx ms))
 |_,_,a=>a
def Cp.to(ms:Array Value)(c:Cp)(xs:Array Value):Array Value:=match c with| .st k _ _=>xs.setIfInBounds k (ms.getD k undef)|_=>xs
def Cp.sets(c:Cp)(k:Nat):Bool:=match c with| .st k' _ _=>k'==k|_=>false
def Cq(ms:Array Value):List Cp→Array Value→Array Value
 |[],xs=>xs
 |c::t,xs=>Cq ms t (c.to ms xs)
theorem Cp.to_size(ms:Array Value)(c:Cp)(xs:Array Value):(c.to ms xs).size=xs.size:=by cases c<;>simp[Cp.to]
theorem Cp.to_get(ms:Array Value)(c:Cp)(xs:Array Value)(k:Nat)(h:k<xs.size):(c.to ms xs)[k]?=if c.sets k=true then some (ms.getD k undef) else xs[k]?:=by
 cases c with
 |st k' a b=>
  by_cases e:k'=k
  ·subst e;simp[Cp.to,Cp.sets,h]
  ·simp[Cp.to,Cp.sets, e]
 |_=>simp[Cp.to,Cp.sets]
theorem yk(gm gx:Nat)(ms:Array Value):∀(r:List Oper) (t:List Cp) (a:Act),(nE gm gx ms r t a).tmps.size=a.tmps.size∧(nE gm gx ms r t a).defers=a.defers
 |[],_,a=>by simp[nE]
 |o::r,[],a=>by simp[nE]
 |o::r,c::t,a=>by
  unfold nE;obtain⟨h1,h2⟩:=yk gm gx ms r t (a.put o.dst (c.v gm gx ms));rw[h1,h2];unfold Act.put;cases o.dst<;>simp
theorem Cw(gm gx:Nat)(ms:Array Value):∀(r:List Oper) (t:List Cp) (a:Act) (d:Nat),(∀o∈r,o.dst≠some d)→(nE gm gx ms r t a).tmps[d]?=a.tmps[d]?
 |[],_,a,d,_=>by simp[nE]
 |o::r,[],a,d,_=>by simp[nE]
 |o::r,c::t,a,d,h=>by
  unfold nE;rw[Cw gm gx ms r t _ d (fun o' ho'=>h o' (List.mem_cons_of_mem _ ho'))];have:=h o List.mem_cons_self;unfold Act.put;cases ho:o.dst with
  |none=>rfl
  |some e=>
   rw[ho] at this;simp only[Array.getElem?_setIfInBounds];rw[if_neg (fun q=>this (congrArg some q))]
theorem yV(gm gx:Nat)(ms:Array Value):∀(r:List Oper) (t:List Cp) (a:Act) (i d:Nat) (o:Oper) (c:Cp),r[i]?=some o→t[i]?=some c→o.dst=some d→d<a.tmps.size→(∀j o',r[j]?=some o'→j≠i→o'.dst≠some d)→
  (nE gm gx ms r t a).tmps[d]?=some (c.v gm gx ms)
 |[],_,_,_,_,_,_,h,_,_,_,_=>by simp at h
 |_::_,[],_,_,_,_,_,_,h,_,_,_=>by simp at h
 |o'::r,c'::t,a,0,d,o,c,h1,h2,h3,h4,h5=>by
  simp only[List.getElem?_cons_zero,Option.some.injEq] at h1 h2;subst h1 h2;unfold nE;rw[Cw gm gx ms r t _ d (fun o'' ho''=>by
   obtain⟨j,hj⟩:=List.getElem?_of_mem ho'';exact h5 (j+1) o'' (by simpa using hj) (by omega))]
  rw[h3]
  simp[Act.put,h4]
 |o'::r,c'::t,a,i+1,d,o,c,h1,h2,h3,h4,h5=>by
  unfold nE;refine yV gm gx ms r t _ i d o c (by simpa using h1) (by simpa using h2) h3 ?_ (fun j o'' hj hne=>h5 (j+1) o'' (by simpa using hj) (by omega));unfold Act.put;cases o'.dst<;>simpa using h4
theorem yl(ms:Array Value):∀(t:List Cp) (xs:Array Value),(Cq ms t xs).size=xs.size
 |[],xs=>rfl
 |c::t,xs=>by rw[Cq,yl ms t,Cp.to_size]
theorem yG(ms:Array Value):∀(t:List Cp) (xs:Array Value) (k:Nat),k<xs.size→(Cq ms t xs)[k]?=if(∃c∈t,Cp.sets c k=true) then some (ms.getD k undef) else xs[k]?
 |[],xs,k,_=>by simp[Cq]
 |c::t,xs,k,h=>by
  rw[Cq,yG ms t _ k (by rw[Cp.to_size];exact h),Cp.to_get ms c xs k h]
  by_cases h1:∃c∈t,Cp.sets c k=true
  ·obtain⟨d,hd,he⟩:=h1
   rw[if_pos ⟨d,hd,he⟩,if_pos ⟨d,List.mem_cons_of_mem _ hd,he⟩]
  ·rw[if_neg h1]
   by_cases h2:c.sets k=true
   ·rw[if_pos h2,if_pos ⟨c,List.mem_cons_self,h2⟩]
   ·rw[if_neg h2,if_neg]
    rintro⟨d,hd,he⟩;rcases aY.1 hd with rfl|hd
    ·exact h2 he
    ·exact h1 ⟨d,hd,he⟩
def yS:Value→Bool
 | .int _ _=>true
 | .string _=>true
 | .bool _=>true
 | .slice _ _ _=>true
 |_=>false
structure CpRun (P:Program) (T:TypeId) (ts:List TypeId):Prop where
 addr:∀(k g:Nat) (w:World),k<28→(Instr.fieldAt T (.pointer (some ⟨g,0,none⟩)) k).run P w=.ok (.pointer (some ⟨g,k,none⟩)) w
 load:∀t∈ts,∀(g k:Nat) (w:World) (v:Value),w.cell? ⟨g,k,none⟩=some v→(Instr.loadAt t (.pointer (some ⟨g,k,none⟩))).run P w=.ok v w
 store:∀t∈ts,∀(g k:Nat) (w:World) (v:Value) (cs:Array Value),w.heap[g]?=some (.cells cs T (0,0))→k<cs.size→yS v=true→(Instr.storeAt t (.pointer (some ⟨g,k,none⟩)) v).run P w=.ok () (w.setCell ⟨g,k,none⟩ v)
theorem zZ{P:Program}{o:Oper}{a:Act}{w w':World}{K:Act→World→Prop}{Q:Exit→Act→World→Prop}(hr:(execOp a.eval o).run P w=.ok .skip w')(h:K (a.put o.dst undef) w'):Oper.wp P o a w K Q:=by
 unfold Oper.wp;rw[hr];exact h
theorem yA{md:Region.Mode}{o:Oper}{j:Nat}{listed:Array Bool}(h:(o.after.toList.any fun e=>Region.binds md e&&decide (e.on=j))=true)(hall:∀e∈o.after,Region.binds md e=true→listed.getD e.on false=true):listed.getD j false=true:=by
 obtain⟨e,he,hb⟩:=List.any_eq_true.1 h;simp only[aI,aT] at hb;rw[←hb.2];exact hall e (by simpa using he) hb.1
theorem ye{l:Array Bool}{i j:Nat}(h:j≠i):(l.setIfInBounds i true).getD j false=l.getD j false:=by
 simp[Array.getD_eq_getD_getElem?, Ne.symm h]
theorem yW{l:Array Bool}{i j:Nat}(h:l.getD j false=true):(l.setIfInBounds i true).getD j false=true:=by
 by_cases e:j=i
 ·subst e
  have:j<l.size:=by
   rcases Nat.lt_or_ge j l.size with q|q
   ·exact q
   ·simp[Array.getD_eq_getD_getElem?,Array.getElem?_eq_none q] at h
  simp[Array.getD_eq_getD_getElem?, this]
 ·rw[ye e];exact h
section
variable {P:Program} {md:Region.Mode} {ops:Array Oper} {Q:Exit→Act→World→Prop} {n s1 s4:Nat} {T:TypeId} {ts:List TypeId} {tab:List Cp}
theorem xQ(h:zY md s1 s4 T ts ops tab=true){i:Nat}{o:Oper}(ho:ops[i]?=some o):∃c,tab[i]?=some c∧yz md s1 s4 T ts ops tab o c=true∧o.dst≠some s1∧o.dst≠some s4:=by
 unfold zY at h;simp only[aI,List.all_eq_true,aT] at h;obtain⟨h1,h2⟩:=h.2 i (List.mem_range.2 (gl ho));rw[ho] at h2;have hd:Co ops i=o.dst:=by simp[Co,ho]
 rw[hd] at h1;cases hc:tab[i]? with
 |none=>rw[hc] at h2;cases h2
 |some c=>
  rw[hc] at h2;refine⟨c,rfl,h2,?_,?_⟩
  ·intro e;rw[e] at h1;simp at h1
  ·intro e;rw[e] at h1;simp at h1
open Classical in
def CpB(_ gx:Nat)(T:TypeId)(ms xs:Array Value)(tab:List Cp)(ops:Array Oper)(a0:Act)(w0:World)(listed:Array Bool)(a:Act)(w:World):Prop:=
 a.defers=a0.defers∧(∀d,(∀o∈ops.toList,o.dst≠some d)→a.tmps[d]?=a0.tmps[d]?)∧w0.grownBy w (some gx)∧
  ∃xs':Array Value,w.heap[gx]?=some (.cells xs' T (0,0))∧xs'.size=28∧∀k,k<28→xs'[k]?=if(∃(i:Nat) (c:Cp),tab[i]?=some c∧listed.getD i false=true∧c.sets k=true) then some (ms.getD k undef) else xs[k]?
theorem CpB.quiet{gm gx:Nat}{ms xs:Array Value}{a0 a:Act}{w0 w:World}{listed:Array Bool}{i:Nat}{c:Cp}{o:Oper}{v:Value}(h:CpB gm gx T ms xs tab ops a0 w0 listed a w)(ho:ops[i]?=some o)(hc:tab[i]?=some c)(hs:∀k,c.sets k=false):
  CpB gm gx T ms xs tab ops a0 w0 (listed.setIfInBounds i true) (a.put o.dst v) w:=by
 obtain⟨h1,h2,h3,xs',h4,h5,h6⟩:=h;refine⟨by rw[←h1];unfold Act.put;cases o.dst<;>rfl,fun d hd=>?_,h3,xs',h4,h5,fun k hk=>?_⟩
 ·rw[←h2 d hd]
  have:=hd o (by simpa using Array.mem_of_getElem? ho);unfold Act.put;cases hq:o.dst with
  |none=>rfl
  |some e=>
   rw[hq] at this;simp only[Array.getElem?_setIfInBounds];rw[if_neg (fun q=>this (congrArg some q))]
 ·rw[h6 k hk]
  by_cases hx:∃(i:Nat) (c:Cp),tab[i]?=some c∧listed.getD i false=true∧c.sets k=true
  ·obtain⟨j,d,q1,q2,q3⟩:=hx
   rw[if_pos ⟨j,d,q1,q2,q3⟩,if_pos ⟨j,d,q1,yW q2,q3⟩]
  ·rw[if_neg hx,if_neg]
   rintro⟨j,d,q1,q2,q3⟩
   by_cases e:j=i
   ·subst e
    rw[hc] at q1;cases q1;rw[hs k] at q3;cases q3
   ·rw[ye e] at q2
    exact hx ⟨j,d,q1,q2,q3⟩
theorem k7(R:CpRun P T ts)(hok:kI md n ops=true)(hcp:zY md s1 s4 T ts ops tab=true)(gm gx:Nat)(hne:gm≠gx)(ms xs:Array Value)(hms:ms.size=28)(hxs:xs.size=28)(hone:∀v∈ms.toList,yS v=true)
  (a0:Act) (w0:World) (hn:a0.tmps.size=n) (h1:a0.tmps[s1]?=some (.pointer (some ⟨gm,0,none⟩))) (h4:a0.tmps[s4]?=some (.pointer (some ⟨gx,0,none⟩)))
  (hm:w0.heap[gm]?=some (.cells ms T (0,0))) (hx:w0.heap[gx]?=some (.cells xs T (0,0)))
  (hdone:∀w',w0.grownBy w' (some gx)→w'.heap[gx]?=some (.cells (Cq ms tab xs) T (0,0))→Q .normal (nE gm gx ms ops.toList tab a0) w'):
  wpAny P md ops Q ops.size (Array.replicate ops.size false) a0 w0:=by
 have hs1:∀o∈ops.toList,o.dst≠some s1:=fun o ho=>by
  obtain⟨i,hi⟩:=List.getElem?_of_mem ho;obtain⟨_,_,_,q,_⟩:=xQ hcp (by simpa using hi);exact q
 have hs4:∀o∈ops.toList,o.dst≠some s4:=fun o ho=>by
  obtain⟨i,hi⟩:=List.getElem?_of_mem ho;obtain⟨_,_,_,_,q⟩:=xQ hcp (by simpa using hi);exact q
 have hgm:gm<w0.heap.size:=(gl hm);have hmsk:∀k,k<28→ms[k]?=some (ms.getD k undef)∧yS (ms.getD k undef)=true:=fun k hk=>by
  have hk':k<ms.size:=by omega
  have e:ms.getD k undef=ms[k]:=by simp[Array.getD,hk']
  rw[e];exact⟨by simp[hk'],hone _ (by simp)⟩
 refine pw n hok (fun i v _=>∀c,tab[i]?=some c→v=c.v gm gx ms) (fun _ _=>True) (CpB gm gx T ms xs tab ops a0 w0) (fun _ _ _ _ _ h=>h) ?_ a0 w0 hn ?_ ?_
 ·intro i o listed a w ho hi hsz hn' hB hG hall K' hK
  obtain⟨c,hc,hat,_,_⟩:=xQ hcp ho;obtain⟨b1,b2,b3,xs',b4,b5,b6⟩:=id hB;have p1:=(b2 s1 hs1).trans h1;have p4:=(b2 s4 hs4).trans h4;have fromD:∀(j x:Nat) (d:Cp),Co ops j=some x→tab[j]?=some d→listed.getD j false=true→a.tmps[x]?=some (d.v gm gx ms):=fun j x d hd hj hl=>by
   unfold Co at hd;cases hoj:ops[j]? with
   |none=>rw[hoj] at hd;cases hd
   |some o'=>
    rw[hoj] at hd;have hd':o'.dst=some x:=hd;have hlt:=((iP hok hoj).2.2 x hd').1;rw[ox hd' (by rw[hn'];exact hlt),hG j o' hoj hl d hj]
  have ev:∀(x:Nat) (v:Value),a.tmps[x]?=some v→a.eval (.tmp x)=v:=fun x v h=>by simp[Act.eval,Array.getD_eq_getD_getElem?,h]
  cases c with
  |pm k=>
   simp only[yz,aI,aT] at hat;obtain⟨⟨hop,hds⟩,hk⟩:=hat
   split at hop
   ·rename_i t x f hq
    simp only[aI,aT] at hop;obtain⟨⟨rfl,rfl⟩,rfl⟩:=hop;have hr:(execOp a.eval o).run P w=.ok (.value (.pointer (some ⟨gm,f,none⟩))) w:=by
     unfold execOp;simp only[hq,ev _ _ p1,Sem.run_bind,R.addr f gm w hk,Result.andThen_ok,Sem.run_pure]
    refine jS hr (hK _ _ (fun c' hc'=>?_) trivial (hB.quiet ho hc (fun _=>rfl)));rw[hc] at hc';cases hc';cases hd:o.dst with
    |none=>rw[hd] at hds;cases hds
    |some d=>rfl
   ·cases hop
  |px k=>
   simp only[yz,aI,aT] at hat;obtain⟨⟨hop,hds⟩,hk⟩:=hat
   split at hop
   ·rename_i t x f hq
    simp only[aI,aT] at hop;obtain⟨⟨rfl,rfl⟩,rfl⟩:=hop;have hr:(execOp a.eval o).run P w=.ok (.value (.pointer (some ⟨gx,f,none⟩))) w:=by
     unfold execOp;simp only[hq,ev _ _ p4,Sem.run_bind,R.addr f gx w hk,Result.andThen_ok,Sem.run_pure]
    refine jS hr (hK _ _ (fun c' hc'=>?_) trivial (hB.quiet ho hc (fun _=>rfl)));rw[hc] at hc';cases hc';cases hd:o.dst with
    |none=>rw[hd] at hds;cases hds
    |some d=>rfl
   ·cases hop
  |ld k j=>
   simp only[yz,aI,aT] at hat;obtain⟨⟨⟨⟨hop,hds⟩,hed⟩,hj⟩,hk⟩:=hat
   split at hop
   ·rename_i t x hq
    simp only[aI,aT] at hop;obtain⟨ht,hx'⟩:=hop
    split at hj
    ·rename_i k' hj'
     have:k'=k:=by simpa using hj
     subst this;have hptr:=fromD j x _ hx' hj' (yA hed hall);have hcell:w.cell? ⟨gm,k',none⟩=some (ms.getD k' undef):=by
      rw[ap ((b3.block gm hgm (fun e=>hne (aD e))).trans hm) k'];exact(hmsk k' hk).1
     have hr:(execOp a.eval o).run P w=.ok (.value (ms.getD k' undef)) w:=by
      unfold execOp;simp only[hq,ev _ _ hptr,Cp.v,Sem.run_bind,R.load t (by simpa using ht) gm k' w _ hcell,Result.andThen_ok,Sem.run_pure]
     refine jS hr (hK _ _ (fun c' hc'=>?_) trivial (hB.quiet ho hc (fun _=>rfl)));rw[hc] at hc';cases hc';cases hd:o.dst with
     |none=>rw[hd] at hds;cases hds
     |some d=>rfl
    ·cases hj
   ·cases hop
  |st k jp jv=>
   simp only[yz,aI,aT] at hat;obtain⟨⟨⟨⟨⟨⟨hop,hds⟩,hep⟩,hev⟩,hjp⟩,hjv⟩,hk⟩:=hat
   split at hop
   ·rename_i t x y hq
    simp only[aI,aT] at hop;obtain⟨⟨ht,hx'⟩,hy'⟩:=hop
    split at hjp
    ·rename_i k' hjp'
     have:k'=k:=by simpa using hjp
     subst this
     split at hjv
     ·rename_i k'' j'' hjv'
      have:k''=k':=by simpa using hjv
      subst this;have hptr:=fromD jp x _ hx' hjp' (yA hep hall);have hval:=fromD jv y _ hy' hjv' (yA hev hall);have hr:(execOp a.eval o).run P w=.ok .skip (w.setCell ⟨gx,k'',none⟩ (ms.getD k'' undef)):=by
       unfold execOp;simp only[hq,ev _ _ hptr,ev _ _ hval,Cp.v,Sem.run_bind,R.store t (by simpa using ht) gx k'' w _ _ b4 (by omega) (hmsk k'' hk).2,Result.andThen_ok,Sem.run_pure]
      have hdn:o.dst=none:=by simpa using hds
      refine zZ hr (hK _ _ (fun c' hc'=>?_) trivial ?_)
      ·rw[hc] at hc'
       cases hc';rw[hdn]
       rfl
      ·rw[hdn]
       have hg:w.grownBy (w.setCell ⟨gx,k'',none⟩ (ms.getD k'' undef)) (some gx):=⟨rfl,rfl,rfl,by simp[World.setCell],fun j _ hj=>aX w ⟨gx,k'',none⟩ _ j (fun e=>hj (congrArg some e))⟩;refine⟨b1,b2,⟨hg.os.trans b3.os,hg.tape.trans b3.tape,hg.output.trans b3.output,Nat.le_trans b3.size hg.size,fun j hj hjx=>(hg.block j (Nat.lt_of_lt_of_le hj b3.size) hjx).trans (b3.block j hj hjx)⟩,_,bw (i:=k'') (u:=ms.getD k'' undef) b4,by simpa using b5,fun q hq'=>?_⟩;simp only[Array.getElem?_setIfInBounds];have hil:i<listed.size:=by rw[hsz];exact(gl ho)
       by_cases e:k''=q
       ·subst e
        rw[if_pos rfl,if_pos (by omega),if_pos ⟨i,_,hc,by simp[Array.getD_eq_getD_getElem?,hil],by simp[Cp.sets]⟩]
       ·rw[if_neg e,b6 q hq']
        by_cases hx:∃(i:Nat) (c:Cp),tab[i]?=some c∧listed.getD i false=true∧c.sets q=true
        ·obtain⟨j,d,q1,q2,q3⟩:=hx
         rw[if_pos ⟨j,d,q1,q2,q3⟩,if_pos ⟨j,d,q1,yW q2,q3⟩]
        ·rw[if_neg hx,if_neg]
         rintro⟨j,d,q1,q2,q3⟩
         by_cases e2:j=i
         ·subst e2
          rw[hc] at q1;cases q1
          simp[Cp.sets,e] at q3
         ·rw[ye e2] at q2
          exact hx ⟨j,d,q1,q2,q3⟩
     ·cases hjv
    ·cases hjp
   ·cases hop
 ·refine⟨rfl,fun _ _=>rfl,⟨rfl,rfl,rfl,ah _,fun _ _ _=>rfl⟩,xs,hx,hxs,fun k _=>?_⟩
  rw[if_neg];rintro⟨i,c,_,q,_⟩
  simp[Array.getD_eq_getD_getElem?,Array.getElem?_replicate] at q
  split at q<;>simp at q
 ·intro listed a w hl hn' hB hG
  obtain⟨b1,b2,b3,xs',b4,b5,b6⟩:=hB;have hlen:tab.length=ops.size:=by
   unfold zY at hcp;simp only[aI,aT] at hcp;exact hcp.1
  have ha:a=nE gm gx ms ops.toList tab a0:=by
   obtain⟨z1,z2⟩:=yk gm gx ms ops.toList tab a0;have ht:a.tmps=(nE gm gx ms ops.toList tab a0).tmps:=by
    apply Array.ext_getElem?;intro d
    by_cases hd:∃o∈ops.toList,o.dst=some d
    ·obtain⟨o,ho,hod⟩:=hd
     obtain⟨i,hi⟩:=List.getElem?_of_mem ho;have hi':ops[i]?=some o:=by simpa using hi
     obtain⟨c,hc,_⟩:=xQ hcp hi';obtain⟨hdn,hu⟩:=(iP hok hi').2.2 d hod;rw[ox hod (by rw[hn'];exact hdn),hG i o hi' c hc];exact(yV gm gx ms ops.toList tab a0 i d o c hi hc hod (by rw[hn];exact hdn) (fun j o' hj hne'=>hu j o' (by simpa using hj) hne')).symm
    ·rw[b2 d (fun o ho e=>hd ⟨o,ho,e⟩),Cw gm gx ms ops.toList tab a0 d (fun o ho e=>hd ⟨o,ho,e⟩)]
   cases a;cases hc:nE gm gx ms ops.toList tab a0;rw[hc] at ht z2;simp only at ht z2 b1;rw[ht,z2,b1]
  have hrow:xs'=Cq ms tab xs:=by
   apply Array.ext_getElem?;intro k
   by_cases hk:k<28
   ·rw[b6 k hk,yG ms tab xs k (by omega)]
    by_cases hx:∃c∈tab,Cp.sets c k=true
    ·obtain⟨c,hc,hs⟩:=hx
     obtain⟨i,hi⟩:=List.getElem?_of_mem hc;rw[if_pos ⟨i,c,hi,hl i (by have:=(List.getElem?_eq_some_iff.1 hi).1;omega),hs⟩,if_pos ⟨c,hc,hs⟩]
    ·rw[if_neg hx,if_neg]
     rintro⟨i,c,q1,_,q3⟩;exact hx ⟨c,List.mem_of_getElem? q1,q3⟩
   ·rw[Array.getElem?_eq_none (by omega),Array.getElem?_eq_none (by rw[yl];omega)]
  rw[ha];rw[hrow] at b4;exact hdone w b3 b4
end
def Act.has(a:Act)(t:Nat)(v:Value):Prop:=a.tmps[t]?=some v
theorem wD{a:Act}{d:Nat}{v:Value}(hd:d<a.tmps.size):Act.has (a.put (some d) v) d v:=by simp[Act.has,Act.put,hd]
theorem pl{a:Act}{d t:Nat}{u v:Value}(h:Act.has a t u)(hd:d≠t):Act.has (a.put (some d) v) t u:=by
 unfold Act.has at h⊢;simp only[Act.put,Array.getElem?_setIfInBounds];rw[if_neg hd];exact h
theorem wn(a:Act)(d:Nat)(v:Value):(a.put (some d) v).tmps.size=a.tmps.size:=by simp[Act.put]
theorem rq{a:Act}{t:Nat}{v:Value}(h:Act.has a t v):a.eval (.tmp t)=v:=by simp[Act.eval,Array.getD_eq_getD_getElem?,show a.tmps[t]?=some v from h]
theorem qu{P:Program}{ops:Array Oper}{Q:Exit→Act→World→Prop}{a:Act}{w:World}{rest:List Oper}{o:Oper}{v:Value}(hw:Region.wanted o (yielded ops a.tmps)=true)(hr:(execOp a.eval o).run P w=.ok (.value v) w)(h:wpList P ops Q rest (a.put o.dst v) w):wpList P ops Q (o::rest) a w:=by
 refine wpList_step fun K hK=>?_
 rw[if_pos hw];exact jS hr (hK _ _ h)
theorem wE{ops:Array Oper}{a:Act}{o:Oper}{j tp:Nat}(hg:o.guard=some (j,true))(hj:(ops[j]?).bind (·.dst)=some tp)(h:Act.has a tp (.bool true)):Region.wanted o (yielded ops a.tmps)=true:=by
 simp[Region.wanted,hg,yielded,hj,show a.tmps[tp]?=some _ from h]
theorem yH{P:Program}{ops:Array Oper}{Q:Exit→Act→World→Prop}{r:List Oper}{a:Act}{w:World}{n s1 s2 k tp p1 v1 p2 v2 j:Nat}{T t y1 y2 y3 y4:TypeId}{q1 q2 q3 q4:String}{f1 f2 f3 f4:Array Edge}{ts:List TypeId}{g1 g2:Nat}{x y:Value}
  (R:CpRun P T ts) (ht:ts.contains t=true) (hk:k<28) (hd:(decide (p1<n)&&decide (v1<n)&&decide (p2<n)&&decide (v2<n)&&[s1,s2,tp,p1,v1,p2,v2].Nodup)=true)
  (hj:(ops[j]?).bind (·.dst)=some tp) (hn:a.tmps.size=n) (h1:Act.has a s1 (.pointer (some ⟨g1,0,none⟩))) (h2:Act.has a s2 (.pointer (some ⟨g2,0,none⟩))) (htp:Act.has a tp (.bool true)) (c1:w.cell? ⟨g1,k,none⟩=some x) (c2:w.cell? ⟨g2,k,none⟩=some y)
  (h:∀a':Act,a'.tmps.size=n→a'.defers=a.defers→Act.has a' s1 (.pointer (some ⟨g1,0,none⟩))→Act.has a' s2 (.pointer (some ⟨g2,0,none⟩))→Act.has a' tp (.bool true)→Act.has a' v1 x→Act.has a' v2 y→wpList P ops Q r a' w):
  wpList P ops Q (⟨some p1,.fieldAddr T (.tmp s1) k,y1,q1,f1,some (j,true)⟩::⟨some v1,.load t (.tmp p1),y2,q2,f2,some (j,true)⟩::⟨some p2,.fieldAddr T (.tmp s2) k,y3,q3,f3,some (j,true)⟩::⟨some v2,.load t (.tmp p2),y4,q4,f4,some (j,true)⟩::r) a w:=by
 simp only[aI,aT,List.nodup_cons,aY,aZ,or_false,not_or] at hd;obtain⟨⟨⟨⟨l1,l2⟩,l3⟩,l4⟩,⟨a1,a2,a3,a4,a5,a6⟩,⟨b2,b3,b4,b5,b6⟩,⟨t3,t4,t5,t6⟩,⟨d4,d5,d6⟩,⟨e5,e6⟩,f6,_⟩:=hd;have hm:t∈ts:=by simpa using ht
 refine qu (wE rfl hj htp) (v:=.pointer (some ⟨g1,k,none⟩)) (by unfold execOp;simp only[rq h1,Sem.run_bind,R.addr k g1 w hk,Result.andThen_ok,Sem.run_pure]) ?_;have hn1:=(wn a p1 (.pointer (some ⟨g1,k,none⟩))).trans hn;have x1:=pl h1 (d:=p1) (v:=.pointer (some ⟨g1,k,none⟩)) (fun e=>a3 e.symm);have x2:=pl h2 (d:=p1) (v:=.pointer (some ⟨g1,k,none⟩)) (fun e=>b3 e.symm);have x3:=pl htp (d:=p1) (v:=.pointer (some ⟨g1,k,none⟩)) (fun e=>t3 e.symm);have x4:Act.has (a.put (some p1) (.pointer (some ⟨g1,k,none⟩))) p1 _:=wD (by omega);have hdf:(a.put (some p1) (.pointer (some ⟨g1,k,none⟩))).defers=a.defers:=rfl;generalize a.put (some p1) (.pointer (some ⟨g1,k,none⟩))=A at hn1 x1 x2 x3 x4 hdf⊢;refine qu (wE rfl hj x3) (v:=x) (by unfold execOp;simp only[rq x4,Sem.run_bind,R.load t hm g1 k w x c1,Result.andThen_ok,Sem.run_pure]) ?_;have hn2:=(wn A v1 x).trans hn1;replace x1:=pl x1 (d:=v1) (v:=x) (fun e=>a4 e.symm);replace x2:=pl x2 (d:=v1) (v:=x) (fun e=>b4 e.symm);replace x3:=pl x3 (d:=v1) (v:=x) (fun e=>t4 e.symm);have x5:Act.has (A.put (some v1) x) v1 _:=wD (by omega);have hdf2:(A.put (some v1) x).defers=a.defers:=hdf;clear x4 hn1 hdf;generalize A.put (some v1) x=B at hn2 x1 x2 x3 x5 hdf2⊢;refine qu (wE rfl hj x3) (v:=.pointer (some ⟨g2,k,none⟩)) (by unfold execOp;simp only[rq x2,Sem.run_bind,R.addr k g2 w hk,Result.andThen_ok,Sem.run_pure]) ?_;have hn3:=(wn B p2 (.pointer (some ⟨g2,k,none⟩))).trans hn2;replace x1:=pl x1 (d:=p2) (v:=.pointer (some ⟨g2,k,none⟩)) (fun e=>a5 e.symm);replace x2:=pl x2 (d:=p2) (v:=.pointer (some ⟨g2,k,none⟩)) (fun e=>b5 e.symm);replace x3:=pl x3 (d:=p2) (v:=.pointer (some ⟨g2,k,none⟩)) (fun e=>t5 e.symm);replace x5:=pl x5 (d:=p2) (v:=.pointer (some ⟨g2,k,none⟩)) (fun e=>e5 e.symm);have x4:Act.has (B.put (some p2) (.pointer (some ⟨g2,k,none⟩))) p2 _:=wD (by omega);have hdf3:(B.put (some p2) (.pointer (some ⟨g2,k,none⟩))).defers=a.defers:=hdf2;clear hn2 hdf2;generalize B.put (some p2) (.pointer (some ⟨g2,k,none⟩))=C at hn3 x1 x2 x3 x4 x5 hdf3⊢;refine qu (wE rfl hj x3) (v:=y) (by unfold execOp;simp only[rq x4,Sem.run_bind,R.load t hm g2 k w y c2,Result.andThen_ok,Sem.run_pure]) ?_;exact h _ ((wn C v2 y).trans hn3) hdf3 (pl x1 (fun e=>a6 e.symm)) (pl x2 (fun e=>b6 e.symm)) (pl x3 (fun e=>t6 e.symm)) (pl x5 (fun e=>e6 e.symm)) (wD (by omega))
theorem yI{P:Program}{ops:Array Oper}{Q:Exit→Act→World→Prop}{r:List Oper}{a:Act}{w:World}{n s1 s2 tp e pk d:Nat}{y1 y2:TypeId}{q1 q2:String}{f1 f2:Array Edge}{u1 u2:Value}{c:Bool}{op7:Op}
  (h7:op7=.move (.tmp pk)∨op7=.assign (.tmp pk)) (hd:(decide (pk<n)&&decide (d<n)&&[s1,s2,pk,d].Nodup)=true) (hn:a.tmps.size=n) (h1:Act.has a s1 u1) (h2:Act.has a s2 u2) (htp:Act.has a tp (.bool true)) (he:Act.has a e (.bool c))
  (h:∀a':Act,a'.tmps.size=n→a'.defers=a.defers→Act.has a' s1 u1→Act.has a' s2 u2→Act.has a' d (.bool c)→wpList P ops Q r a' w):
  wpList P ops Q (⟨some pk,.pick (.tmp tp) (.tmp e) (.const (.bool false)),y1,q1,f1,none⟩::⟨some d,op7,y2,q2,f2,none⟩::r) a w:=by
 simp only[aI,aT,List.nodup_cons,aY,aZ,or_false,not_or] at hd;obtain⟨⟨l1,l2⟩,⟨a1,a2,a3⟩,⟨b2,b3⟩,c3,_⟩:=hd;refine qu rfl (v:=.bool c) (by unfold execOp;simp only[rq htp,rq he,asBool,Sem.run_bind,Sem.run_pure,Result.andThen_ok,if_true]) ?_;have hn1:=(wn a pk (.bool c)).trans hn;have x1:=pl h1 (d:=pk) (v:=.bool c) (fun e=>a2 e.symm);have x2:=pl h2 (d:=pk) (v:=.bool c) (fun e=>b2 e.symm);have x4:Act.has (a.put (some pk) (.bool c)) pk _:=wD (by omega);have hdf:(a.put (some pk) (.bool c)).defers=a.defers:=rfl;generalize a.put (some pk) (.bool c)=A at hn1 x1 x2 x4 hdf⊢;refine qu rfl (v:=.bool c) (by rcases h7 with rfl|rfl<;>(unfold execOp;simp only[rq x4,Sem.run_pure])) ?_;exact h _ ((wn A d (.bool c)).trans hn1) hdf (pl x1 (fun e=>a3 e.symm)) (pl x2 (fun e=>b3 e.symm)) (wD (by omega))
def xR(n:Nat)(ops:Array Oper)(r:List Oper)(d res:Nat):Bool:=match wR n ops r [d] with|some k=>k.contains res|none=>false
theorem yf{P:Program}{ops:Array Oper}{Q:Exit→Act→World→Prop}{w:World}{n d res:Nat}{r:List Oper}{a:Act}(h:xR n ops r d res=true)(hn:a.tmps.size=n)(hd:Act.has a d (.bool false))(hQ:∀a':Act,a'.defers=a.defers→a'.tmps[res]?=some (.bool false)→Q .normal a' w):wpList P ops Q r a w:=by
 unfold xR at h;cases hf:wR n ops r [d] with
 |none=>rw[hf] at h;cases h
 |some k=>
  rw[hf] at h;exact wX n r a [d] k hf hn (fun q hq=>by simp at hq;subst hq;exact hd) (fun a' e1 e2=>hQ a' e1 (e2 res (by simpa using h)))
theorem l6{P:Program}{ops:Array Oper}{Q:Exit→Act→World→Prop}{r:List Oper}{a:Act}{w:World}{n s1 s2 k tp p1 v1 p2 v2 e pk d j:Nat}{T t y1 y2 y3 y4 y5 y6 y7:TypeId}{q1 q2 q3 q4 q5 q6 q7:String}{f1 f2 f3 f4 f5 f6 f7:Array Edge}{ts:List TypeId}{g1 g2:Nat}{x y:Value}{c:Bool}{res:Nat}{op5 op7:Op}(R:CpRun P T ts)(ht:ts.contains t=true)(hk:k<28)(hd:(decide (p1<n)&&decide (v1<n)&&decide (p2<n)&&decide (v2<n)&&[s1,s2,tp,p1,v1,p2,v2].Nodup)=true)(hd2:(decide (e<n)&&[s1,s2,tp,e].Nodup)=true)(hd3:(decide (pk<n)&&decide (d<n)&&[s1,s2,pk,d].Nodup)=true)
  (hj:(ops[j]?).bind (·.dst)=some tp) (hfall:xR n ops r d res=true) (h7:op7=.move (.tmp pk)∨op7=.assign (.tmp pk)) (hn:a.tmps.size=n) (h1:Act.has a s1 (.pointer (some ⟨g1,0,none⟩))) (h2:Act.has a s2 (.pointer (some ⟨g2,0,none⟩))) (htp:Act.has a tp (.bool true)) (c1:w.cell? ⟨g1,k,none⟩=some x) (c2:w.cell? ⟨g2,k,none⟩=some y)
  (hq:∀ρ:Operand→Value,ρ (.tmp v1)=x→ρ (.tmp v2)=y→(execOp ρ ⟨some e,op5,y5,q5,f5,some (j,true)⟩).run P w=.ok (.value (.bool c)) w)
  (hF:c=false→∀a':Act,a'.defers=a.defers→a'.tmps[res]?=some (.bool false)→Q .normal a' w)
  (hT:c=true→∀a':Act,a'.tmps.size=n→a'.defers=a.defers→Act.has a' s1 (.pointer (some ⟨g1,0,none⟩))→Act.has a' s2 (.pointer (some ⟨g2,0,none⟩))→Act.has a' d (.bool true)→wpList P ops Q r a' w):
  wpList P ops Q (⟨some p1,.fieldAddr T (.tmp s1) k,y1,q1,f1,some (j,true)⟩::⟨some v1,.load t (.tmp p1),y2,q2,f2,some (j,true)⟩::⟨some p2,.fieldAddr T (.tmp s2) k,y3,q3,f3,some (j,true)⟩::⟨some v2,.load t (.tmp p2),y4,q4,f4,some (j,true)⟩::⟨some e,op5,y5,q5,f5,some (j,true)⟩::⟨some pk,.pick (.tmp tp) (.tmp e) (.const (.bool false)),y6,q6,f6,none⟩::⟨some d,op7,y7,q7,f7,none⟩::r) a w:=by
 refine yH R ht hk hd hj hn h1 h2 htp c1 c2 fun A hn1 hdf x1 x2 x3 x4 x5=>?_
 clear h1 h2 htp hn;simp only[aI,aT,List.nodup_cons,aY,aZ,or_false,not_or] at hd2;obtain⟨l1,⟨a1,a2,a3⟩,⟨b2,b3⟩,t3,_⟩:=hd2;refine qu (wE rfl hj x3) (v:=.bool c) (hq _ (rq x4) (rq x5)) ?_;have hn2:=(wn A e (.bool c)).trans hn1;have z1:=pl x1 (d:=e) (v:=.bool c) (fun q=>a3 q.symm);have z2:=pl x2 (d:=e) (v:=.bool c) (fun q=>b3 q.symm);have z3:=pl x3 (d:=e) (v:=.bool c) (fun q=>t3 q.symm);have z4:Act.has (A.put (some e) (.bool c)) e _:=wD (by omega);have hdf2:(A.put (some e) (.bool c)).defers=a.defers:=hdf;refine yI h7 hd3 hn2 z1 z2 z3 z4 fun B hn3 hdf3 u1 u2 u3=>?_
 cases c with
 |true=>exact hT rfl B hn3 (hdf3.trans hdf2) u1 u2 u3
 |false=>exact yf hfall hn3 u3 (fun a' e1 e2=>hF rfl a' (e1.trans (hdf3.trans hdf2)) e2)
theorem wY{P:Program}{ops:Array Oper}{Q:Exit→Act→World→Prop}{r:List Oper}{a:Act}{w:World}{n s1 s2 k tp p1 v1 p2 v2 e pk d j:Nat}{T t y1 y2 y3 y4 y5 y6 y7:TypeId}{q1 q2 q3 q4 q5 q6 q7:String}{f1 f2 f3 f4 f5 f6 f7:Array Edge}{ts:List TypeId}{g1 g2:Nat}{x y:Value}{c:Bool}{res:Nat}{op5 op7:Op}{f:FuncId}(R:CpRun P T ts)(ht:ts.contains t=true)(hk:k<28)(hd:(decide (p1<n)&&decide (v1<n)&&decide (p2<n)&&decide (v2<n)&&[s1,s2,tp,p1,v1,p2,v2].Nodup)=true)(hd2:(decide (e<n)&&[s1,s2,tp,e].Nodup)=true)(hd3:(decide (pk<n)&&decide (d<n)&&[s1,s2,pk,d].Nodup)=true)
  (hj:(ops[j]?).bind (·.dst)=some tp) (hfall:xR n ops r d res=true) (h7:op7=.move (.tmp pk)∨op7=.assign (.tmp pk)) (hn:a.tmps.size=n) (h1:Act.has a s1 (.pointer (some ⟨g1,0,none⟩))) (h2:Act.has a s2 (.pointer (some ⟨g2,0,none⟩))) (htp:Act.has a tp (.bool true)) (c1:w.cell? ⟨g1,k,none⟩=some x) (c2:w.cell? ⟨g2,k,none⟩=some y)
  (hq:∀A:Act,A.eval (.tmp v1)=x→A.eval (.tmp v2)=y→(execOp A.eval ⟨some e,op5,y5,q5,f5,some (j,true)⟩).run P w=.ok (.enter f #[x,y]) w) (hc:Calls P f #[x,y] w fun e w'=>e=.returned (.bool c)∧Below w.heap.size w w')
  (hF:c=false→∀(a':Act) (w':World),Below w.heap.size w w'→a'.defers=a.defers→a'.tmps[res]?=some (.bool false)→Q .normal a' w')
  (hT:c=true→∀(a':Act) (w':World),Below w.heap.size w w'→a'.tmps.size=n→a'.defers=a.defers→Act.has a' s1 (.pointer (some ⟨g1,0,none⟩))→Act.has a' s2 (.pointer (some ⟨g2,0,none⟩))→Act.has a' d (.bool true)→wpList P ops Q r a' w'):
  wpList P ops Q (⟨some p1,.fieldAddr T (.tmp s1) k,y1,q1,f1,some (j,true)⟩::⟨some v1,.load t (.tmp p1),y2,q2,f2,some (j,true)⟩::⟨some p2,.fieldAddr T (.tmp s2) k,y3,q3,f3,some (j,true)⟩::⟨some v2,.load t (.tmp p2),y4,q4,f4,some (j,true)⟩::⟨some e,op5,y5,q5,f5,some (j,true)⟩::⟨some pk,.pick (.tmp tp) (.tmp e) (.const (.bool false)),y6,q6,f6,none⟩::⟨some d,op7,y7,q7,f7,none⟩::r) a w:=by
 refine yH R ht hk hd hj hn h1 h2 htp c1 c2 fun A hn1 hdf x1 x2 x3 x4 x5=>?_
 clear h1 h2 htp hn;simp only[aI,aT,List.nodup_cons,aY,aZ,or_false,not_or] at hd2;obtain⟨l1,⟨a1,a2,a3⟩,⟨b2,b3⟩,t3,_⟩:=hd2;refine wpList_step fun K hK=>?_
 rw[if_pos (wE rfl hj x3)];refine sj (hq _ (rq x4) (rq x5)) (hc.mono ?_);rintro _ w2 ⟨rfl,hb⟩;refine⟨_,rfl,hK _ _ ?_⟩;have hn2:=(wn A e (.bool c)).trans hn1;have z1:=pl x1 (d:=e) (v:=.bool c) (fun q=>a3 q.symm);have z2:=pl x2 (d:=e) (v:=.bool c) (fun q=>b3 q.symm);have z3:=pl x3 (d:=e) (v:=.bool c) (fun q=>t3 q.symm);have z4:Act.has (A.put (some e) (.bool c)) e _:=wD (by omega);have hdf2:(A.put (some e) (.bool c)).defers=a.defers:=hdf;refine yI h7 hd3 hn2 z1 z2 z3 z4 fun B hn3 hdf3 u1 u2 u3=>?_
 cases c with
 |true=>exact hT rfl B w2 hb hn3 (hdf3.trans hdf2) u1 u2 u3
 |false=>exact yf hfall hn3 u3 (fun a' e1 e2=>hF rfl a' w2 hb (e1.trans (hdf3.trans hdf2)) e2)
def cpT:List TypeId:=[3,9,4,22,23,24,25,26]
theorem k9:CpRun Tryz.prog 28 cpT:=by
 refine⟨fun k g w hk=>?_,fun t ht g k w v h=>?_,fun t ht g k w v cs h hk h1=>?_⟩
 ·have h28:k=0∨k=1∨k=2∨k=3∨k=4∨k=5∨k=6∨k=7∨k=8∨k=9∨k=10∨k=11∨k=12∨k=13∨k=14∨k=15∨k=16∨k=17∨k=18∨k=19∨k=20∨k=21∨k=22∨k=23∨k=24∨k=25∨k=26∨k=27:=by omega
  rcases h28 with rfl|rfl|rfl|rfl|rfl|rfl|rfl|rfl|rfl|rfl|rfl|rfl|rfl|rfl|rfl|rfl|rfl|rfl|rfl|rfl|rfl|rfl|rfl|rfl|rfl|rfl|rfl|rfl<;>go_simp
 ·simp only[cpT,aY,aZ,or_false] at ht
  rcases ht with rfl|rfl|rfl|rfl|rfl|rfl|rfl|rfl<;>go_simp
 ·have c:=ap h k
  have z:=aj h k;obtain⟨x,hx⟩:∃x,cs[k]?=some x:=⟨cs[k],by simp[hk]⟩;rw[hx] at c;simp only[cpT,aY,aZ,or_false] at ht;rcases ht with rfl|rfl|rfl|rfl|rfl|rfl|rfl|rfl<;>(cases v<;>first|(cases h1;done)|go_simp)
def lB(m n:Mg):Bool:=[m.id==n.id,m.op==n.op,m.dn==n.dn,m.ver==n.ver,m.sasl==n.sasl,m.secret==n.secret,m.scope==n.scope,m.deref==n.deref,m.size==n.size,m.time==n.time,m.types==n.types,m.newRdn==n.newRdn,m.newSup==n.newSup,m.delOld==n.delOld,m.hasSup==n.hasSup,m.typ==n.typ,m.value==n.value,m.oid==n.oid,m.has==n.has,m.target==n.target,m.code==n.code,m.matched==n.matched,m.text==n.text].all id
def wZ(f:FuncId)(u v:Value)(b:Bool)(w:World):Prop:=∀W,Below w.heap.size w W→Calls Tryz.prog f #[u,v] W fun e w'=>e=.returned (.bool b)∧Below W.heap.size W w'
theorem yX(m n:Mg)(f11 f12 f13 f14 f27:Bool)(w:World)(k11:wZ 49 m.filt n.filt f11 w)(k12:wZ 50 m.sel n.sel f12 w)(k13:wZ 51 m.mods n.mods f13 w)(k14:wZ 52 m.attrs n.attrs f14 w)(k27:wZ 53 m.ctl n.ctl f27 w):
  Cr 18 #[.agg m.row,.agg n.row] w (.bool (lB m n&&(f11&&f12&&f13&&f14&&f27))):=by
 obtain⟨ANS,hA⟩:=nmm (lB m n&&(f11&&f12&&f13&&f14&&f27));rw[hA];have HA:=hid hA;clear hA;obtain⟨c0,e0⟩:=nmm (m.id==n.id);obtain⟨c1,e1⟩:=nmm (m.op==n.op);obtain⟨c2,e2⟩:=nmm (m.dn==n.dn);obtain⟨c3,e3⟩:=nmm (m.ver==n.ver);obtain⟨c4,e4⟩:=nmm (m.sasl==n.sasl);obtain⟨c5,e5⟩:=nmm (m.secret==n.secret);obtain⟨c6,e6⟩:=nmm (m.scope==n.scope);obtain⟨c7,e7⟩:=nmm (m.deref==n.deref);obtain⟨c8,e8⟩:=nmm (m.size==n.size);obtain⟨c9,e9⟩:=nmm (m.time==n.time);obtain⟨c10,e10⟩:=nmm (m.types==n.types);obtain⟨c15,e15⟩:=nmm (m.newRdn==n.newRdn);obtain⟨c16,e16⟩:=nmm (m.newSup==n.newSup);obtain⟨c17,e17⟩:=nmm (m.delOld==n.delOld);obtain⟨c18,e18⟩:=nmm (m.hasSup==n.hasSup);obtain⟨c19,e19⟩:=nmm (m.typ==n.typ);obtain⟨c20,e20⟩:=nmm (m.value==n.value);obtain⟨c21,e21⟩:=nmm (m.oid==n.oid);obtain⟨c22,e22⟩:=nmm (m.has==n.has);obtain⟨c23,e23⟩:=nmm (m.target==n.target);obtain⟨c24,e24⟩:=nmm (m.code==n.code);obtain⟨c25,e25⟩:=nmm (m.matched==n.matched);obtain⟨c26,e26⟩:=nmm (m.text==n.text);obtain⟨K11,K12,K13,K14,K27⟩:=Cj k11 k12 k13 k14 k27;clear k11 k12 k13 k14 k27;have b2:Below w.heap.size w ((w.alloc (.cells m.row 28)).alloc (.cells n.row 28)):=((ar _ _).alloc (ah _) _).alloc (by simp) _;have fA:((w.alloc (.cells m.row 28)).alloc (.cells n.row 28)).heap[w.heap.size]?=some (.cells m.row 28 (0,0)):=(alloc_old _ _ _ (by simp)).trans (bi _ _ _ rfl);have fB:((w.alloc (.cells m.row 28)).alloc (.cells n.row 28)).heap[w.heap.size+1]?=some (.cells n.row 28 (0,0)):=bi _ _ _ (by simp)
 go_enter Tryz.func18,Tryz.ntmps18
 refine wp_seq ?_;refine aQ ?_
 iterate 2 (refine aB rfl (kkn ?_))
 generalize((w.alloc (.cells m.row 28)).alloc (.cells n.row 28))=w2 at b2 fA fB⊢
 go_upto_region 1 with fail
 refine aQ ?_;generalize hQ:Exit.then _ _=Q0
 have HF:∀(b:Bool) (a':Act) (w':World),Below w.heap.size w w'→a'.defers=[]→a'.tmps[4]?=some (.bool b)→b=ANS→Q0 .normal a' w':=by
  intro b a' w' hb hdf h4 hans;rw[←hQ];simp only[Exit.then];refine‹∀(a:Act) (w:World),Code.wp _ _ _ a w→_› _ _ ?_
  go_wp2_with fail
  exact aH (v:=.bool b) (by simp[results,Tryz.f18, Array.getD_eq_getD_getElem?,h4]) hdf ⟨by rw[hans],hb⟩
 clear hQ;have x0:=cval fA 0 (.int .i64 m.id);have y0:=cval fB 0 (.int .i64 n.id)
 iterate 6 (refine aB rfl (kkn ?_))
 clear x0 y0;cases c0 with
 |false=>exact yf (n:=199) (d:=10) (res:=4) (by kernel_rfl) rfl rfl (fun a' e h=>HF false a' w2 b2 e h (show false=ANS from by rw[←HA.out];simp[lB,e0]))
 |true=>
 skip
 refine l6 (c:=c1) (n:=199) (res:=4) k9 (by rfl) (by decide) (by decide) (by decide) (by decide) (by rfl) (by kernel_rfl) (.inl rfl) rfl rfl rfl rfl ((cval fA 1 (.int .i64 m.op))) ((cval fB 1 (.int .i64 n.op))) (fun ρ r1 r2=>by go_simp) (fun hc a' q h=>HF false a' w2 b2 q h (by subst hc;exact(show false=ANS from by rw[←HA.out];simp[lB,e1]))) (fun hc a' n1 q u1 u2 u3=>?_);subst hc;have hn:=n1;have h1:=u1;have h2:=u2;have h3:=u3;have hdf':a'.defers=[]:=q;clear n1 u1 u2 u3 q;have hdf:=hdf';clear hdf';generalize a'=A1 at hn h1 h2 h3 hdf⊢;refine l6 (c:=c2) (n:=199) (res:=4) k9 (by rfl) (by decide) (by decide) (by decide) (by decide) (by rfl) (by kernel_rfl) (.inl rfl) hn h1 h2 h3 ((cval fA 2 (.string ⟨m.dn.toArray⟩))) ((cval fB 2 (.string ⟨n.dn.toArray⟩))) (fun ρ r1 r2=>by go_simp) (fun hc a' q h=>HF false a' w2 b2 (q.trans hdf) h (by subst hc;exact(show false=ANS from by rw[←HA.out];simp[lB,e2]))) (fun hc a' n1 q u1 u2 u3=>?_);subst hc;have hn:=n1;have h1:=u1;have h2:=u2;have h3:=u3;have hdf':a'.defers=[]:=q.trans hdf;clear n1 u1 u2 u3 q hdf;have hdf:=hdf';clear hdf';generalize a'=A2 at hn h1 h2 h3 hdf⊢;refine l6 (c:=c3) (n:=199) (res:=4) k9 (by rfl) (by decide) (by decide) (by decide) (by decide) (by rfl) (by kernel_rfl) (.inl rfl) hn h1 h2 h3 ((cval fA 3 (.int .i64 m.ver))) ((cval fB 3 (.int .i64 n.ver))) (fun ρ r1 r2=>by go_simp) (fun hc a' q h=>HF false a' w2 b2 (q.trans hdf) h (by subst hc;exact(show false=ANS from by rw[←HA.out];simp[lB,e3]))) (fun hc a' n1 q u1 u2 u3=>?_);subst hc;have hn:=n1;have h1:=u1;have h2:=u2;have h3:=u3;have hdf':a'.defers=[]:=q.trans hdf;clear n1 u1 u2 u3 q hdf;have hdf:=hdf';clear hdf';generalize a'=A3 at hn h1 h2 h3 hdf⊢;refine l6 (c:=c4) (n:=199) (res:=4) k9 (by rfl) (by decide) (by decide) (by decide) (by decide) (by rfl) (by kernel_rfl) (.inl rfl) hn h1 h2 h3 ((cval fA 4 (.bool m.sasl))) ((cval fB 4 (.bool n.sasl))) (fun ρ r1 r2=>by go_simp) (fun hc a' q h=>HF false a' w2 b2 (q.trans hdf) h (by subst hc;exact(show false=ANS from by rw[←HA.out];simp[lB,e4]))) (fun hc a' n1 q u1 u2 u3=>?_);subst hc;have hn:=n1;have h1:=u1;have h2:=u2;have h3:=u3;have hdf':a'.defers=[]:=q.trans hdf;clear n1 u1 u2 u3 q hdf;have hdf:=hdf';clear hdf';generalize a'=A4 at hn h1 h2 h3 hdf⊢;refine l6 (c:=c5) (n:=199) (res:=4) k9 (by rfl) (by decide) (by decide) (by decide) (by decide) (by rfl) (by kernel_rfl) (.inl rfl) hn h1 h2 h3 ((cval fA 5 (.string ⟨m.secret.toArray⟩))) ((cval fB 5 (.string ⟨n.secret.toArray⟩))) (fun ρ r1 r2=>by go_simp) (fun hc a' q h=>HF false a' w2 b2 (q.trans hdf) h (by subst hc;exact(show false=ANS from by rw[←HA.out];simp[lB,e5]))) (fun hc a' n1 q u1 u2 u3=>?_);subst hc;have hn:=n1;have h1:=u1;have h2:=u2;have h3:=u3;have hdf':a'.defers=[]:=q.trans hdf;clear n1 u1 u2 u3 q hdf;have hdf:=hdf';clear hdf';generalize a'=A5 at hn h1 h2 h3 hdf⊢
 refine l6 (c:=c6) (n:=199) (res:=4) k9 (by rfl) (by decide) (by decide) (by decide) (by decide) (by rfl) (by kernel_rfl) (.inl rfl) hn h1 h2 h3 ((cval fA 6 (.int .i64 m.scope))) ((cval fB 6 (.int .i64 n.scope))) (fun ρ r1 r2=>by go_simp) (fun hc a' q h=>HF false a' w2 b2 (q.trans hdf) h (by subst hc;exact(show false=ANS from by rw[←HA.out];simp[lB,e6]))) (fun hc a' n1 q u1 u2 u3=>?_);subst hc;have hn:=n1;have h1:=u1;have h2:=u2;have h3:=u3;have hdf':a'.defers=[]:=q.trans hdf;clear n1 u1 u2 u3 q hdf;have hdf:=hdf';clear hdf';generalize a'=A6 at hn h1 h2 h3 hdf⊢;refine l6 (c:=c7) (n:=199) (res:=4) k9 (by rfl) (by decide) (by decide) (by decide) (by decide) (by rfl) (by kernel_rfl) (.inl rfl) hn h1 h2 h3 ((cval fA 7 (.int .i64 m.deref))) ((cval fB 7 (.int .i64 n.deref))) (fun ρ r1 r2=>by go_simp) (fun hc a' q h=>HF false a' w2 b2 (q.trans hdf) h (by subst hc;exact(show false=ANS from by rw[←HA.out];simp[lB,e7]))) (fun hc a' n1 q u1 u2 u3=>?_);subst hc;have hn:=n1;have h1:=u1;have h2:=u2;have h3:=u3;have hdf':a'.defers=[]:=q.trans hdf;clear n1 u1 u2 u3 q hdf;have hdf:=hdf';clear hdf';generalize a'=A7 at hn h1 h2 h3 hdf⊢;refine l6 (c:=c8) (n:=199) (res:=4) k9 (by rfl) (by decide) (by decide) (by decide) (by decide) (by rfl) (by kernel_rfl) (.inl rfl) hn h1 h2 h3 ((cval fA 8 (.int .i64 m.size))) ((cval fB 8 (.int .i64 n.size))) (fun ρ r1 r2=>by go_simp) (fun hc a' q h=>HF false a' w2 b2 (q.trans hdf) h (by subst hc;exact(show false=ANS from by rw[←HA.out];simp[lB,e8]))) (fun hc a' n1 q u1 u2 u3=>?_);subst hc;have hn:=n1;have h1:=u1;have h2:=u2;have h3:=u3;have hdf':a'.defers=[]:=q.trans hdf;clear n1 u1 u2 u3 q hdf;have hdf:=hdf';clear hdf';generalize a'=A8 at hn h1 h2 h3 hdf⊢;refine l6 (c:=c9) (n:=199) (res:=4) k9 (by rfl) (by decide) (by decide) (by decide) (by decide) (by rfl) (by kernel_rfl) (.inl rfl) hn h1 h2 h3 ((cval fA 9 (.int .i64 m.time))) ((cval fB 9 (.int .i64 n.time))) (fun ρ r1 r2=>by go_simp) (fun hc a' q h=>HF false a' w2 b2 (q.trans hdf) h (by subst hc;exact(show false=ANS from by rw[←HA.out];simp[lB,e9]))) (fun hc a' n1 q u1 u2 u3=>?_);subst hc;have hn:=n1;have h1:=u1;have h2:=u2;have h3:=u3;have hdf':a'.defers=[]:=q.trans hdf;clear n1 u1 u2 u3 q hdf;have hdf:=hdf';clear hdf';generalize a'=A9 at hn h1 h2 h3 hdf⊢;refine l6 (c:=c10) (n:=199) (res:=4) k9 (by rfl) (by decide) (by decide) (by decide) (by decide) (by rfl) (by kernel_rfl) (.inl rfl) hn h1 h2 h3 ((cval fA 10 (.bool m.types))) ((cval fB 10 (.bool n.types))) (fun ρ r1 r2=>by go_simp) (fun hc a' q h=>HF false a' w2 b2 (q.trans hdf) h (by subst hc;exact(show false=ANS from by rw[←HA.out];simp[lB,e10]))) (fun hc a' n1 q u1 u2 u3=>?_);subst hc;have hn:=n1;have h1:=u1;have h2:=u2;have h3:=u3;have hdf':a'.defers=[]:=q.trans hdf;clear n1 u1 u2 u3 q hdf;have hdf:=hdf';clear hdf';generalize a'=A10 at hn h1 h2 h3 hdf⊢
 refine wY (c:=f11) (f:=49) (n:=199) (res:=4) k9 (by rfl) (by decide) (by decide) (by decide) (by decide) (by rfl) (by kernel_rfl) (.inl rfl) hn h1 h2 h3 ((cval fA 11 m.filt)) ((cval fB 11 n.filt)) (fun A r1 r2=>by go_simp;exact⟨by simpa[Act.eval,Array.getD_eq_getD_getElem?] using r1,by simpa[Act.eval,Array.getD_eq_getD_getElem?] using r2⟩) (K11.out w2 b2) (fun hc a' w' hb q h=>HF false a' w' ((btt b2 hb)) (q.trans hdf) h (by subst hc;exact(show false=ANS from by rw[←HA.out];simp[lB]))) (fun hc a' w' hb n1 q u1 u2 u3=>?_);subst hc;have fA':=bkk hb fA;have fB':=bkk hb fB;have b3:=btt b2 hb;clear fA fB b2 hb K11;have fA:=fA';have fB:=fB';clear fA' fB';generalize w'=w3 at b3 fA fB⊢;have hn:=n1;have h1:=u1;have h2:=u2;have h3:=u3;have hdf':a'.defers=[]:=q.trans hdf;clear n1 u1 u2 u3 q hdf;have hdf:=hdf';clear hdf';generalize a'=A11 at hn h1 h2 h3 hdf⊢;refine wY (c:=f12) (f:=50) (n:=199) (res:=4) k9 (by rfl) (by decide) (by decide) (by decide) (by decide) (by rfl) (by kernel_rfl) (.inl rfl) hn h1 h2 h3 ((cval fA 12 m.sel)) ((cval fB 12 n.sel)) (fun A r1 r2=>by go_simp;exact⟨by simpa[Act.eval,Array.getD_eq_getD_getElem?] using r1,by simpa[Act.eval,Array.getD_eq_getD_getElem?] using r2⟩) (K12.out w3 b3) (fun hc a' w' hb q h=>HF false a' w' ((btt b3 hb)) (q.trans hdf) h (by subst hc;exact(show false=ANS from by rw[←HA.out];simp[lB]))) (fun hc a' w' hb n1 q u1 u2 u3=>?_);subst hc;have fA':=bkk hb fA;have fB':=bkk hb fB;have b4:=btt b3 hb;clear fA fB b3 hb K12;have fA:=fA';have fB:=fB';clear fA' fB';generalize w'=w4 at b4 fA fB⊢;have hn:=n1;have h1:=u1;have h2:=u2;have h3:=u3;have hdf':a'.defers=[]:=q.trans hdf;clear n1 u1 u2 u3 q hdf;have hdf:=hdf';clear hdf';generalize a'=A12 at hn h1 h2 h3 hdf⊢;refine wY (c:=f13) (f:=51) (n:=199) (res:=4) k9 (by rfl) (by decide) (by decide) (by decide) (by decide) (by rfl) (by kernel_rfl) (.inl rfl) hn h1 h2 h3 ((cval fA 13 m.mods)) ((cval fB 13 n.mods)) (fun A r1 r2=>by go_simp;exact⟨by simpa[Act.eval,Array.getD_eq_getD_getElem?] using r1,by simpa[Act.eval,Array.getD_eq_getD_getElem?] using r2⟩) (K13.out w4 b4) (fun hc a' w' hb q h=>HF false a' w' ((btt b4 hb)) (q.trans hdf) h (by subst hc;exact(show false=ANS from by rw[←HA.out];simp[lB]))) (fun hc a' w' hb n1 q u1 u2 u3=>?_);subst hc;have fA':=bkk hb fA;have fB':=bkk hb fB;have b5:=btt b4 hb;clear fA fB b4 hb K13;have fA:=fA';have fB:=fB';clear fA' fB';generalize w'=w5 at b5 fA fB⊢;have hn:=n1;have h1:=u1;have h2:=u2;have h3:=u3;have hdf':a'.defers=[]:=q.trans hdf;clear n1 u1 u2 u3 q hdf;have hdf:=hdf';clear hdf';generalize a'=A13 at hn h1 h2 h3 hdf⊢;refine wY (c:=f14) (f:=52) (n:=199) (res:=4) k9 (by rfl) (by decide) (by decide) (by decide) (by decide) (by rfl) (by kernel_rfl) (.inl rfl) hn h1 h2 h3 ((cval fA 14 m.attrs)) ((cval fB 14 n.attrs)) (fun A r1 r2=>by go_simp;exact⟨by simpa[Act.eval,Array.getD_eq_getD_getElem?] using r1,by simpa[Act.eval,Array.getD_eq_getD_getElem?] using r2⟩) (K14.out w5 b5) (fun hc a' w' hb q h=>HF false a' w' ((btt b5 hb)) (q.trans hdf) h (by subst hc;exact(show false=ANS from by rw[←HA.out];simp[lB]))) (fun hc a' w' hb n1 q u1 u2 u3=>?_)
 subst hc;have fA':=bkk hb fA;have fB':=bkk hb fB;have b6:=btt b5 hb;clear fA fB b5 hb K14;have fA:=fA';have fB:=fB';clear fA' fB';generalize w'=w6 at b6 fA fB⊢;have hn:=n1;have h1:=u1;have h2:=u2;have h3:=u3;have hdf':a'.defers=[]:=q.trans hdf;clear n1 u1 u2 u3 q hdf;have hdf:=hdf';clear hdf';generalize a'=A14 at hn h1 h2 h3 hdf⊢;refine l6 (c:=c15) (n:=199) (res:=4) k9 (by rfl) (by decide) (by decide) (by decide) (by decide) (by rfl) (by kernel_rfl) (.inl rfl) hn h1 h2 h3 ((cval fA 15 (.string ⟨m.newRdn.toArray⟩))) ((cval fB 15 (.string ⟨n.newRdn.toArray⟩))) (fun ρ r1 r2=>by go_simp) (fun hc a' q h=>HF false a' w6 b6 (q.trans hdf) h (by subst hc;exact(show false=ANS from by rw[←HA.out];simp[lB,e15]))) (fun hc a' n1 q u1 u2 u3=>?_);subst hc;have hn:=n1;have h1:=u1;have h2:=u2;have h3:=u3;have hdf':a'.defers=[]:=q.trans hdf;clear n1 u1 u2 u3 q hdf;have hdf:=hdf';clear hdf';generalize a'=A15 at hn h1 h2 h3 hdf⊢;refine l6 (c:=c16) (n:=199) (res:=4) k9 (by rfl) (by decide) (by decide) (by decide) (by decide) (by rfl) (by kernel_rfl) (.inl rfl) hn h1 h2 h3 ((cval fA 16 (.string ⟨m.newSup.toArray⟩))) ((cval fB 16 (.string ⟨n.newSup.toArray⟩))) (fun ρ r1 r2=>by go_simp) (fun hc a' q h=>HF false a' w6 b6 (q.trans hdf) h (by subst hc;exact(show false=ANS from by rw[←HA.out];simp[lB,e16]))) (fun hc a' n1 q u1 u2 u3=>?_);subst hc;have hn:=n1;have h1:=u1;have h2:=u2;have h3:=u3;have hdf':a'.defers=[]:=q.trans hdf;clear n1 u1 u2 u3 q hdf;have hdf:=hdf';clear hdf';generalize a'=A16 at hn h1 h2 h3 hdf⊢;refine l6 (c:=c17) (n:=199) (res:=4) k9 (by rfl) (by decide) (by decide) (by decide) (by decide) (by rfl) (by kernel_rfl) (.inl rfl) hn h1 h2 h3 ((cval fA 17 (.bool m.delOld))) ((cval fB 17 (.bool n.delOld))) (fun ρ r1 r2=>by go_simp) (fun hc a' q h=>HF false a' w6 b6 (q.trans hdf) h (by subst hc;exact(show false=ANS from by rw[←HA.out];simp[lB,e17]))) (fun hc a' n1 q u1 u2 u3=>?_);subst hc;have hn:=n1;have h1:=u1;have h2:=u2;have h3:=u3;have hdf':a'.defers=[]:=q.trans hdf;clear n1 u1 u2 u3 q hdf;have hdf:=hdf';clear hdf';generalize a'=A17 at hn h1 h2 h3 hdf⊢;refine l6 (c:=c18) (n:=199) (res:=4) k9 (by rfl) (by decide) (by decide) (by decide) (by decide) (by rfl) (by kernel_rfl) (.inl rfl) hn h1 h2 h3 ((cval fA 18 (.bool m.hasSup))) ((cval fB 18 (.bool n.hasSup))) (fun ρ r1 r2=>by go_simp) (fun hc a' q h=>HF false a' w6 b6 (q.trans hdf) h (by subst hc;exact(show false=ANS from by rw[←HA.out];simp[lB,e18]))) (fun hc a' n1 q u1 u2 u3=>?_);subst hc;have hn:=n1;have h1:=u1;have h2:=u2;have h3:=u3;have hdf':a'.defers=[]:=q.trans hdf;clear n1 u1 u2 u3 q hdf;have hdf:=hdf';clear hdf';generalize a'=A18 at hn h1 h2 h3 hdf⊢;refine l6 (c:=c19) (n:=199) (res:=4) k9 (by rfl) (by decide) (by decide) (by decide) (by decide) (by rfl) (by kernel_rfl) (.inl rfl) hn h1 h2 h3 ((cval fA 19 (.string ⟨m.typ.toArray⟩))) ((cval fB 19 (.string ⟨n.typ.toArray⟩))) (fun ρ r1 r2=>by go_simp) (fun hc a' q h=>HF false a' w6 b6 (q.trans hdf) h (by subst hc;exact(show false=ANS from by rw[←HA.out];simp[lB,e19]))) (fun hc a' n1 q u1 u2 u3=>?_)
 subst hc;have hn:=n1;have h1:=u1;have h2:=u2;have h3:=u3;have hdf':a'.defers=[]:=q.trans hdf;clear n1 u1 u2 u3 q hdf;have hdf:=hdf';clear hdf';generalize a'=A19 at hn h1 h2 h3 hdf⊢;refine l6 (c:=c20) (n:=199) (res:=4) k9 (by rfl) (by decide) (by decide) (by decide) (by decide) (by rfl) (by kernel_rfl) (.inl rfl) hn h1 h2 h3 ((cval fA 20 (.string ⟨m.value.toArray⟩))) ((cval fB 20 (.string ⟨n.value.toArray⟩))) (fun ρ r1 r2=>by go_simp) (fun hc a' q h=>HF false a' w6 b6 (q.trans hdf) h (by subst hc;exact(show false=ANS from by rw[←HA.out];simp[lB,e20]))) (fun hc a' n1 q u1 u2 u3=>?_);subst hc;have hn:=n1;have h1:=u1;have h2:=u2;have h3:=u3;have hdf':a'.defers=[]:=q.trans hdf;clear n1 u1 u2 u3 q hdf;have hdf:=hdf';clear hdf';generalize a'=A20 at hn h1 h2 h3 hdf⊢;refine l6 (c:=c21) (n:=199) (res:=4) k9 (by rfl) (by decide) (by decide) (by decide) (by decide) (by rfl) (by kernel_rfl) (.inl rfl) hn h1 h2 h3 ((cval fA 21 (.string ⟨m.oid.toArray⟩))) ((cval fB 21 (.string ⟨n.oid.toArray⟩))) (fun ρ r1 r2=>by go_simp) (fun hc a' q h=>HF false a' w6 b6 (q.trans hdf) h (by subst hc;exact(show false=ANS from by rw[←HA.out];simp[lB,e21]))) (fun hc a' n1 q u1 u2 u3=>?_);subst hc;have hn:=n1;have h1:=u1;have h2:=u2;have h3:=u3;have hdf':a'.defers=[]:=q.trans hdf;clear n1 u1 u2 u3 q hdf;have hdf:=hdf';clear hdf';generalize a'=A21 at hn h1 h2 h3 hdf⊢;refine l6 (c:=c22) (n:=199) (res:=4) k9 (by rfl) (by decide) (by decide) (by decide) (by decide) (by rfl) (by kernel_rfl) (.inl rfl) hn h1 h2 h3 ((cval fA 22 (.bool m.has))) ((cval fB 22 (.bool n.has))) (fun ρ r1 r2=>by go_simp) (fun hc a' q h=>HF false a' w6 b6 (q.trans hdf) h (by subst hc;exact(show false=ANS from by rw[←HA.out];simp[lB,e22]))) (fun hc a' n1 q u1 u2 u3=>?_);subst hc;have hn:=n1;have h1:=u1;have h2:=u2;have h3:=u3;have hdf':a'.defers=[]:=q.trans hdf;clear n1 u1 u2 u3 q hdf;have hdf:=hdf';clear hdf';generalize a'=A22 at hn h1 h2 h3 hdf⊢;refine l6 (c:=c23) (n:=199) (res:=4) k9 (by rfl) (by decide) (by decide) (by decide) (by decide) (by rfl) (by kernel_rfl) (.inl rfl) hn h1 h2 h3 ((cval fA 23 (.int .i64 m.target))) ((cval fB 23 (.int .i64 n.target))) (fun ρ r1 r2=>by go_simp) (fun hc a' q h=>HF false a' w6 b6 (q.trans hdf) h (by subst hc;exact(show false=ANS from by rw[←HA.out];simp[lB,e23]))) (fun hc a' n1 q u1 u2 u3=>?_);subst hc;have hn:=n1;have h1:=u1;have h2:=u2;have h3:=u3;have hdf':a'.defers=[]:=q.trans hdf;clear n1 u1 u2 u3 q hdf;have hdf:=hdf';clear hdf';generalize a'=A23 at hn h1 h2 h3 hdf⊢;refine l6 (c:=c24) (n:=199) (res:=4) k9 (by rfl) (by decide) (by decide) (by decide) (by decide) (by rfl) (by kernel_rfl) (.inl rfl) hn h1 h2 h3 ((cval fA 24 (.int .i64 m.code))) ((cval fB 24 (.int .i64 n.code))) (fun ρ r1 r2=>by go_simp) (fun hc a' q h=>HF false a' w6 b6 (q.trans hdf) h (by subst hc;exact(show false=ANS from by rw[←HA.out];simp[lB,e24]))) (fun hc a' n1 q u1 u2 u3=>?_)
 subst hc;have hn:=n1;have h1:=u1;have h2:=u2;have h3:=u3;have hdf':a'.defers=[]:=q.trans hdf;clear n1 u1 u2 u3 q hdf;have hdf:=hdf';clear hdf';generalize a'=A24 at hn h1 h2 h3 hdf⊢;refine l6 (c:=c25) (n:=199) (res:=4) k9 (by rfl) (by decide) (by decide) (by decide) (by decide) (by rfl) (by kernel_rfl) (.inl rfl) hn h1 h2 h3 ((cval fA 25 (.string ⟨m.matched.toArray⟩))) ((cval fB 25 (.string ⟨n.matched.toArray⟩))) (fun ρ r1 r2=>by go_simp) (fun hc a' q h=>HF false a' w6 b6 (q.trans hdf) h (by subst hc;exact(show false=ANS from by rw[←HA.out];simp[lB,e25]))) (fun hc a' n1 q u1 u2 u3=>?_);subst hc;have hn:=n1;have h1:=u1;have h2:=u2;have h3:=u3;have hdf':a'.defers=[]:=q.trans hdf;clear n1 u1 u2 u3 q hdf;have hdf:=hdf';clear hdf';generalize a'=A25 at hn h1 h2 h3 hdf⊢;refine l6 (c:=c26) (n:=199) (res:=4) k9 (by rfl) (by decide) (by decide) (by decide) (by decide) (by rfl) (by kernel_rfl) (.inl rfl) hn h1 h2 h3 ((cval fA 26 (.string ⟨m.text.toArray⟩))) ((cval fB 26 (.string ⟨n.text.toArray⟩))) (fun ρ r1 r2=>by go_simp) (fun hc a' q h=>HF false a' w6 b6 (q.trans hdf) h (by subst hc;exact(show false=ANS from by rw[←HA.out];simp[lB,e26]))) (fun hc a' n1 q u1 u2 u3=>?_);subst hc;have hn:=n1;have h1:=u1;have h2:=u2;have h3:=u3;have hdf':a'.defers=[]:=q.trans hdf;clear n1 u1 u2 u3 q hdf;have hdf:=hdf';clear hdf';generalize a'=A26 at hn h1 h2 h3 hdf⊢;refine wY (c:=f27) (f:=53) (n:=199) (res:=4) k9 (by rfl) (by decide) (by decide) (by decide) (by decide) (by rfl) (by kernel_rfl) (.inr rfl) hn h1 h2 h3 ((cval fA 27 m.ctl)) ((cval fB 27 n.ctl)) (fun A r1 r2=>by go_simp;exact⟨by simpa[Act.eval,Array.getD_eq_getD_getElem?] using r1,by simpa[Act.eval,Array.getD_eq_getD_getElem?] using r2⟩) (K27.out w6 b6) (fun hc a' w' hb q h=>HF false a' w' ((btt b6 hb)) (q.trans hdf) h (by subst hc;exact(show false=ANS from by rw[←HA.out];simp[lB]))) (fun hc a' w' hb n1 q u1 u2 u3=>?_);subst hc;have fA':=bkk hb fA;have fB':=bkk hb fB;have b7:=btt b6 hb;clear fA fB b6 hb K27;have fA:=fA';have fB:=fB';clear fA' fB';generalize w'=w7 at b7 fA fB⊢;have hn:=n1;have h1:=u1;have h2:=u2;have h3:=u3;have hdf':a'.defers=[]:=q.trans hdf;clear n1 u1 u2 u3 q hdf;have hdf:=hdf';clear hdf';generalize a'=A27 at hn h1 h2 h3 hdf⊢;exact HF true _ _ b7 hdf h3 (by rw[←HA.out];simp[lB,e0,e1,e2,e3,e4,e5,e6,e7,e8,e9,e10,e15,e16,e17,e18,e19,e20,e21,e22,e23,e24,e25,e26])
end Go.Proofs.YthjaiigijbjloaaGreatDoor
