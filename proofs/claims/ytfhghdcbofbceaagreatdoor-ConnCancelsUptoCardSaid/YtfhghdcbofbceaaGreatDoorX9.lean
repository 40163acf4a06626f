/- MgM, BaA, CfA, BaXs, BaX0, BaX1, BaX2. -/
import Derived.Test.YtfhghdcbofbceaaGreatDoorX5
namespace Go.Proofs.YtfhghdcbofbceaaGreatDoor
open Go.RowKit Go.Lib
set_option maxRecDepth 100000
set_option maxHeartbeats 16000000
abbrev Md:=Int×List UInt8×List (List UInt8)
structure Ct where
 oid:List UInt8
 crit:Bool
 has:Bool
 value:List UInt8
def eY(w:World)(v:Value)(ml:List Md):Prop:=
 ∃a cap,v=.slice a ml.length cap∧ml.length≤cap∧(ml≠[]→∃g o,a=some ⟨g,o,none⟩∧∀(j:Nat) (x:Md),ml[j]?=some x→w.cell? ⟨g,o+j*3,none⟩=some (.int .i64 x.1)∧w.cell? ⟨g,o+j*3+1,none⟩=some (.string ⟨x.2.1.toArray⟩)∧∃u,w.cell? ⟨g,o+j*3+2,none⟩=some u∧ct w u x.2.2)
theorem eY.below{w w':World}{v:Value}{ml:List Md}(h:eY w v ml)(hb:Bw w w'):eY w' v ml:=by
 obtain⟨a,cap,hv,hc,hr⟩:=h;refine⟨a,cap,hv,hc,fun h0=>?_⟩;obtain⟨g,o,ha,hcell⟩:=hr h0;refine⟨g,o,ha,fun j x hj=>?_⟩;obtain⟨h1,h2,u,h3,h4⟩:=hcell j x hj;exact⟨(hb.cell (bj h1)).trans h1,(hb.cell (bj h2)).trans h2,u,(hb.cell (bj h3)).trans h3,h4.below hb⟩
def ig(w:World)(v:Value)(cl:List Ct):Prop:=
 ∃a cap,v=.slice a cl.length cap∧cl.length≤cap∧(cl≠[]→∃g o,a=some ⟨g,o,none⟩∧∀(j:Nat) (x:Ct),cl[j]?=some x→w.cell? ⟨g,o+j*4,none⟩=some (.string ⟨x.oid.toArray⟩)∧w.cell? ⟨g,o+j*4+1,none⟩=some (.bool x.crit)∧w.cell? ⟨g,o+j*4+2,none⟩=some (.bool x.has)∧w.cell? ⟨g,o+j*4+3,none⟩=some (.string ⟨x.value.toArray⟩))
theorem ig.below{w w':World}{v:Value}{cl:List Ct}(h:ig w v cl)(hb:Bw w w'):ig w' v cl:=by
 obtain⟨a,cap,hv,hc,hr⟩:=h;refine⟨a,cap,hv,hc,fun h0=>?_⟩;obtain⟨g,o,ha,hcell⟩:=hr h0;refine⟨g,o,ha,fun j x hj=>?_⟩;obtain⟨h1,h2,h3,h4⟩:=hcell j x hj;exact⟨(hb.cell (bj h1)).trans h1,(hb.cell (bj h2)).trans h2,(hb.cell (bj h3)).trans h3,(hb.cell (bj h4)).trans h4⟩
structure Ls where
 filt:List Fl:=[]
 sel:List (List UInt8):=[]
 mods:List Md:=[]
 attrs:List (List UInt8×List (List UInt8)):=[]
 ctl:List Ct:=[]
structure MgM (w:World) (m:Mg) (l:Ls):Prop where
 filt:de w m.filt l.filt
 sel:ct w m.sel l.sel
 mods:eY w m.mods l.mods
 attrs:eG w m.attrs l.attrs
 ctl:ig w m.ctl l.ctl
theorem MgM.below{w w':World}{m:Mg}{l:Ls}(h:MgM w m l)(hb:Bw w w'):MgM w' m l:=
 ⟨h.filt.below hb,h.sel.below hb,h.mods.below hb,h.attrs.below hb,h.ctl.below hb⟩
def bo(m:Mg):Mg:=
 if m.op=0 then{id:=m.id,op:=m.op,ctl:=m.ctl,ver:=m.ver,dn:=m.dn,sasl:=m.sasl,secret:=m.secret}
 else if m.op=3 then{id:=m.id,op:=m.op,ctl:=m.ctl,dn:=m.dn,scope:=m.scope,deref:=m.deref,size:=m.size,time:=m.time,types:=m.types,filt:=m.filt,sel:=m.sel}
 else if m.op=6 then{id:=m.id,op:=m.op,ctl:=m.ctl,dn:=m.dn,mods:=m.mods}
 else if m.op=8∨m.op=4 then{id:=m.id,op:=m.op,ctl:=m.ctl,dn:=m.dn,attrs:=m.attrs}
 else if m.op=10 then{id:=m.id,op:=m.op,ctl:=m.ctl,dn:=m.dn}
 else if m.op=12 then{id:=m.id,op:=m.op,ctl:=m.ctl,dn:=m.dn,newRdn:=m.newRdn,delOld:=m.delOld,hasSup:=m.hasSup,newSup:=m.newSup}
 else if m.op=14 then{id:=m.id,op:=m.op,ctl:=m.ctl,dn:=m.dn,typ:=m.typ,value:=m.value}
 else if m.op=16 then{id:=m.id,op:=m.op,ctl:=m.ctl,target:=m.target}
 else if m.op=23 then{id:=m.id,op:=m.op,ctl:=m.ctl,oid:=m.oid,has:=m.has,value:=m.value}
 else if m.op=24 then{id:=m.id,op:=m.op,ctl:=m.ctl,code:=m.code,matched:=m.matched,text:=m.text,oid:=m.oid,has:=m.has,value:=m.value}
 else if ez.contains m.op then{id:=m.id,op:=m.op,ctl:=m.ctl,code:=m.code,matched:=m.matched,text:=m.text}
 else{id:=m.id,op:=m.op,ctl:=m.ctl}
def bB(n most:Int):Bool:=decide (0≤n)&&decide (n≤most)
def br(m:Mg)(l:Ls):Bool:=
 if m.op=0 then decide (1≤m.ver)&&decide (m.ver≤127)
 else if m.op=2 then true
 else if m.op=3 then bB m.scope 2&&bB m.deref 3&&bB m.size 2147483647&&bB m.time 2147483647&&dz l.filt
 else if m.op=6 then l.mods.all (fun x=>bB x.1 2)
 else if m.op=8∨m.op=4 then true
 else if m.op=10 then true
 else if m.op=12 then m.hasSup||decide (m.newSup=[])
 else if m.op=14 then true
 else if m.op=16 then bB m.target 2147483647
 else if m.op=23 then m.has||decide (m.value=[])
 else if m.op=24 then bB m.code 2147483647&&(m.has||decide (m.value=[]))
 else if ez.contains m.op then bB m.code 2147483647
 else false
theorem dA(n most:Int)(w:World):Calls Tryz.prog 44 #[.int .i64 n,.int .i64 most] w fun e w'=>e=.returned (.bool (bB n most))∧w'=w:=by
 by_cases h0:0≤n
 ·by_cases h1:n≤most
  ·rw[show bB n most=true by simp[bB,h0,h1]]
   exact pB n most h0 h1 w
  ·rw[show bB n most=false by simp[bB,h1]]
   have f0:decide (n≥0)=true:=aC h0;have f2:decide (0≤n)=true:=aC h0;have f1:decide (n≤most)=false:=an h1
   go_enter Tryz.func44,Tryz.ntmps44
   go_wp2_with fail
   go_ret
   exact⟨rfl,rfl⟩
 ·rw[show bB n most=false by simp[bB,h0]]
  have f0:decide (n≥0)=false:=an h0;have f2:decide (0≤n)=false:=an h0
  go_enter Tryz.func44,Tryz.ntmps44
  go_wp2_with fail
  go_ret
  exact⟨rfl,rfl⟩
theorem oG(x:Md)(u:Value)(w:World):Cr 72 #[.agg #[.int .i64 x.1,.string ⟨x.2.1.toArray⟩,u]] w (.bool (!bB x.1 2)):=by
 have b1:=alb w #[.int .i64 x.1,.string ⟨x.2.1.toArray⟩,u] 112;have m1:=alz w #[.int .i64 x.1,.string ⟨x.2.1.toArray⟩,u] 112
 go_enter Tryz.func72,Tryz.ntmps72
 go_upto_region 1 with fail
 generalize w.alloc (.cells #[.int .i64 x.1,.string ⟨x.2.1.toArray⟩,u] 112)=w1 at b1 m1⊢;have q0:=cval m1 0 (.int .i64 x.1);have kr:=dA x.1 2 w1
 go_wp2_with fail
 refine ag kr ?_;rintro e w2 ⟨rfl,hw⟩;rw[hw];clear hw kr
 go_wp2_with fail
 go_ret
 exact⟨rfl,b1⟩
def eL(x:Ct):Bool:=!x.has&&!x.value.isEmpty
theorem oH(x:Ct)(w:World):Cr 47 #[.agg #[.string ⟨x.oid.toArray⟩,.bool x.crit,.bool x.has,.string ⟨x.value.toArray⟩]] w (.bool (eL x)):=by
 obtain⟨oid,crit,has,value⟩:=x;unfold eL;simp only;obtain⟨B,hB⟩:=nmm value.isEmpty;have b1:=alb w #[.string ⟨oid.toArray⟩,.bool crit,.bool has,.string ⟨value.toArray⟩] 83;have m1:=alz w #[.string ⟨oid.toArray⟩,.bool crit,.bool has,.string ⟨value.toArray⟩] 83;rw[hB];cases has
 ·go_enter Tryz.func47,Tryz.ntmps47
  go_upto_region 1 with fail
  generalize w.alloc (.cells #[.string ⟨oid.toArray⟩,.bool crit,Bf,.string ⟨value.toArray⟩] 83)=w1 at b1 m1⊢;have q2:=cval m1 2 Bf;have q3:=cval m1 3 (.string ⟨value.toArray⟩)
  go_wp2_with fail
  go_ret
  exact⟨by rw[←hB];rfl,b1⟩
 ·go_enter Tryz.func47,Tryz.ntmps47
  go_upto_region 1 with fail
  generalize w.alloc (.cells #[.string ⟨oid.toArray⟩,.bool crit,.bool true,.string ⟨value.toArray⟩] 83)=w1 at b1 m1⊢;have q2:=cval m1 2 (.bool true)
  go_wp2_with fail
  go_ret
  exact⟨rfl,b1⟩
def tH(w:World)(l:List Md)(i:Value)(wr:World):Prop:=
 ∃k:Nat,i=.int .i64 (k:Int)∧k≤l.length∧(l.take k).any (fun x=>!bB x.1 2)=false∧Bw w wr
theorem oI(v:Value)(l:List Md)(w:World)(h:eY w v l)(hl:l.length≤1000000000):Calls Tryz.prog 107 #[v,.func (.func 72) #[] #[]] w fun e w'=>(∃i:Int,e=.returned (.int .i64 i)∧decide (0≤i)=l.any (fun x=>!bB x.1 2))∧Bw w w':=by
 obtain⟨a,cap,rfl,hcap,hcells⟩:=h;have HC:=hid hcells;clear hcells
 go_enter Tryz.func107,Tryz.ntmps107
 go_wp2_with fail
 go_loopw [5,8] (fun _ i wr=>tH w l i wr) (fun _ i _=>l.length -(RowKit.intOf i).toNat)
 case atStart=>exact⟨0,rfl,Nat.zero_le _,by simp,aA _ _⟩
 case round=>
  obtain⟨k,rfl,hk,hno,hbe⟩:=hrel
  by_cases hkl:k<l.length
  ·obtain⟨x,hx⟩:∃x,l[k]?=some x:=⟨_,by simp[hkl];rfl⟩
   obtain⟨g,o,ha,hc⟩:=HC.out (by intro h0;rw[h0] at hkl;simp at hkl);subst ha;obtain⟨p0,p1,u,p2,-⟩:=hc k x hx;have q0:=(hbe.cell (bj p0)).trans p0;have q1:=(hbe.cell (bj p1)).trans p1;have q2:=(hbe.cell (bj p2)).trans p2;have i1:decide ((k:Int)<(l.length:Int))=true:=aC (by omega);have i2:(k:Int)<(l.length:Int):=by omega
   have hts:(l.take (k+1)).any (fun x=>!bB x.1 2)=(!bB x.1 2):=by rw[List.take_add_one,hx,List.any_append,hno];simp
   have hmem:x∈l:=List.mem_of_getElem? hx;obtain⟨HTS,HNO⟩:=Cg hts hno;clear hc hx hts hno;have kc:=oG x u wr;obtain⟨B,hB⟩:=nmm (!bB x.1 2);rw[hB] at kc;have HBB:=hid hB;clear hB
   go_wp2_with fail
   refine ag kc ?_;rintro e w2 ⟨rfl,hb2⟩;have b2:=btt hbe hb2;clear kc hb2 hbe;cases B
   ·go_wp2_with fail
    exact⟨⟨k+1,by go_num,by omega,by rw[HTS.out,HBB.out],b2⟩,by simp[RowKit.intOf];omega⟩
   ·go_wp2_with fail
    go_ret
    exact⟨⟨_,rfl,by rw[List.any_eq_true.2 ⟨x,hmem,HBB.out⟩];exact aC (by omega)⟩,b2⟩
  ·obtain rfl:k=l.length:=by omega
   rw[List.take_of_length_le (ah _)] at hno;have HNO:=hid hno;clear hno
   go_wp2_with fail
   go_ret
   exact⟨⟨_,rfl,by rw[HNO.out];rfl⟩,hbe⟩
theorem eB(v:Value)(l:List Md)(w:World)(h:eY w v l)(hl:l.length≤1000000000):Cr 71 #[v,.func (.func 72) #[] #[]] w (.bool (l.any (fun x=>!bB x.1 2))):=by
 have k:=oI v l w h hl;clear h
 go_enter Tryz.func71,Tryz.ntmps71
 go_wp2_with fail
 refine ag k ?_;rintro e w1 ⟨⟨i,rfl,hi⟩,hb⟩;clear k;have HI:=hid hi;clear hi
 go_wp2_with fail
 go_ret
 exact⟨by rw[←HI.out];try rfl,hb⟩
def tI(w:World)(l:List Ct)(i:Value)(wr:World):Prop:=
 ∃k:Nat,i=.int .i64 (k:Int)∧k≤l.length∧(l.take k).any (fun x=>eL x)=false∧Bw w wr
theorem oJ(v:Value)(l:List Ct)(w:World)(h:ig w v l)(hl:l.length≤1000000000):Calls Tryz.prog 74 #[v,.func (.func 47) #[] #[]] w fun e w'=>(∃i:Int,e=.returned (.int .i64 i)∧decide (0≤i)=l.any (fun x=>eL x))∧Bw w w':=by
 obtain⟨a,cap,rfl,hcap,hcells⟩:=h;have HC:=hid hcells;clear hcells
 go_enter Tryz.func74,Tryz.ntmps74
 go_wp2_with fail
 go_loopw [5,8] (fun _ i wr=>tI w l i wr) (fun _ i _=>l.length -(RowKit.intOf i).toNat)
 case atStart=>exact⟨0,rfl,Nat.zero_le _,by simp,aA _ _⟩
 case round=>
  obtain⟨k,rfl,hk,hno,hbe⟩:=hrel
  by_cases hkl:k<l.length
  ·obtain⟨x,hx⟩:∃x,l[k]?=some x:=⟨_,by simp[hkl];rfl⟩
   obtain⟨g,o,ha,hc⟩:=HC.out (by intro h0;rw[h0] at hkl;simp at hkl);subst ha;obtain⟨p0,p1,p2,p3⟩:=hc k x hx;have q0:=(hbe.cell (bj p0)).trans p0;have q1:=(hbe.cell (bj p1)).trans p1;have q2:=(hbe.cell (bj p2)).trans p2;have q3:=(hbe.cell (bj p3)).trans p3;have i1:decide ((k:Int)<(l.length:Int))=true:=aC (by omega);have i2:(k:Int)<(l.length:Int):=by omega
   have hts:(l.take (k+1)).any (fun x=>eL x)=(eL x):=by rw[List.take_add_one,hx,List.any_append,hno];simp
   have hmem:x∈l:=List.mem_of_getElem? hx;obtain⟨HTS,HNO⟩:=Cg hts hno;clear hc hx hts hno;have kc:=oH x wr;obtain⟨B,hB⟩:=nmm (eL x);rw[hB] at kc;have HBB:=hid hB;clear hB
   go_wp2_with fail
   refine ag kc ?_;rintro e w2 ⟨rfl,hb2⟩;have b2:=btt hbe hb2;clear kc hb2 hbe;cases B
   ·go_wp2_with fail
    exact⟨⟨k+1,by go_num,by omega,by rw[HTS.out,HBB.out],b2⟩,by simp[RowKit.intOf];omega⟩
   ·go_wp2_with fail
    go_ret
    exact⟨⟨_,rfl,by rw[List.any_eq_true.2 ⟨x,hmem,HBB.out⟩];exact aC (by omega)⟩,b2⟩
  ·obtain rfl:k=l.length:=by omega
   rw[List.take_of_length_le (ah _)] at hno;have HNO:=hid hno;clear hno
   go_wp2_with fail
   go_ret
   exact⟨⟨_,rfl,by rw[HNO.out];rfl⟩,hbe⟩
theorem lP(v:Value)(l:List Ct)(w:World)(h:ig w v l)(hl:l.length≤1000000000):Cr 46 #[v,.func (.func 47) #[] #[]] w (.bool (l.any (fun x=>eL x))):=by
 have k:=oJ v l w h hl;clear h
 go_enter Tryz.func46,Tryz.ntmps46
 go_wp2_with fail
 refine ag k ?_;rintro e w1 ⟨⟨i,rfl,hi⟩,hb⟩;clear k;have HI:=hid hi;clear hi
 go_wp2_with fail
 go_ret
 exact⟨by rw[←HI.out];try rfl,hb⟩
structure BaS (w:World) (m:Mg) (xs:Array Value) (g:Nat) (wx:World):Prop where
 m:Hc wx w.heap.size m.row 32
 res:Hc wx (w.heap.size+1) (Mg.row {}) 32
 x:Hc wx g xs 32
 bel:Bw w wx
 lt:w.heap.size+1<g
theorem BaS.to{w wx wy:World}{m:Mg}{xs:Array Value}{g:Nat}(h:BaS w m xs g wx)(k:Bw wx wy):BaS w m xs g wy:=by
 have f:∀{j:Nat} {y:Obj},wx.heap[j]?=some y→wy.heap[j]?=some y:=fun q=>(bkk k q)
 exact⟨f h.m,f h.res,f h.x,h.bel.trans (k.mono h.bel.size),h.lt⟩
theorem BaS.set{w wx:World}{m:Mg}{xs:Array Value}{g:Nat}(h:BaS w m xs g wx)(k:Nat)(v:Value):BaS w m (xs.setIfInBounds k v) g (wx.setCell ⟨g,k,none⟩ v):=by
 have l:=h.lt;exact⟨(aX wx ⟨g,k,none⟩ v w.heap.size (by show w.heap.size≠g;omega)).trans h.m,(aX wx ⟨g,k,none⟩ v (w.heap.size+1) (by show w.heap.size+1≠g;omega)).trans h.res,cq (i:=k) (u:=v) h.x,h.bel.setCell (p:=⟨g,k,none⟩) (by show w.heap.size≤g;omega) v,l⟩
theorem BaS.as{w wx:World}{m:Mg}{xs ys:Array Value}{g:Nat}(h:BaS w m xs g wx)(e:xs=ys):BaS w m ys g wx:=e▸h
theorem BaS.drew{w wx:World}{m:Mg}{xs:Array Value}{g:Nat}(h:BaS w m xs g wx):BaS w m xs g wx.drew:=⟨h.m,h.res,h.x,h.bel.drew,h.lt⟩
theorem Mg.row_one{w:World}{m:Mg}{l:Ls}(h:MgM w m l):m.ctl.oneCell'=true∧m.filt.oneCell'=true∧m.sel.oneCell'=true∧m.mods.oneCell'=true∧m.attrs.oneCell'=true:=by
 obtain⟨a1,c1,e1⟩:=h.filt.shape;obtain⟨a2,c2,e2,-,-⟩:=h.sel;obtain⟨a3,c3,e3,-,-⟩:=h.mods;obtain⟨a4,c4,e4,-,-⟩:=h.attrs;obtain⟨a5,c5,e5,-,-⟩:=h.ctl;exact⟨by rw[e5];rfl,by rw[e1];rfl,by rw[e2];rfl,by rw[e3];rfl,by rw[e4];rfl⟩
theorem fF{m:Mg}(h:m.ctl.oneCell'=true∧m.filt.oneCell'=true∧m.sel.oneCell'=true∧m.mods.oneCell'=true∧m.attrs.oneCell'=true):(Mg.row (bo m)).all (·.oneCell')=true:=by
 have key:∀(p:Prop) [Decidable p] (a b:Mg),(Mg.row a).all (·.oneCell')=true→(Mg.row b).all (·.oneCell')=true→(Mg.row (if p then a else b)).all (·.oneCell')=true:=fun p _ a b ha hb=>by split<;>assumption
 unfold bo
 repeat' (first|apply key|(simp[Mg.row,h];and_intros<;>rfl))
theorem rt(l:List Md):l.all (fun x=>bB x.1 2)=!(l.any fun x=>!bB x.1 2):=by
 induction l with
 |nil=>rfl
 |cons x r ih=>simp only[List.any_cons,List.all_cons,ih];cases bB x.1 2<;>rfl
theorem sN(m:Mg)(l:Ls)(w:World)(hg:(m.op=0)∨(m.op=2))(hm:MgM w m l)(hl:l.mods.length≤1000000000)
  (kf:m.op=3→∀w':World,Bw w w'→Calls Tryz.prog 70 #[m.filt] w' fun e w2=>e=.returned (.bool (dz l.filt))∧Bw w' w2):
  Cr 43 #[.agg (Mg.row m)] w (.tuple #[.agg (Mg.row (bo m)),.bool (br m l)]):=by
 have H1:=hid (Mg.row_one hm);have km:=fun w' (hb:Bw w w')=>eB m.mods l.mods w' (hm.mods.below hb) hl
 obtain⟨af,cf,hf⟩:=hm.filt.shape;obtain⟨az,cz,hs,-,-⟩:=hm.sel;obtain⟨am,cm,hmo,-,-⟩:=hm.mods;obtain⟨aa,ca,hat,-,-⟩:=hm.attrs;obtain⟨ak,ck,hct,-,-⟩:=hm.ctl;obtain⟨nf,hnf⟩:=nmm l.filt.length;obtain⟨nz,hns⟩:=nmm l.sel.length;obtain⟨nm,hnm⟩:=nmm l.mods.length;obtain⟨na,hna⟩:=nmm l.attrs.length;obtain⟨nk,hnk⟩:=nmm l.ctl.length;rw[hnf] at hf;rw[hns] at hs;rw[hnm] at hmo;rw[hna] at hat;rw[hnk] at hct;rw[hf] at kf;rw[hmo] at km;obtain⟨KM,KF,LF,LS,LM,LA,LC⟩:=Ck km kf hf hs hmo hat hct;clear km hf hs hmo hat hct hnf hns hnm hna hnk;have HG:=hid hg;clear hg;have b1:Bw w ((w.alloc (.cells m.row 32)).alloc (.cells Zm 32)):=((aA _ _).alloc (ah _) _).alloc (by simp) _;have m1:Hc ((w.alloc (.cells m.row 32)).alloc (.cells Zm 32)) w.heap.size m.row 32:=(alloc_old _ _ _ (by simp)).trans (fb _ _ _ rfl);have t1:Hc ((w.alloc (.cells m.row 32)).alloc (.cells Zm 32)) (w.heap.size+1) (Mg.row {}) 32:=fb _ _ _ (by simp);clear hm hl kf
 go_enter Tryz.func43,Tryz.ntmps43
 refine wp_seq ?_;refine aQ ?_
 iterate 2 (refine aB rfl (kkn ?_))
 generalize((w.alloc (.cells m.row 32)).alloc (.cells Zm 32))=w1 at b1 m1 t1⊢;have q0:=cval m1 0 (.int .i64 m.id);have q1:=cval m1 1 (.int .i64 m.op);have q27:=(aq m1 27).trans (show _=some (Value.slice ak nk ck) from by rw[←LC.out];rfl);obtain⟨X0,hX⟩:=nmm (#[.int .i64 m.id,.int .i64 m.op,Es,I0,Bf,Es,I0,I0,I0,I0,Bf,Sn,Sn,Sn,Sn,Es,Es,Bf,Bf,Es,Es,Es,Bf,I0,I0,Es,Es,.slice ak nk ck]:Array Value);obtain⟨HX2,HX3,HX⟩:=Ch (show X0.all (·.oneCell')=true by rw[←hX];simp[Value.oneCell']) (show X0.size=28 by rw[←hX];rfl) hX;clear hX
 go_upto_region 1 with fail
 refine aQ ?_
 iterate 6 (refine aB rfl (kkn ?_))
 refine aB rfl fun K hK=>?_
 go_simp;rw[HX.out];refine hK _ _ ?_;clear hK K
 clear q0 q1 q27;refine aB rfl (kkn ?_);have n2:=alb w1 Zm 32;have b2:=btt b1 n2;have m2:=bkk n2 m1;have t2:=bkk n2 t1;have x2:=alz w1 Zm 32;have hlt:w.heap.size+1<w1.heap.size:=(gl t1);clear b1 m1 t1 n2;generalize w1.alloc (.cells Zm 32)=w2 at b2 m2 t2 x2⊢;generalize w1.heap.size=g at x2 hlt⊢;refine stM (.tmp 4) (.tmp 12) X0 x2 HX3.out HX2.out ?_;have S:BaS w m X0 g (w2.setRow g X0):=⟨(setRow_other w2 g w.heap.size X0 (by omega)).trans m2,(setRow_other w2 g (w.heap.size+1) X0 (by omega)).trans t2,setRow_heap w2 g _ X0 _ _ x2,xo b2 (g:=g) (by omega) X0,hlt⟩;clear b2 m2 t2 x2 HX2 HX3;generalize w2.setRow g X0=wr at S⊢;rw[←HX.out] at S;clear HX;replace S:=S.as (show _=Mg.row ({id:=m.id,op:=m.op,ctl:=.slice ak nk ck}:Mg) from rfl);have q1:=cval S.m 1 (.int .i64 m.op);go_simp;clear q1;refine if h0:m.op=0 then ?A13 else ?B13
 case' A13=>
  have i0:(m.op==0)=true:=by rw[h0];rfl
  have q1:=cval S.m 1 (.int .i64 m.op)
  go_upto_region 5 with fail
  clear q1;refine aR (S:=fun w'=>Hc w' w.heap.size m.row 32) (by kernel_rfl) ?_;replace S:=S.drew
  change wpAnyH _ _ _ _ _ _ _ _ wr.drew
  generalize wr.drew=wr at S⊢;refine tp 0 ⟨w.heap.size,3,none⟩ rfl S.m ?_;refine tn 1 (.int .i64 m.ver) rfl (fun w' hS=>by have q:=cval hS 3 (.int .i64 m.ver);go_simp) S.m ?_;refine tp 2 ⟨w.heap.size,2,none⟩ rfl S.m ?_;refine tn 3 (.string ⟨m.dn.toArray⟩) rfl (fun w' hS=>by have q:=cval hS 2 (.string ⟨m.dn.toArray⟩);go_simp) S.m ?_;refine tp 4 ⟨w.heap.size,4,none⟩ rfl S.m ?_;refine tn 5 (.bool m.sasl) rfl (fun w' hS=>by have q:=cval hS 4 (.bool m.sasl);go_simp) S.m ?_;refine tp 6 ⟨w.heap.size,5,none⟩ rfl S.m ?_;refine tn 7 (.string ⟨m.secret.toArray⟩) rfl (fun w' hS=>by have q:=cval hS 5 (.string ⟨m.secret.toArray⟩);go_simp) S.m ?_;refine tp 8 ⟨g,3,none⟩ rfl S.m ?_;have s:=cval S.x 3 (.int .i64 0);have z:=aj S.x 3;replace S:=(S.set 3 (.int .i64 m.ver)).as (show _=Mg.row ({id:=m.id,op:=m.op,ctl:=.slice ak nk ck,ver:=m.ver}:Mg) from rfl);refine ao 9 rfl (kks S.m ?_);clear s z;generalize wr.setCell ⟨g,3,none⟩ (.int .i64 m.ver)=wr at S⊢;refine tp 10 ⟨g,2,none⟩ rfl S.m ?_;have s:=cval S.x 2 Es;have z:=aj S.x 2;replace S:=(S.set 2 (.string ⟨m.dn.toArray⟩)).as (show _=Mg.row ({id:=m.id,op:=m.op,ctl:=.slice ak nk ck,ver:=m.ver,dn:=m.dn}:Mg) from rfl);refine ao 11 rfl (kks S.m ?_);clear s z;generalize wr.setCell ⟨g,2,none⟩ (.string ⟨m.dn.toArray⟩)=wr at S⊢;refine tp 12 ⟨g,4,none⟩ rfl S.m ?_;have s:=cval S.x 4 Bf;have z:=aj S.x 4;replace S:=(S.set 4 (.bool m.sasl)).as (show _=Mg.row ({id:=m.id,op:=m.op,ctl:=.slice ak nk ck,ver:=m.ver,dn:=m.dn,sasl:=m.sasl}:Mg) from rfl);refine ao 13 rfl (kks S.m ?_);clear s z;generalize wr.setCell ⟨g,4,none⟩ (.bool m.sasl)=wr at S⊢;refine tp 14 ⟨g,5,none⟩ rfl S.m ?_;have s:=cval S.x 5 Es;have z:=aj S.x 5;replace S:=(S.set 5 (.string ⟨m.secret.toArray⟩)).as (show _=Mg.row ({id:=m.id,op:=m.op,ctl:=.slice ak nk ck,ver:=m.ver,dn:=m.dn,sasl:=m.sasl,secret:=m.secret}:Mg) from rfl);refine ao 15 rfl (kks S.m ?_);clear s z;generalize wr.setCell ⟨g,5,none⟩ (.string ⟨m.secret.toArray⟩)=wr at S⊢;refine xk (by kernel_rfl) ?_ _
  try simp only[Exit.then]
  refine‹∀(a:Act) (w:World),Code.wp _ _ _ a w→_› _ _ ?_;refine if k1:1≤m.ver then ?A12 else ?B12
  case' A12=>
   refine if k2:m.ver≤127 then ?A11 else ?B11
   case' A11=>
    have f0:decide (m.ver≥1)=true:=aC k1;have f2:decide (1≤m.ver)=true:=aC k1;have f1:decide (m.ver≤127)=true:=aC k2;have q3:=cval S.m 3 (.int .i64 m.ver)
    go_upto_region 36 with fail
    clear q3;replace S:=S.as (show _=Mg.row (bo m) from by rw[bo,if_pos h0];simp only[Mg.row, LC.out]);have HK:=hid (show br m l=true from by rw[br,if_pos h0];simp[k1,k2])
   case' B11=>
    have f0:decide (m.ver≥1)=true:=aC k1;have f2:decide (1≤m.ver)=true:=aC k1;have f1:decide (m.ver≤127)=false:=an k2;have q3:=cval S.m 3 (.int .i64 m.ver)
    go_upto_region 36 with fail
    clear q3;replace S:=S.as (show _=Mg.row (bo m) from by rw[bo,if_pos h0];simp only[Mg.row, LC.out]);have HK:=hid (show br m l=false from by rw[br,if_pos h0];simp[k1,k2])
  case' B12=>
   have f0:decide (m.ver≥1)=false:=an k1;have f2:decide (1≤m.ver)=false:=an k1;have q3:=cval S.m 3 (.int .i64 m.ver)
   go_upto_region 36 with fail
   clear q3;replace S:=S.as (show _=Mg.row (bo m) from by rw[bo,if_pos h0];simp only[Mg.row, LC.out]);have HK:=hid (show br m l=false from by rw[br,if_pos h0];simp[k1])
 case' B13=>
  have i0:(m.op==0)=false:=aE h0;have h2:m.op=2:=by have:=HG.out;omega
  clear HG;have i2:(m.op==2)=true:=by rw[h2];rfl
  have q1:=cval S.m 1 (.int .i64 m.op)
  go_upto_region 36 with fail
  clear q1;have h3:¬m.op=3:=by omega
  have h6:¬m.op=6:=by omega
  have h8:¬(m.op=8∨m.op=4):=by omega
  have h10:¬m.op=10:=by omega
  have h12:¬m.op=12:=by omega
  have h14:¬m.op=14:=by omega
  have h16:¬m.op=16:=by omega
  have h23:¬m.op=23:=by omega
  have h24:¬m.op=24:=by omega
  have hc:¬ez.contains m.op=true:=by rw[h2];decide
  replace S:=S.as (show _=Mg.row (bo m) from by rw[bo,if_neg h0,if_neg h3,if_neg h6,if_neg h8,if_neg h10,if_neg h12,if_neg h14,if_neg h16,if_neg h23,if_neg h24,if_neg hc];simp only[Mg.row, LC.out]);have HK:=hid (show br m l=true from by rw[br,if_neg h0,if_pos h2])
 all_goals
  have one:=fF H1.out;obtain⟨X,hX⟩:=nmm (Mg.row (bo m));have hX2:X.size=28:=by rw[←hX];rfl
  rw[hX] at S one;obtain⟨HX,HX2,ONE⟩:=Ch hX hX2 one;have x:=S.x;have t:=S.res;obtain⟨b60,t60⟩:=Cg (xo S.bel (g:=w.heap.size+1) (by omega) X) (setRow_heap wr (w.heap.size+1) _ X _ _ S.res);clear hX hX2 one S H1 KM KF;refine aQ ?_;refine ldM (.tmp 4) x HX2.out ?_;refine aB rfl (kkn ?_);refine stM (.tmp 2) (.tmp 231) X t HX2.out ONE.out ?_;have b60:=b60.out;have t60:=t60.out;generalize wr.setRow (w.heap.size+1) X=w60 at b60 t60⊢;clear x t;go_simp
  go_wp2_with fail
  refine aH (v:=.tuple #[.agg X,.bool (br m l)]) ?_ rfl ⟨by rw[HX.out],b60⟩;have hr:=rlM t60 HX2.out;rw[HK.out]
  simp[results,Tryz.f43]
  show((Sem.run Tryz.prog (loadVar 32 ⟨w.heap.size+1,0,none⟩) w60).andThen _)=_;rw[hr]
  simp
theorem sO(m:Mg)(l:Ls)(w:World)(h0:¬(m.op=0))(h2:¬(m.op=2))(hg:(m.op=3))(hm:MgM w m l)(hl:l.mods.length≤1000000000)
  (kf:m.op=3→∀w':World,Bw w w'→Calls Tryz.prog 70 #[m.filt] w' fun e w2=>e=.returned (.bool (dz l.filt))∧Bw w' w2):
  Cr 43 #[.agg (Mg.row m)] w (.tuple #[.agg (Mg.row (bo m)),.bool (br m l)]):=by
 have H1:=hid (Mg.row_one hm);have km:=fun w' (hb:Bw w w')=>eB m.mods l.mods w' (hm.mods.below hb) hl
 obtain⟨af,cf,hf⟩:=hm.filt.shape;obtain⟨az,cz,hs,-,-⟩:=hm.sel;obtain⟨am,cm,hmo,-,-⟩:=hm.mods;obtain⟨aa,ca,hat,-,-⟩:=hm.attrs;obtain⟨ak,ck,hct,-,-⟩:=hm.ctl;obtain⟨nf,hnf⟩:=nmm l.filt.length;obtain⟨nz,hns⟩:=nmm l.sel.length;obtain⟨nm,hnm⟩:=nmm l.mods.length;obtain⟨na,hna⟩:=nmm l.attrs.length;obtain⟨nk,hnk⟩:=nmm l.ctl.length;rw[hnf] at hf;rw[hns] at hs;rw[hnm] at hmo;rw[hna] at hat;rw[hnk] at hct;rw[hf] at kf;rw[hmo] at km;obtain⟨KM,KF,LF,LS,LM,LA,LC⟩:=Ck km kf hf hs hmo hat hct;clear km hf hs hmo hat hct hnf hns hnm hna hnk;have HG:=hid hg;clear hg;have b1:Bw w ((w.alloc (.cells m.row 32)).alloc (.cells Zm 32)):=((aA _ _).alloc (ah _) _).alloc (by simp) _;have m1:Hc ((w.alloc (.cells m.row 32)).alloc (.cells Zm 32)) w.heap.size m.row 32:=(alloc_old _ _ _ (by simp)).trans (fb _ _ _ rfl);have t1:Hc ((w.alloc (.cells m.row 32)).alloc (.cells Zm 32)) (w.heap.size+1) (Mg.row {}) 32:=fb _ _ _ (by simp);clear hm hl kf
 go_enter Tryz.func43,Tryz.ntmps43
 refine wp_seq ?_;refine aQ ?_
 iterate 2 (refine aB rfl (kkn ?_))
 generalize((w.alloc (.cells m.row 32)).alloc (.cells Zm 32))=w1 at b1 m1 t1⊢;have q0:=cval m1 0 (.int .i64 m.id);have q1:=cval m1 1 (.int .i64 m.op);have q27:=(aq m1 27).trans (show _=some (Value.slice ak nk ck) from by rw[←LC.out];rfl);obtain⟨X0,hX⟩:=nmm (#[.int .i64 m.id,.int .i64 m.op,Es,I0,Bf,Es,I0,I0,I0,I0,Bf,Sn,Sn,Sn,Sn,Es,Es,Bf,Bf,Es,Es,Es,Bf,I0,I0,Es,Es,.slice ak nk ck]:Array Value);obtain⟨HX2,HX3,HX⟩:=Ch (show X0.all (·.oneCell')=true by rw[←hX];simp[Value.oneCell']) (show X0.size=28 by rw[←hX];rfl) hX;clear hX
 go_upto_region 1 with fail
 refine aQ ?_
 iterate 6 (refine aB rfl (kkn ?_))
 refine aB rfl fun K hK=>?_
 go_simp;rw[HX.out];refine hK _ _ ?_;clear hK K
 clear q0 q1 q27;refine aB rfl (kkn ?_);have n2:=alb w1 Zm 32;have b2:=btt b1 n2;have m2:=bkk n2 m1;have t2:=bkk n2 t1;have x2:=alz w1 Zm 32;have hlt:w.heap.size+1<w1.heap.size:=(gl t1);clear b1 m1 t1 n2;generalize w1.alloc (.cells Zm 32)=w2 at b2 m2 t2 x2⊢;generalize w1.heap.size=g at x2 hlt⊢;refine stM (.tmp 4) (.tmp 12) X0 x2 HX3.out HX2.out ?_;have S:BaS w m X0 g (w2.setRow g X0):=⟨(setRow_other w2 g w.heap.size X0 (by omega)).trans m2,(setRow_other w2 g (w.heap.size+1) X0 (by omega)).trans t2,setRow_heap w2 g _ X0 _ _ x2,xo b2 (g:=g) (by omega) X0,hlt⟩;clear b2 m2 t2 x2 HX2 HX3;generalize w2.setRow g X0=wr at S⊢;rw[←HX.out] at S;clear HX;replace S:=S.as (show _=Mg.row ({id:=m.id,op:=m.op,ctl:=.slice ak nk ck}:Mg) from rfl);have q1:=cval S.m 1 (.int .i64 m.op);go_simp;clear q1;have i0:(m.op==0)=false:=aE h0;have i2:(m.op==2)=false:=aE h2;have h3:m.op=3:=by have:=HG.out;omega
 clear HG;have i3:(m.op==3)=true:=by rw[h3];rfl
 have q1:=cval S.m 1 (.int .i64 m.op)
 go_upto_region 9 with fail
 clear q1;refine aR (S:=fun w'=>Hc w' w.heap.size m.row 32) (by kernel_rfl) ?_;replace S:=S.drew
 change wpAnyH _ _ _ _ _ _ _ _ wr.drew
 generalize wr.drew=wr at S⊢;refine tp 0 ⟨w.heap.size,2,none⟩ rfl S.m ?_;refine tn 1 (.string ⟨m.dn.toArray⟩) rfl (fun w' hS=>by have q:=cval hS 2 (.string ⟨m.dn.toArray⟩);go_simp) S.m ?_;refine tp 2 ⟨w.heap.size,6,none⟩ rfl S.m ?_;refine tn 3 (.int .i64 m.scope) rfl (fun w' hS=>by have q:=cval hS 6 (.int .i64 m.scope);go_simp) S.m ?_;refine tp 4 ⟨w.heap.size,7,none⟩ rfl S.m ?_;refine tn 5 (.int .i64 m.deref) rfl (fun w' hS=>by have q:=cval hS 7 (.int .i64 m.deref);go_simp) S.m ?_;refine tp 6 ⟨w.heap.size,8,none⟩ rfl S.m ?_;refine tn 7 (.int .i64 m.size) rfl (fun w' hS=>by have q:=cval hS 8 (.int .i64 m.size);go_simp) S.m ?_;refine tp 8 ⟨w.heap.size,9,none⟩ rfl S.m ?_;refine tn 9 (.int .i64 m.time) rfl (fun w' hS=>by have q:=cval hS 9 (.int .i64 m.time);go_simp) S.m ?_;refine tp 10 ⟨g,2,none⟩ rfl S.m ?_;have s:=cval S.x 2 Es;have z:=aj S.x 2;replace S:=(S.set 2 (.string ⟨m.dn.toArray⟩)).as (show _=Mg.row ({id:=m.id,op:=m.op,ctl:=.slice ak nk ck,dn:=m.dn}:Mg) from rfl);refine ao 11 rfl (kks S.m ?_);clear s z;generalize wr.setCell ⟨g,2,none⟩ (.string ⟨m.dn.toArray⟩)=wr at S⊢;refine tp 12 ⟨g,6,none⟩ rfl S.m ?_;have s:=cval S.x 6 (.int .i64 0);have z:=aj S.x 6;replace S:=(S.set 6 (.int .i64 m.scope)).as (show _=Mg.row ({id:=m.id,op:=m.op,ctl:=.slice ak nk ck,dn:=m.dn,scope:=m.scope}:Mg) from rfl);refine ao 13 rfl (kks S.m ?_);clear s z;generalize wr.setCell ⟨g,6,none⟩ (.int .i64 m.scope)=wr at S⊢;refine tp 14 ⟨g,7,none⟩ rfl S.m ?_;have s:=cval S.x 7 (.int .i64 0);have z:=aj S.x 7;replace S:=(S.set 7 (.int .i64 m.deref)).as (show _=Mg.row ({id:=m.id,op:=m.op,ctl:=.slice ak nk ck,dn:=m.dn,scope:=m.scope,deref:=m.deref}:Mg) from rfl);refine ao 15 rfl (kks S.m ?_);clear s z;generalize wr.setCell ⟨g,7,none⟩ (.int .i64 m.deref)=wr at S⊢;refine tp 16 ⟨g,8,none⟩ rfl S.m ?_;have s:=cval S.x 8 (.int .i64 0);have z:=aj S.x 8;replace S:=(S.set 8 (.int .i64 m.size)).as (show _=Mg.row ({id:=m.id,op:=m.op,ctl:=.slice ak nk ck,dn:=m.dn,scope:=m.scope,deref:=m.deref,size:=m.size}:Mg) from rfl);refine ao 17 rfl (kks S.m ?_);clear s z;generalize wr.setCell ⟨g,8,none⟩ (.int .i64 m.size)=wr at S⊢;refine tp 18 ⟨g,9,none⟩ rfl S.m ?_;have s:=cval S.x 9 (.int .i64 0);have z:=aj S.x 9;replace S:=(S.set 9 (.int .i64 m.time)).as (show _=Mg.row ({id:=m.id,op:=m.op,ctl:=.slice ak nk ck,dn:=m.dn,scope:=m.scope,deref:=m.deref,size:=m.size,time:=m.time}:Mg) from rfl);refine ao 19 rfl (kks S.m ?_);clear s z;generalize wr.setCell ⟨g,9,none⟩ (.int .i64 m.time)=wr at S⊢;refine xk (by kernel_rfl) ?_ _
 try simp only[Exit.then]
 refine‹∀(a:Act) (w:World),Code.wp _ _ _ a w→_› _ _ ?_
 go_upto_region 10 with fail
 refine aR (S:=fun w'=>Hc w' w.heap.size m.row 32) (by kernel_rfl) ?_;replace S:=S.drew
 change wpAnyH _ _ _ _ _ _ _ _ wr.drew
 generalize wr.drew=wr at S⊢;refine tp 0 ⟨w.heap.size,10,none⟩ rfl S.m ?_;refine tn 1 (.bool m.types) rfl (fun w' hS=>by have q:=cval hS 10 (.bool m.types);go_simp) S.m ?_;refine tp 2 ⟨w.heap.size,11,none⟩ rfl S.m ?_;refine tn 3 (.slice af nf cf) rfl (fun w' hS=>by have q:=(aq hS 11).trans (show _=some (.slice af nf cf:Value) from by rw[←LF.out];rfl);go_simp) S.m ?_;refine tp 4 ⟨w.heap.size,12,none⟩ rfl S.m ?_;refine tn 5 (.slice az nz cz) rfl (fun w' hS=>by have q:=(aq hS 12).trans (show _=some (.slice az nz cz:Value) from by rw[←LS.out];rfl);go_simp) S.m ?_;refine tp 6 ⟨g,10,none⟩ rfl S.m ?_;have s:=cval S.x 10 Bf;have z:=aj S.x 10;replace S:=(S.set 10 (.bool m.types)).as (show _=Mg.row ({id:=m.id,op:=m.op,ctl:=.slice ak nk ck,dn:=m.dn,scope:=m.scope,deref:=m.deref,size:=m.size,time:=m.time,types:=m.types}:Mg) from rfl);refine ao 7 rfl (kks S.m ?_);clear s z;generalize wr.setCell ⟨g,10,none⟩ (.bool m.types)=wr at S⊢;refine tp 8 ⟨g,11,none⟩ rfl S.m ?_;have s:=cval S.x 11 Sn;have z:=aj S.x 11;replace S:=(S.set 11 (.slice af nf cf)).as (show _=Mg.row ({id:=m.id,op:=m.op,ctl:=.slice ak nk ck,dn:=m.dn,scope:=m.scope,deref:=m.deref,size:=m.size,time:=m.time,types:=m.types,filt:=.slice af nf cf}:Mg) from rfl);refine ao 9 rfl (kks S.m ?_);clear s z;generalize wr.setCell ⟨g,11,none⟩ (.slice af nf cf)=wr at S⊢;refine tp 10 ⟨g,12,none⟩ rfl S.m ?_;have s:=cval S.x 12 Sn;have z:=aj S.x 12;replace S:=(S.set 12 (.slice az nz cz)).as (show _=Mg.row ({id:=m.id,op:=m.op,ctl:=.slice ak nk ck,dn:=m.dn,scope:=m.scope,deref:=m.deref,size:=m.size,time:=m.time,types:=m.types,filt:=.slice af nf cf,sel:=.slice az nz cz}:Mg) from rfl);refine ao 11 rfl (kks S.m ?_);clear s z;generalize wr.setCell ⟨g,12,none⟩ (.slice az nz cz)=wr at S⊢;refine xk (by kernel_rfl) ?_ _
 try simp only[Exit.then]
 refine‹∀(a:Act) (w:World),Code.wp _ _ _ a w→_› _ _ ?_;have q6:=cval S.m 6 (.int .i64 m.scope);have q7:=cval S.m 7 (.int .i64 m.deref);have q8:=cval S.m 8 (.int .i64 m.size);have q9:=cval S.m 9 (.int .i64 m.time);have q11:=(aq S.m 11).trans (show _=some (.slice af nf cf:Value) from by rw[←LF.out];rfl);refine if r0:bB m.scope 2=true then ?A17 else ?B17
 case' A17=>
  have kc:=dA m.scope 2 wr;rw[r0] at kc
  go_wp2_with fail
  refine ag kc ?_;rintro e w' ⟨rfl,hw'⟩;obtain rfl:=hw'.symm;clear kc;refine if r1:bB m.deref 3=true then ?A16 else ?B16
  case' A16=>
   have kc:=dA m.deref 3 wr;rw[r1] at kc
   go_wp2_with fail
   refine ag kc ?_;rintro e w' ⟨rfl,hw'⟩;obtain rfl:=hw'.symm;clear kc;refine if r2:bB m.size 2147483647=true then ?A15 else ?B15
   case' A15=>
    have kc:=dA m.size 2147483647 wr;rw[r2] at kc
    go_wp2_with fail
    refine ag kc ?_;rintro e w' ⟨rfl,hw'⟩;obtain rfl:=hw'.symm;clear kc;refine if r3:bB m.time 2147483647=true then ?A14 else ?B14
    case' A14=>
     have kc:=dA m.time 2147483647 wr;rw[r3] at kc
     go_wp2_with fail
     refine ag kc ?_;rintro e w' ⟨rfl,hw'⟩;obtain rfl:=hw'.symm;clear kc;have kc:=KF.out h3 wr S.bel
     go_wp2_with fail
     refine ag kc ?_;rintro e w' ⟨rfl,hb⟩;replace S:=S.to hb;clear kc hb;generalize w'=wr at S⊢;clear q6 q7 q8 q9 q11
     go_upto_region 36 with fail
     replace S:=S.as (show _=Mg.row (bo m) from by rw[bo,if_neg h0,if_pos h3];simp only[Mg.row,LF.out,LS.out, LC.out]);have HK:=hid (show br m l=dz l.filt from by rw[br,if_neg h0,if_neg h2,if_pos h3];simp[r0,r1,r2,r3])
    case' B14=>
     replace r3:bB m.time 2147483647=false:=Bool.eq_false_iff.2 r3;have kc:=dA m.time 2147483647 wr;rw[r3] at kc
     go_wp2_with fail
     refine ag kc ?_;rintro e w' ⟨rfl,hw'⟩;obtain rfl:=hw'.symm;clear kc
     go_upto_region 36 with fail
     clear q6 q7 q8 q9 q11;replace S:=S.as (show _=Mg.row (bo m) from by rw[bo,if_neg h0,if_pos h3];simp only[Mg.row,LF.out,LS.out, LC.out]);have HK:=hid (show br m l=false from by rw[br,if_neg h0,if_neg h2,if_pos h3];simp[r0,r1,r2,r3])
   case' B15=>
    replace r2:bB m.size 2147483647=false:=Bool.eq_false_iff.2 r2;have kc:=dA m.size 2147483647 wr;rw[r2] at kc
    go_wp2_with fail
    refine ag kc ?_;rintro e w' ⟨rfl,hw'⟩;obtain rfl:=hw'.symm;clear kc
    go_upto_region 36 with fail
    clear q6 q7 q8 q9 q11;replace S:=S.as (show _=Mg.row (bo m) from by rw[bo,if_neg h0,if_pos h3];simp only[Mg.row,LF.out,LS.out, LC.out]);have HK:=hid (show br m l=false from by rw[br,if_neg h0,if_neg h2,if_pos h3];simp[r0,r1,r2])
  case' B16=>
   replace r1:bB m.deref 3=false:=Bool.eq_false_iff.2 r1;have kc:=dA m.deref 3 wr;rw[r1] at kc
   go_wp2_with fail
   refine ag kc ?_;rintro e w' ⟨rfl,hw'⟩;obtain rfl:=hw'.symm;clear kc
   go_upto_region 36 with fail
   clear q6 q7 q8 q9 q11;replace S:=S.as (show _=Mg.row (bo m) from by rw[bo,if_neg h0,if_pos h3];simp only[Mg.row,LF.out,LS.out, LC.out]);have HK:=hid (show br m l=false from by rw[br,if_neg h0,if_neg h2,if_pos h3];simp[r0,r1])
 case' B17=>
  replace r0:bB m.scope 2=false:=Bool.eq_false_iff.2 r0;have kc:=dA m.scope 2 wr;rw[r0] at kc
  go_wp2_with fail
  refine ag kc ?_;rintro e w' ⟨rfl,hw'⟩;obtain rfl:=hw'.symm;clear kc
  go_upto_region 36 with fail
  clear q6 q7 q8 q9 q11;replace S:=S.as (show _=Mg.row (bo m) from by rw[bo,if_neg h0,if_pos h3];simp only[Mg.row,LF.out,LS.out, LC.out]);have HK:=hid (show br m l=false from by rw[br,if_neg h0,if_neg h2,if_pos h3];simp[r0])
 all_goals
  have one:=fF H1.out;obtain⟨X,hX⟩:=nmm (Mg.row (bo m));have hX2:X.size=28:=by rw[←hX];rfl
  rw[hX] at S one;obtain⟨HX,HX2,ONE⟩:=Ch hX hX2 one;have x:=S.x;have t:=S.res;obtain⟨b60,t60⟩:=Cg (xo S.bel (g:=w.heap.size+1) (by omega) X) (setRow_heap wr (w.heap.size+1) _ X _ _ S.res);clear hX hX2 one S H1 KM KF;refine aQ ?_;refine ldM (.tmp 4) x HX2.out ?_;refine aB rfl (kkn ?_);refine stM (.tmp 2) (.tmp 231) X t HX2.out ONE.out ?_;have b60:=b60.out;have t60:=t60.out;generalize wr.setRow (w.heap.size+1) X=w60 at b60 t60⊢;clear x t;go_simp
  go_wp2_with fail
  refine aH (v:=.tuple #[.agg X,.bool (br m l)]) ?_ rfl ⟨by rw[HX.out],b60⟩;have hr:=rlM t60 HX2.out;rw[HK.out]
  simp[results,Tryz.f43]
  show((Sem.run Tryz.prog (loadVar 32 ⟨w.heap.size+1,0,none⟩) w60).andThen _)=_;rw[hr]
  simp
theorem sP(m:Mg)(l:Ls)(w:World)(h0:¬(m.op=0))(h2:¬(m.op=2))(h3:¬(m.op=3))(hg:(m.op=6)∨(m.op=8∨m.op=4))(hm:MgM w m l)(hl:l.mods.length≤1000000000)
  (kf:m.op=3→∀w':World,Bw w w'→Calls Tryz.prog 70 #[m.filt] w' fun e w2=>e=.returned (.bool (dz l.filt))∧Bw w' w2):
  Cr 43 #[.agg (Mg.row m)] w (.tuple #[.agg (Mg.row (bo m)),.bool (br m l)]):=by
 have H1:=hid (Mg.row_one hm);have km:=fun w' (hb:Bw w w')=>eB m.mods l.mods w' (hm.mods.below hb) hl
 obtain⟨af,cf,hf⟩:=hm.filt.shape;obtain⟨az,cz,hs,-,-⟩:=hm.sel;obtain⟨am,cm,hmo,-,-⟩:=hm.mods;obtain⟨aa,ca,hat,-,-⟩:=hm.attrs;obtain⟨ak,ck,hct,-,-⟩:=hm.ctl;obtain⟨nf,hnf⟩:=nmm l.filt.length;obtain⟨nz,hns⟩:=nmm l.sel.length;obtain⟨nm,hnm⟩:=nmm l.mods.length;obtain⟨na,hna⟩:=nmm l.attrs.length;obtain⟨nk,hnk⟩:=nmm l.ctl.length;rw[hnf] at hf;rw[hns] at hs;rw[hnm] at hmo;rw[hna] at hat;rw[hnk] at hct;rw[hf] at kf;rw[hmo] at km;obtain⟨KM,KF,LF,LS,LM,LA,LC⟩:=Ck km kf hf hs hmo hat hct;clear km hf hs hmo hat hct hnf hns hnm hna hnk;have HG:=hid hg;clear hg;have b1:Bw w ((w.alloc (.cells m.row 32)).alloc (.cells Zm 32)):=((aA _ _).alloc (ah _) _).alloc (by simp) _;have m1:Hc ((w.alloc (.cells m.row 32)).alloc (.cells Zm 32)) w.heap.size m.row 32:=(alloc_old _ _ _ (by simp)).trans (fb _ _ _ rfl);have t1:Hc ((w.alloc (.cells m.row 32)).alloc (.cells Zm 32)) (w.heap.size+1) (Mg.row {}) 32:=fb _ _ _ (by simp);clear hm hl kf
 go_enter Tryz.func43,Tryz.ntmps43
 refine wp_seq ?_;refine aQ ?_
 iterate 2 (refine aB rfl (kkn ?_))
 generalize((w.alloc (.cells m.row 32)).alloc (.cells Zm 32))=w1 at b1 m1 t1⊢;have q0:=cval m1 0 (.int .i64 m.id);have q1:=cval m1 1 (.int .i64 m.op);have q27:=(aq m1 27).trans (show _=some (Value.slice ak nk ck) from by rw[←LC.out];rfl);obtain⟨X0,hX⟩:=nmm (#[.int .i64 m.id,.int .i64 m.op,Es,I0,Bf,Es,I0,I0,I0,I0,Bf,Sn,Sn,Sn,Sn,Es,Es,Bf,Bf,Es,Es,Es,Bf,I0,I0,Es,Es,.slice ak nk ck]:Array Value);obtain⟨HX2,HX3,HX⟩:=Ch (show X0.all (·.oneCell')=true by rw[←hX];simp[Value.oneCell']) (show X0.size=28 by rw[←hX];rfl) hX;clear hX
 go_upto_region 1 with fail
 refine aQ ?_
 iterate 6 (refine aB rfl (kkn ?_))
 refine aB rfl fun K hK=>?_
 go_simp;rw[HX.out];refine hK _ _ ?_;clear hK K
 clear q0 q1 q27;refine aB rfl (kkn ?_);have n2:=alb w1 Zm 32;have b2:=btt b1 n2;have m2:=bkk n2 m1;have t2:=bkk n2 t1;have x2:=alz w1 Zm 32;have hlt:w.heap.size+1<w1.heap.size:=(gl t1);clear b1 m1 t1 n2;generalize w1.alloc (.cells Zm 32)=w2 at b2 m2 t2 x2⊢;generalize w1.heap.size=g at x2 hlt⊢;refine stM (.tmp 4) (.tmp 12) X0 x2 HX3.out HX2.out ?_;have S:BaS w m X0 g (w2.setRow g X0):=⟨(setRow_other w2 g w.heap.size X0 (by omega)).trans m2,(setRow_other w2 g (w.heap.size+1) X0 (by omega)).trans t2,setRow_heap w2 g _ X0 _ _ x2,xo b2 (g:=g) (by omega) X0,hlt⟩;clear b2 m2 t2 x2 HX2 HX3;generalize w2.setRow g X0=wr at S⊢;rw[←HX.out] at S;clear HX;replace S:=S.as (show _=Mg.row ({id:=m.id,op:=m.op,ctl:=.slice ak nk ck}:Mg) from rfl);have q1:=cval S.m 1 (.int .i64 m.op);go_simp;clear q1;have i0:(m.op==0)=false:=aE h0;have i2:(m.op==2)=false:=aE h2;have i3:(m.op==3)=false:=aE h3;refine if h6:m.op=6 then ?A18 else ?B18
 case' A18=>
  have i6:(m.op==6)=true:=by rw[h6];rfl
  have q1:=cval S.m 1 (.int .i64 m.op)
  go_upto_region 13 with fail
  clear q1;refine aR (S:=fun w'=>Hc w' w.heap.size m.row 32) (by kernel_rfl) ?_;replace S:=S.drew
  change wpAnyH _ _ _ _ _ _ _ _ wr.drew
  generalize wr.drew=wr at S⊢;refine tp 0 ⟨w.heap.size,2,none⟩ rfl S.m ?_;refine tn 1 (.string ⟨m.dn.toArray⟩) rfl (fun w' hS=>by have q:=cval hS 2 (.string ⟨m.dn.toArray⟩);go_simp) S.m ?_;refine tp 2 ⟨w.heap.size,13,none⟩ rfl S.m ?_;refine tn 3 (.slice am nm cm) rfl (fun w' hS=>by have q:=(aq hS 13).trans (show _=some (.slice am nm cm:Value) from by rw[←LM.out];rfl);go_simp) S.m ?_;refine tp 4 ⟨g,2,none⟩ rfl S.m ?_;have s:=cval S.x 2 Es;have z:=aj S.x 2;replace S:=(S.set 2 (.string ⟨m.dn.toArray⟩)).as (show _=Mg.row ({id:=m.id,op:=m.op,ctl:=.slice ak nk ck,dn:=m.dn}:Mg) from rfl);refine ao 5 rfl (kks S.m ?_);clear s z;generalize wr.setCell ⟨g,2,none⟩ (.string ⟨m.dn.toArray⟩)=wr at S⊢;refine tp 6 ⟨g,13,none⟩ rfl S.m ?_;have s:=cval S.x 13 Sn;have z:=aj S.x 13;replace S:=(S.set 13 (.slice am nm cm)).as (show _=Mg.row ({id:=m.id,op:=m.op,ctl:=.slice ak nk ck,dn:=m.dn,mods:=.slice am nm cm}:Mg) from rfl);refine ao 7 rfl (kks S.m ?_);clear s z;generalize wr.setCell ⟨g,13,none⟩ (.slice am nm cm)=wr at S⊢;refine xk (by kernel_rfl) ?_ _
  try simp only[Exit.then]
  refine‹∀(a:Act) (w:World),Code.wp _ _ _ a w→_› _ _ ?_;have q13:=(aq S.m 13).trans (show _=some (.slice am nm cm:Value) from by rw[←LM.out];rfl);have kc:=KM.out wr S.bel
  go_wp2_with fail
  refine ag kc ?_;rintro e w' ⟨rfl,hb⟩;replace S:=S.to hb;clear kc hb q13;generalize w'=wr at S⊢
  go_upto_region 36 with fail
  replace S:=S.as (show _=Mg.row (bo m) from by rw[bo,if_neg h0,if_neg h3,if_pos h6];simp only[Mg.row, LM.out, LC.out]);have HK:=hid (show br m l=(!(l.mods.any fun x=>!bB x.1 2)) from by rw[br,if_neg h0,if_neg h2,if_neg h3,if_pos h6];exact rt l.mods)
 case' B18=>
  have i6:(m.op==6)=false:=aE h6;have h8:m.op=8∨m.op=4:=by have:=HG.out;omega
  clear HG;have q1:=cval S.m 1 (.int .i64 m.op);have aO:=alz wr #[.int .i64 8,.int .i64 4] 3;have kc:=xB m.op wr.heap.size [8,4] (wr.alloc (.cells #[.int .i64 8,.int .i64 4] 3)) (by simp) (fun j hj=>by
   have h2:j<2:=hj;have hcases:j=0∨j=1:=by omega
   rcases hcases with rfl|rfl
   ·exact(aq aO 0).trans rfl
   ·exact(aq aO 1).trans rfl)
  rw[show([8,4]:List Int).contains m.op=true from by rcases h8 with h|h<;>rw[h]<;>rfl] at kc;have S2:=S.to ((aA wr.heap.size wr).alloc (ah _) (.cells #[.int .i64 8,.int .i64 4] 3));clear aO
  go_wp2_with fail
  clear q1 S;generalize(wr.alloc (.cells #[.int .i64 8,.int .i64 4] 3))=wr at S2 kc⊢;refine ag kc ?_;rintro e w' ⟨rfl,hw'⟩;obtain rfl:=hw'.symm;clear kc;have S:=S2;clear S2
  go_upto_region 16 with fail
  refine aR (S:=fun w'=>Hc w' w.heap.size m.row 32) (by kernel_rfl) ?_;replace S:=S.drew
  change wpAnyH _ _ _ _ _ _ _ _ wr.drew
  generalize wr.drew=wr at S⊢;refine tp 0 ⟨w.heap.size,2,none⟩ rfl S.m ?_;refine tn 1 (.string ⟨m.dn.toArray⟩) rfl (fun w' hS=>by have q:=cval hS 2 (.string ⟨m.dn.toArray⟩);go_simp) S.m ?_;refine tp 2 ⟨w.heap.size,14,none⟩ rfl S.m ?_;refine tn 3 (.slice aa na ca) rfl (fun w' hS=>by have q:=(aq hS 14).trans (show _=some (.slice aa na ca:Value) from by rw[←LA.out];rfl);go_simp) S.m ?_;refine tp 4 ⟨g,2,none⟩ rfl S.m ?_;have s:=cval S.x 2 Es;have z:=aj S.x 2;replace S:=(S.set 2 (.string ⟨m.dn.toArray⟩)).as (show _=Mg.row ({id:=m.id,op:=m.op,ctl:=.slice ak nk ck,dn:=m.dn}:Mg) from rfl);refine ao 5 rfl (kks S.m ?_);clear s z;generalize wr.setCell ⟨g,2,none⟩ (.string ⟨m.dn.toArray⟩)=wr at S⊢;refine tp 6 ⟨g,14,none⟩ rfl S.m ?_;have s:=cval S.x 14 Sn;have z:=aj S.x 14;replace S:=(S.set 14 (.slice aa na ca)).as (show _=Mg.row ({id:=m.id,op:=m.op,ctl:=.slice ak nk ck,dn:=m.dn,attrs:=.slice aa na ca}:Mg) from rfl);refine ao 7 rfl (kks S.m ?_);clear s z;generalize wr.setCell ⟨g,14,none⟩ (.slice aa na ca)=wr at S⊢;refine xk (by kernel_rfl) ?_ _
  try simp only[Exit.then]
  refine‹∀(a:Act) (w:World),Code.wp _ _ _ a w→_› _ _ ?_
  go_upto_region 36 with fail
  replace S:=S.as (show _=Mg.row (bo m) from by rw[bo,if_neg h0,if_neg h3,if_neg h6,if_pos h8];simp only[Mg.row, LA.out,LC.out]);have HK:=hid (show br m l=true from by rw[br,if_neg h0,if_neg h2,if_neg h3,if_neg h6,if_pos h8])
 all_goals
  have one:=fF H1.out;obtain⟨X,hX⟩:=nmm (Mg.row (bo m));have hX2:X.size=28:=by rw[←hX];rfl
  rw[hX] at S one;obtain⟨HX,HX2,ONE⟩:=Ch hX hX2 one;have x:=S.x;have t:=S.res;obtain⟨b60,t60⟩:=Cg (xo S.bel (g:=w.heap.size+1) (by omega) X) (setRow_heap wr (w.heap.size+1) _ X _ _ S.res);clear hX hX2 one S H1 KM KF;refine aQ ?_;refine ldM (.tmp 4) x HX2.out ?_;refine aB rfl (kkn ?_);refine stM (.tmp 2) (.tmp 231) X t HX2.out ONE.out ?_;have b60:=b60.out;have t60:=t60.out;generalize wr.setRow (w.heap.size+1) X=w60 at b60 t60⊢;clear x t;go_simp
  go_wp2_with fail
  refine aH (v:=.tuple #[.agg X,.bool (br m l)]) ?_ rfl ⟨by rw[HX.out],b60⟩;have hr:=rlM t60 HX2.out;rw[HK.out]
  simp[results,Tryz.f43]
  show((Sem.run Tryz.prog (loadVar 32 ⟨w.heap.size+1,0,none⟩) w60).andThen _)=_;rw[hr]
  simp
end Go.Proofs.YtfhghdcbofbceaaGreatDoor
