/- SmA, SmB, R9V, R9Va. -/
import Derived.Deep.QuietTactic
import Derived.Deep.MidRow
import Derived.Test.YthjaiigijbjloaaGreatDoorW16
namespace Go.Proofs.YthjaiigijbjloaaGreatDoor
open Go.RowKit Go.Lib
set_option maxRecDepth 100000
set_option maxHeartbeats 16000000
theorem ct.drewN{w:World}{v:Value}{l:List (List UInt8)}(h:ct w v l)(n:Nat):ct (w.drewN n) v l:=h
theorem eG.drewN{w:World}{v:Value}{l:List (List UInt8×List (List UInt8))}(h:eG w v l)(n:Nat):eG (w.drewN n) v l:=h
theorem eY.drewN{w:World}{v:Value}{l:List Md}(h:eY w v l)(n:Nat):eY (w.drewN n) v l:=h
theorem jm(v u:Value)(r q:List (List UInt8))(w:World)(h1:ct w v r)(h2:ct w u q)(hl:r.length≤140737488355328)(_hl2:q.length≤140737488355328):
  Calls Tryz.prog 50 #[v,u] w fun e w'=>e=.returned (.bool (decide (r=q)))∧∃m,w'=w.drewN m:=by
 obtain⟨H1,H2⟩:=Cg h1 h2;obtain⟨a1,c1,rfl,hc1,hx1⟩:=h1;obtain⟨a2,c2,rfl,hc2,hx2⟩:=h2;clear hx1 hx2
 by_cases hlen:r.length=q.length
 ·have hq:((r.length:Int)==(q.length:Int))=true:=by rw[hlen];simp
  generalize hA:decide (r=q)=ANS;have HA:=hid hA;clear hA
  go_enter Tryz.func50,Tryz.ntmps50
  go_wp2_with fail
  go_loopw [5] (fun i wr=>∃k m:Nat,i=.int .i64 (k:Int)∧k≤r.length∧wr=w.drewN m∧decide (r.drop k=q.drop k)=ANS) (fun i _=>r.length -(RowKit.intOf i).toNat)
  case atStart=>exact⟨0,0,rfl,by omega,rfl,HA.out⟩
  case round=>
   obtain⟨k,m,rfl,hk,rfl,hans⟩:=hrel;clear HA
   by_cases hkl:k<r.length
   ·have hkl2:k<q.length:=by omega
    obtain⟨x,hx⟩:=nmm (r[k]);obtain⟨y,hy⟩:=nmm (q[k]);have hxk:r[k]?=some x:=by rw[bp hkl,hx]
    have hyk:q[k]?=some y:=by rw[bp hkl2,hy]
    have hr0:r≠[]:=by intro e;rw[e] at hkl;simp at hkl
    have hq0:q≠[]:=by intro e;rw[e] at hkl2;simp at hkl2
    rw[List.drop_eq_getElem_cons hkl,hx,List.drop_eq_getElem_cons hkl2,hy] at hans;obtain⟨a3,cap3,e3,_,hcell⟩:=H1.out;obtain⟨g,o,ha,hcc⟩:=hcell hr0;obtain⟨a4,cap4,e4,_,hcell4⟩:=H2.out;obtain⟨g',o',ha',hcc'⟩:=hcell4 hq0;cases e3;cases e4;subst ha ha';have p1:=hcc k x hxk;have p2:=hcc' k y hyk;clear hcc hcell hcc' hcell4 hxk hyk hx hy;have i1:(k:Int)<(r.length:Int):=by omega
    have i2:(k:Int)<(q.length:Int):=by omega
    have i3:decide ((k:Int)<(r.length:Int))=true:=aL i1
    by_cases hxy:x=y
    ·subst hxy
     have hans2:decide (r.drop (k+1)=q.drop (k+1))=ANS:=by rw[←hans];exact decide_eq_decide.2 (by simp)
     have HS:=hid hans2;clear hans hans2
     go_wp2
     go_quiet (fail)
     go_wp2
     exact⟨⟨k+1,_,by go_num,by omega,rfl,HS.out⟩,by simp[RowKit.intOf];omega⟩
    ·have e:ANS=false:=by rw[←hans];exact an (fun e=>hxy (aN e).1)
     subst e;clear hans;have b1:(x==y)=false:=by simpa using hxy
     clear hxy
     go_wp2
     go_quiet (fail)
     go_wp2
     go_ret
     exact⟨rfl,_,World.drewN_drewN _ _ _⟩
   ·obtain rfl:k=r.length:=by omega
    have e:ANS=true:=by rw[←hans,List.drop_of_length_le (ah _),hlen,List.drop_of_length_le (ah _)];rfl
    subst e
    go_wp2_with fail
    go_ret
    first|exact⟨rfl,_,rfl⟩|exact⟨rfl,_,World.drewN_drewN _ _ _⟩
 ·have hq:((r.length:Int)==(q.length:Int))=false:=by simpa using(fun e=>hlen (by omega))
  have e:decide (r=q)=false:=an (fun e=>hlen (by rw[e]));rw[e]
  go_enter Tryz.func50,Tryz.ntmps50
  go_wp2_with fail
  go_ret
  exact⟨rfl,0,rfl⟩
theorem mI(v u:Value)(r q:List Md)(w:World)(h1:eY w v r)(h2:eY w u q)(hl:r.length≤140737488355328)(_hl2:q.length≤140737488355328)(hr:∀x∈r,x.2.2.length≤140737488355328)(hq:∀x∈q,x.2.2.length≤140737488355328):
  Calls Tryz.prog 51 #[v,u] w fun e w'=>e=.returned (.bool (decide (r=q)))∧∃m,w'=w.drewN m:=by
 obtain⟨H1,H2,H3,H4⟩:=Ci h1 h2 hr hq;clear hr hq;obtain⟨a1,c1,rfl,hc1,hx1⟩:=h1;obtain⟨a2,c2,rfl,hc2,hx2⟩:=h2;clear hx1 hx2
 by_cases hlen:r.length=q.length
 ·have hq:((r.length:Int)==(q.length:Int))=true:=by rw[hlen];simp
  generalize hA:decide (r=q)=ANS;have HA:=hid hA;clear hA
  go_enter Tryz.func51,Tryz.ntmps51
  go_wp2_with fail
  go_loopw [5] (fun i wr=>∃k m:Nat,i=.int .i64 (k:Int)∧k≤r.length∧wr=w.drewN m∧decide (r.drop k=q.drop k)=ANS) (fun i _=>r.length -(RowKit.intOf i).toNat)
  case atStart=>exact⟨0,0,rfl,by omega,rfl,HA.out⟩
  case round=>
   obtain⟨k,m,rfl,hk,rfl,hans⟩:=hrel;clear HA
   by_cases hkl:k<r.length
   ·have hkl2:k<q.length:=by omega
    obtain⟨x,hx⟩:=nmm (r[k]);obtain⟨y,hy⟩:=nmm (q[k]);have hxk:r[k]?=some x:=by rw[bp hkl,hx]
    have hyk:q[k]?=some y:=by rw[bp hkl2,hy]
    have hr0:r≠[]:=by intro e;rw[e] at hkl;simp at hkl
    have hq0:q≠[]:=by intro e;rw[e] at hkl2;simp at hkl2
    have hxl:=H3.out x (List.mem_of_getElem? hxk);have hyl:=H4.out y (List.mem_of_getElem? hyk);rw[List.drop_eq_getElem_cons hkl,hx,List.drop_eq_getElem_cons hkl2,hy] at hans;obtain⟨a3,cap3,e3,_,hcell⟩:=H1.out;obtain⟨g,o,ha,hcc⟩:=hcell hr0;obtain⟨a4,cap4,e4,_,hcell4⟩:=H2.out;obtain⟨g',o',ha',hcc'⟩:=hcell4 hq0;cases e3;cases e4;subst ha ha';obtain⟨p1,p2,z1,p3,hz1⟩:=hcc k x hxk;obtain⟨r1,r2,z2,r3,hz2⟩:=hcc' k y hyk;clear hcc hcell hcc' hcell4 hxk hyk hx hy;have i1:(k:Int)<(r.length:Int):=by omega
    have i2:(k:Int)<(q.length:Int):=by omega
    have i3:decide ((k:Int)<(r.length:Int))=true:=aL i1;have ks:=fun a=>(jm z1 z2 x.2.2 y.2.2 (w.drewN (m+a)) (hz1.drewN _) (hz2.drewN _) hxl hyl).mono (fun e w'' h=>(show e=.returned (.bool (decide (x.2.2=y.2.2)))∧∃n,w''=w.drewN (m+n) from⟨h.1,h.2.elim fun n hn=>⟨a+n,by rw[hn,World.drewN_drewN,Nat.add_assoc]⟩⟩))
    obtain⟨s1,d1,e5,_,_⟩:=hz1;obtain⟨s2,d2,e6,_,_⟩:=hz2;subst e5 e6
    by_cases ho:x.1=y.1
    ·have b1:(x.1==y.1)=true:=by simpa using ho
     have b1n:(x.1 !=y.1)=false:=by simp[ho]
     by_cases ht:x.2.1=y.2.1
     ·have b2:(x.2.1==y.2.1)=true:=by simpa using ht
      have b2n:(x.2.1 !=y.2.1)=false:=by simp[ht]
      by_cases hv:x.2.2=y.2.2
      ·have hxy:x=y:=Prod.ext ho (Prod.ext ht hv)
       rw[aL hv] at ks;have hans2:decide (r.drop (k+1)=q.drop (k+1))=ANS:=by rw[←hans];exact decide_eq_decide.2 (by simp[hxy])
       have HS:=hid hans2;clear hans hans2 ho ht hv hxy
       go_wp2
       go_quiet (exact ks _)
       go_wp2
       exact⟨⟨k+1,_,by go_num,by omega,rfl,HS.out⟩,by simp[RowKit.intOf];omega⟩
      ·have e:ANS=false:=by rw[←hans];exact an (fun e=>hv (by rw[(aN e).1]))
       subst e;rw[an hv] at ks;clear hans ho ht hv
       go_wp2
       go_quiet (exact ks _)
       go_wp2
       go_ret
       first|exact⟨rfl,_,rfl⟩|exact⟨rfl,_,World.drewN_drewN _ _ _⟩
     ·have b2:(x.2.1==y.2.1)=false:=by simpa using ht
      have b2n:(x.2.1 !=y.2.1)=true:=by simp[ht]
      have e:ANS=false:=by rw[←hans];exact an (fun e=>ht (by rw[(aN e).1]))
      subst e;clear hans ho ht ks
      go_wp2
      go_quiet (fail)
      go_wp2
      go_ret
      first|exact⟨rfl,_,rfl⟩|exact⟨rfl,_,World.drewN_drewN _ _ _⟩
    ·have b1:(x.1==y.1)=false:=by simpa using ho
     have b1n:(x.1 !=y.1)=true:=by simp[ho]
     have e:ANS=false:=by rw[←hans];exact an (fun e=>ho (by rw[(aN e).1]))
     subst e;clear hans ho ks
     go_wp2
     go_quiet (fail)
     go_wp2
     go_ret
     exact⟨rfl,_,World.drewN_drewN _ _ _⟩
   ·obtain rfl:k=r.length:=by omega
    have e:ANS=true:=by rw[←hans,List.drop_of_length_le (ah _),hlen,List.drop_of_length_le (ah _)];rfl
    subst e
    go_wp2_with fail
    go_ret
    first|exact⟨rfl,_,rfl⟩|exact⟨rfl,_,World.drewN_drewN _ _ _⟩
 ·have hq:((r.length:Int)==(q.length:Int))=false:=by simpa using(fun e=>hlen (by omega))
  have e:decide (r=q)=false:=an (fun e=>hlen (by rw[e]));rw[e]
  go_enter Tryz.func51,Tryz.ntmps51
  go_wp2_with fail
  go_ret
  exact⟨rfl,0,rfl⟩
theorem lT(v u:Value)(r q:List (List UInt8×List (List UInt8)))(w:World)(h1:eG w v r)(h2:eG w u q)(hl:r.length≤140737488355328)(_hl2:q.length≤140737488355328)(hr:∀x∈r,x.2.length≤140737488355328)(hq:∀x∈q,x.2.length≤140737488355328):
  Calls Tryz.prog 52 #[v,u] w fun e w'=>e=.returned (.bool (decide (r=q)))∧∃m,w'=w.drewN m:=by
 obtain⟨H1,H2,H3,H4⟩:=Ci h1 h2 hr hq;clear hr hq;obtain⟨a1,c1,rfl,hc1,hx1⟩:=h1;obtain⟨a2,c2,rfl,hc2,hx2⟩:=h2;clear hx1 hx2
 by_cases hlen:r.length=q.length
 ·have hq:((r.length:Int)==(q.length:Int))=true:=by rw[hlen];simp
  generalize hA:decide (r=q)=ANS;have HA:=hid hA;clear hA
  go_enter Tryz.func52,Tryz.ntmps52
  go_wp2_with fail
  go_loopw [5] (fun i wr=>∃k m:Nat,i=.int .i64 (k:Int)∧k≤r.length∧wr=w.drewN m∧decide (r.drop k=q.drop k)=ANS) (fun i _=>r.length -(RowKit.intOf i).toNat)
  case atStart=>exact⟨0,0,rfl,by omega,rfl,HA.out⟩
  case round=>
   obtain⟨k,m,rfl,hk,rfl,hans⟩:=hrel;clear HA
   by_cases hkl:k<r.length
   ·have hkl2:k<q.length:=by omega
    obtain⟨x,hx⟩:=nmm (r[k]);obtain⟨y,hy⟩:=nmm (q[k]);have hxk:r[k]?=some x:=by rw[bp hkl,hx]
    have hyk:q[k]?=some y:=by rw[bp hkl2,hy]
    have hr0:r≠[]:=by intro e;rw[e] at hkl;simp at hkl
    have hq0:q≠[]:=by intro e;rw[e] at hkl2;simp at hkl2
    have hxl:=H3.out x (List.mem_of_getElem? hxk);have hyl:=H4.out y (List.mem_of_getElem? hyk);rw[List.drop_eq_getElem_cons hkl,hx,List.drop_eq_getElem_cons hkl2,hy] at hans;obtain⟨a3,cap3,e3,_,hcell⟩:=H1.out;obtain⟨g,o,ha,hcc⟩:=hcell hr0;obtain⟨a4,cap4,e4,_,hcell4⟩:=H2.out;obtain⟨g',o',ha',hcc'⟩:=hcell4 hq0;cases e3;cases e4;subst ha ha';obtain⟨p1,z1,p3,hz1⟩:=hcc k x hxk;obtain⟨r1,z2,r3,hz2⟩:=hcc' k y hyk;clear hcc hcell hcc' hcell4 hxk hyk hx hy;have i1:(k:Int)<(r.length:Int):=by omega
    have i2:(k:Int)<(q.length:Int):=by omega
    have i3:decide ((k:Int)<(r.length:Int))=true:=aL i1;obtain⟨HZ1,HZ2⟩:=Cg hz1 hz2;obtain⟨s1,d1,e5,_,_⟩:=hz1;obtain⟨s2,d2,e6,_,_⟩:=hz2;subst e5 e6
    by_cases ht:x.1=y.1
    ·have b1:(x.1==y.1)=true:=by simpa using ht
     have b1n:(x.1 !=y.1)=false:=by simp[ht]
     by_cases hv:x.2.length=y.2.length
     ·have b2:((x.2.length:Int)==(y.2.length:Int))=true:=by rw[hv];simp
      have hans2:decide (x.2.drop 0=y.2.drop 0∧r.drop (k+1)=q.drop (k+1))=ANS:=by
       rw[←hans];refine decide_eq_decide.2 ⟨fun h=>?_,fun h=>?_⟩
       ·have:x=y:=Prod.ext ht (by simpa using h.1)
        rw[this,h.2]
       ·have:=aN h
        exact⟨by rw[this.1],this.2⟩
      have HS:=hid hans2;clear hans hans2 ht
      go_wp2
      go_quiet (fail)
      go_wp2
      go_loopw [6] (fun i wr=>∃j m:Nat,i=.int .i64 (j:Int)∧j≤x.2.length∧wr=w.drewN m∧decide (x.2.drop j=y.2.drop j∧r.drop (k+1)=q.drop (k+1))=ANS) (fun i _=>x.2.length -(RowKit.intOf i).toNat)
      case atStart=>exact⟨0,_,rfl,by omega,World.drewN_drewN _ _ _,HS.out⟩
      case round=>
       obtain⟨j,m2,rfl,hj,rfl,hans⟩:=hrel;clear HS
       by_cases hjl:j<x.2.length
       ·have hjl2:j<y.2.length:=by omega
        obtain⟨xv,hxv⟩:=nmm (x.2[j]);obtain⟨yv,hyv⟩:=nmm (y.2[j]);have hxk:x.2[j]?=some xv:=by rw[bp hjl,hxv]
        have hyk:y.2[j]?=some yv:=by rw[bp hjl2,hyv]
        have hr0:x.2≠[]:=by intro e;rw[e] at hjl;simp at hjl
        have hq0:y.2≠[]:=by intro e;rw[e] at hjl2;simp at hjl2
        rw[List.drop_eq_getElem_cons hjl,hxv,List.drop_eq_getElem_cons hjl2,hyv] at hans;obtain⟨a5,cap5,e5,_,hcell⟩:=HZ1.out;obtain⟨g5,o5,ha,hcc⟩:=hcell hr0;obtain⟨a6,cap6,e6,_,hcell4⟩:=HZ2.out;obtain⟨g6,o6,ha',hcc'⟩:=hcell4 hq0;cases e5;cases e6;subst ha ha';have t1:=hcc j xv hxk;have t2:=hcc' j yv hyk;clear hcc hcell hcc' hcell4 hxk hyk hxv hyv;have i4:(j:Int)<(x.2.length:Int):=by omega
        have i5:(j:Int)<(y.2.length:Int):=by omega
        have i6:decide ((j:Int)<(x.2.length:Int))=true:=aL i4
        by_cases hxy:xv=yv
        ·subst hxy
         have hans2:decide (x.2.drop (j+1)=y.2.drop (j+1)∧r.drop (k+1)=q.drop (k+1))=ANS:=by rw[←hans];exact decide_eq_decide.2 (by simp)
         have HS:=hid hans2;clear hans hans2
         go_wp2
         go_quiet (fail)
         go_wp2
         exact⟨⟨j+1,_,by go_num,by omega,rfl,HS.out⟩,by simp[RowKit.intOf];omega⟩
        ·have e:ANS=false:=by rw[←hans];exact an (fun e=>hxy (aN e.1).1)
         subst e;clear hans;have b3:(xv==yv)=false:=by simpa using hxy
         have b3n:(xv !=yv)=true:=by simp[hxy]
         clear hxy
         go_wp2
         go_quiet (fail)
         go_wp2
         go_ret
         first|exact⟨rfl,_,rfl⟩|exact⟨rfl,_,World.drewN_drewN _ _ _⟩
       ·obtain rfl:j=x.2.length:=by omega
        have hans2:decide (r.drop (k+1)=q.drop (k+1))=ANS:=by
         rw[←hans,List.drop_of_length_le (ah _),hv,List.drop_of_length_le (ah _)]
         simp
        have HS:=hid hans2;clear hans hans2
        go_wp2_with fail
        exact⟨⟨k+1,_,by go_num,by omega,rfl,HS.out⟩,by simp[RowKit.intOf];omega⟩
     ·have b2:((x.2.length:Int)==(y.2.length:Int))=false:=by simpa using(fun e=>hv (by omega))
      have e:ANS=false:=by rw[←hans];exact an (fun e=>hv (by rw[(aN e).1]))
      subst e;clear hans ht hv
      go_wp2
      go_quiet (fail)
      go_wp2
      go_ret
      first|exact⟨rfl,_,rfl⟩|exact⟨rfl,_,World.drewN_drewN _ _ _⟩
    ·have b1:(x.1==y.1)=false:=by simpa using ht
     have b1n:(x.1 !=y.1)=true:=by simp[ht]
     have e:ANS=false:=by rw[←hans];exact an (fun e=>ht (by rw[(aN e).1]))
     subst e;clear hans ht
     go_wp2
     go_quiet (fail)
     go_wp2
     go_ret
     exact⟨rfl,_,World.drewN_drewN _ _ _⟩
   ·obtain rfl:k=r.length:=by omega
    have e:ANS=true:=by rw[←hans,List.drop_of_length_le (ah _),hlen,List.drop_of_length_le (ah _)];rfl
    subst e
    go_wp2_with fail
    go_ret
    first|exact⟨rfl,_,rfl⟩|exact⟨rfl,_,World.drewN_drewN _ _ _⟩
 ·have hq:((r.length:Int)==(q.length:Int))=false:=by simpa using(fun e=>hlen (by omega))
  have e:decide (r=q)=false:=an (fun e=>hlen (by rw[e]));rw[e]
  go_enter Tryz.func52,Tryz.ntmps52
  go_wp2_with fail
  go_ret
  exact⟨rfl,0,rfl⟩
theorem iN{P:Program}{md:Region.Mode}{ops:Array Oper}{Q:Exit→Act→World→Prop}{S:World→Prop}(i:Nat)(ty:TypeId)(x:Operand)(b o:Nat)(cs:List Value)(d:TypeDesc){oi:Oper}{fuel:Nat}{listed:Array Bool}{a:Act}{w:World}(hi:ops[i]?=some oi)(ho:oi.op=.load ty x)
  (hs:Region.noSelect ops=true) (hf:Region.free md ops listed i=true) (hr:(Region.ready md ops listed).contains i=true) (hQ:∀c a w,Q (.panic c) (a.put oi.dst (.agg cs.toArray)) w→Q (.panic c) a w)
  (hw:Region.wanted oi (yielded ops a.tmps)=true) (hx:a.eval x=.pointer (some ⟨b,o,none⟩)) (hS:∀w,S w→w.rangeAt b o cs) (hu:P.underlying ty=some d) (hd:d.isRow=true) (hn:(P.info? ty).map (·.size)=some cs.length) (hSw:S w)
  (h:∀K':Act→World→Prop,(∀a w,wpAnyH P md ops Q S fuel (listed.setIfInBounds i true) a w→K' a w)→K' (a.put oi.dst (.agg cs.toArray)) w):wpAnyH P md ops Q S (fuel+1) listed a w:=
 wpAnyH_take hi hs hf hr hQ (yieldsIf_load_mid hw ty x ho b o hx cs d hS hu hd hn) hSw (h _ (fun _ _ k=>k))
theorem tN{w:World}{g o:Nat}{a b c d:Value}(h:w.cell? ⟨g,o,none⟩=some a∧w.cell? ⟨g,o+1,none⟩=some b∧w.cell? ⟨g,o+2,none⟩=some c∧w.cell? ⟨g,o+3,none⟩=some d):w.rangeAt g o [a,b,c,d]:=by
 obtain⟨h0,h1,h2,h3⟩:=h;intro j v hv
 match j,hv with
 |0,hv=>simp at hv;subst hv;exact h0
 |1,hv=>simp at hv;subst hv;exact h1
 |2,hv=>simp at hv;subst hv;exact h2
 |3,hv=>simp at hv;subst hv;exact h3
 |_+4,hv=>simp at hv
theorem kF(v u:Value)(r:List Ct)(w:World)(h1:ig w v r)(h2:ig w u r)(hl:r.length≤140737488355328):
  Cr 53 #[v,u] w (.bool true):=by
 obtain⟨H1,H2⟩:=Cg h1 h2;obtain⟨a1,c1,rfl,hc1,hx1⟩:=h1;obtain⟨a2,c2,rfl,hc2,hx2⟩:=h2;clear hx1 hx2;have hq:((r.length:Int)==(r.length:Int))=true:=by simp
 go_enter Tryz.func53,Tryz.ntmps53
 go_wp2_with fail
 go_loopw [5] (fun i wr=>∃k:Nat,i=.int .i64 (k:Int)∧k≤r.length∧Below w.heap.size w wr) (fun i _=>r.length -(RowKit.intOf i).toNat)
 case atStart=>exact⟨0,rfl,by omega,ar _ _⟩
 case round=>
  obtain⟨k,rfl,hk,hb⟩:=hrel
  by_cases hkl:k<r.length
  ·obtain⟨x,hx⟩:∃x,r[k]=x:=⟨_,rfl⟩
   have hxk:r[k]?=some x:=by rw[bp hkl,hx]
   have hr0:r≠[]:=by intro e;rw[e] at hkl;simp at hkl
   obtain⟨a3,cap3,e3,_,hcell⟩:=(H1.out).below hb;obtain⟨g,o,ha,hcc⟩:=hcell hr0;obtain⟨a4,cap4,e4,_,hcell4⟩:=(H2.out).below hb;obtain⟨g',o',ha',hcc'⟩:=hcell4 hr0;cases e3;cases e4;subst ha ha';have i1:(k:Int)<(r.length:Int):=by omega
   have i3:decide ((k:Int)<(r.length:Int))=true:=aL i1;have hbs:=hb.size;have R1:wr.rangeAt g (o+k*4) [.string ⟨x.oid.toArray⟩,.bool x.crit,.bool x.has,.string ⟨x.value.toArray⟩]:=tN (hcc k x hxk);have R2:wr.rangeAt g' (o'+k*4) [.string ⟨x.oid.toArray⟩,.bool x.crit,.bool x.has,.string ⟨x.value.toArray⟩]:=tN (hcc' k x hxk);clear hcc hcell hcc' hcell4 hxk hx
   go_upto_region 6 with fail
   refine aR (S:=fun w'=>w'.rangeAt g (o+k*4) [.string ⟨x.oid.toArray⟩,.bool x.crit,.bool x.has,.string ⟨x.value.toArray⟩]∧w'.rangeAt g' (o'+k*4) [.string ⟨x.oid.toArray⟩,.bool x.crit,.bool x.has,.string ⟨x.value.toArray⟩]) (by kernel_rfl) ?_;have TT:wr.drew.rangeAt g (o+k*4) [.string ⟨x.oid.toArray⟩,.bool x.crit,.bool x.has,.string ⟨x.value.toArray⟩]∧wr.drew.rangeAt g' (o'+k*4) [.string ⟨x.oid.toArray⟩,.bool x.crit,.bool x.has,.string ⟨x.value.toArray⟩]:=⟨R1,R2⟩;have hb:=hb.drew
   change wpAnyH _ _ _ _ _ _ _ _ wr.drew
   clear R1 R2;generalize wr.drew=w4 at TT hb⊢;refine tn 0 (.slice (some ⟨g,o,none⟩) r.length c1) rfl (fun w' hS=>by go_simp) TT ?_;refine tn 1 (.int .i64 (k:Int)) rfl (fun w' hS=>by go_simp) TT ?_;refine tp 2 ⟨g,o+k*4,none⟩ rfl TT ?_;refine iN 3 62 (.tmp 19) g (o+k*4) [.string ⟨x.oid.toArray⟩,.bool x.crit,.bool x.has,.string ⟨x.value.toArray⟩] _ rfl rfl (by kernel_rfl) (by kernel_rfl) (by kernel_rfl) (fun _ _ _ h=>h) (by rfl) (by rfl) (fun w' hS=>hS.1) Tryz.underlying62 rfl (by rfl) TT (kkn ?_);refine tn 4 (.slice (some ⟨g',o',none⟩) r.length c2) rfl (fun w' hS=>by go_simp) TT ?_;refine tn 5 (.int .i64 (k:Int)) rfl (fun w' hS=>by go_simp) TT ?_;refine tp 6 ⟨g',o'+k*4,none⟩ rfl TT ?_;refine iN 7 62 (.tmp 23) g' (o'+k*4) [.string ⟨x.oid.toArray⟩,.bool x.crit,.bool x.has,.string ⟨x.value.toArray⟩] _ rfl rfl (by kernel_rfl) (by kernel_rfl) (by kernel_rfl) (fun _ _ _ h=>h) (by rfl) (by rfl) (fun w' hS=>hS.2) Tryz.underlying62 rfl (by rfl) TT (kkn ?_);refine ao 8 rfl (kks TT ?_);refine bE (by kernel_rfl) ?_ _;simp only[Exit.then];refine‹∀(a:Act) (w:World),Code.wp _ _ _ a w→_› _ _ ?_
   go_wp2_with fail
   exact⟨⟨k+1,by go_num,by omega,hb⟩,by simp[RowKit.intOf];omega⟩
  ·obtain rfl:k=r.length:=by omega
   go_wp2_with fail
   go_ret
   exact⟨rfl,hb⟩
theorem tO{w:World}{g o:Nat}{p:Fl}{u:Value}(h0:w.cell? ⟨g,o,none⟩=some (.int .i64 p.op))(h1:w.cell? ⟨g,o+1,none⟩=some (.int .i64 p.n))(h2:w.cell? ⟨g,o+2,none⟩=some (.string ⟨p.typ.toArray⟩))(h3:w.cell? ⟨g,o+3,none⟩=some (.string ⟨p.value.toArray⟩))(h4:w.cell? ⟨g,o+4,none⟩=some (.string ⟨p.init.toArray⟩))(h5:w.cell? ⟨g,o+5,none⟩=some (.string ⟨p.final.toArray⟩))(h6:w.cell? ⟨g,o+6,none⟩=some u):
  w.rangeAt g o [.int .i64 p.op,.int .i64 p.n,.string ⟨p.typ.toArray⟩,.string ⟨p.value.toArray⟩,.string ⟨p.init.toArray⟩,.string ⟨p.final.toArray⟩,u]:=by
 intro j v hv
 match j,hv with
 |0,hv=>simp at hv;subst hv;exact h0
 |1,hv=>simp at hv;subst hv;exact h1
 |2,hv=>simp at hv;subst hv;exact h2
 |3,hv=>simp at hv;subst hv;exact h3
 |4,hv=>simp at hv;subst hv;exact h4
 |5,hv=>simp at hv;subst hv;exact h5
 |6,hv=>simp at hv;subst hv;exact h6
 |_+7,hv=>simp at hv
theorem bZ{w w':World}{g o:Nat}{cs:List Value}(h:w.rangeAt g o cs)(hb:Below w.heap.size w w'):w'.rangeAt g o cs:=fun j v hv=>(hb.cell (bj (h j v hv))).trans (h j v hv)
theorem Bl{w w':World}{g:Nat}{x:Obj}(h:Below w.heap.size w w')(hx:w.heap[g]?=some x):w'.heap[g]?=some x:=(h.block g (gl hx)).trans hx
theorem iO{B:Nat}{a w:World}(h:Below B a w)(n:Nat):Below B a (w.drewN n):=⟨h.os,h.tape,h.output,h.size,h.block⟩
theorem lU(v u:Value)(r:List Fl)(w:World)(h1:de w v r)(h2:de w u r)(hl:r.length≤140737488355328)(hf:∀x∈r,x.any.length≤140737488355328):
  Cr 49 #[v,u] w (.bool true):=by
 obtain⟨H1,H2⟩:=Cg h1 h2;obtain⟨a1,c1,rfl,hc1,hx1⟩:=h1;obtain⟨a2,c2,rfl,hc2,hx2⟩:=h2;clear hx1 hx2;have H3:=hid hf;clear hf;have hq:((r.length:Int)==(r.length:Int))=true:=by simp
 go_enter Tryz.func49,Tryz.ntmps49
 go_wp2_with fail
 go_loopw [5] (fun i wr=>∃k:Nat,i=.int .i64 (k:Int)∧k≤r.length∧Below w.heap.size w wr) (fun i _=>r.length -(RowKit.intOf i).toNat)
 case atStart=>exact⟨0,rfl,by omega,ar _ _⟩
 case round=>
  obtain⟨k,rfl,hk,hb⟩:=hrel
  by_cases hkl:k<r.length
  ·obtain⟨x,hx⟩:∃x,r[k]=x:=⟨_,rfl⟩
   have hxk:r[k]?=some x:=by rw[bp hkl,hx]
   have hr0:r≠[]:=by intro e;rw[e] at hkl;simp at hkl
   obtain⟨a3,cap3,e3,_,hcell⟩:=(H1.out).below hb;obtain⟨g,o,ha,hcc⟩:=hcell hr0;obtain⟨a4,cap4,e4,_,hcell4⟩:=(H2.out).below hb;obtain⟨g',o',ha',hcc'⟩:=hcell4 hr0;cases e3;cases e4;subst ha ha';have i1:(k:Int)<(r.length:Int):=by omega
   have i3:decide ((k:Int)<(r.length:Int))=true:=aL i1;have hbs:=hb.size;obtain⟨p0,p1,p2,p3,p4,p5,z1,p6,hz1⟩:=hcc k x hxk;obtain⟨r0,r1,r2,r3,r4,r5,z2,r6,hz2⟩:=hcc' k x hxk;have hxl:=H3.out x (List.mem_of_getElem? hxk);have R1:=tO p0 p1 p2 p3 p4 p5 p6;have R2:=tO r0 r1 r2 r3 r4 r5 r6;obtain⟨HZ1,HZ2⟩:=Cg hz1 hz2;obtain⟨s1,d1,e5,_,_⟩:=hz1;obtain⟨s2,d2,e6,_,_⟩:=hz2;subst e5 e6;clear hcc hcell hcc' hcell4 hxk hx p0 p1 p2 p3 p4 p5 p6 r0 r1 r2 r3 r4 r5 r6
   go_upto_region 6 with fail
   refine aR (S:=fun w'=>w'.rangeAt g (o+k*7) [.int .i64 x.op,.int .i64 x.n,.string ⟨x.typ.toArray⟩,.string ⟨x.value.toArray⟩,.string ⟨x.init.toArray⟩,.string ⟨x.final.toArray⟩,.slice s1 x.any.length d1]∧w'.rangeAt g' (o'+k*7) [.int .i64 x.op,.int .i64 x.n,.string ⟨x.typ.toArray⟩,.string ⟨x.value.toArray⟩,.string ⟨x.init.toArray⟩,.string ⟨x.final.toArray⟩,.slice s2 x.any.length d2]) (by kernel_rfl) ?_;have TT:wr.drew.rangeAt g (o+k*7) [.int .i64 x.op,.int .i64 x.n,.string ⟨x.typ.toArray⟩,.string ⟨x.value.toArray⟩,.string ⟨x.init.toArray⟩,.string ⟨x.final.toArray⟩,.slice s1 x.any.length d1]∧wr.drew.rangeAt g' (o'+k*7) [.int .i64 x.op,.int .i64 x.n,.string ⟨x.typ.toArray⟩,.string ⟨x.value.toArray⟩,.string ⟨x.init.toArray⟩,.string ⟨x.final.toArray⟩,.slice s2 x.any.length d2]:=⟨R1,R2⟩;obtain⟨Z1,Z2⟩:=Cg (HZ1.out.below (w':=wr.drew) (ar _ _).drew) (HZ2.out.below (w':=wr.drew) (ar _ _).drew);have hb:=hb.drew
   change wpAnyH _ _ _ _ _ _ _ _ wr.drew
   clear R1 R2 HZ1 HZ2;generalize wr.drew=w4 at TT hb Z1 Z2⊢;have bC:=ar w4.heap.size w4;refine tn 0 (.slice (some ⟨g,o,none⟩) r.length c1) rfl (fun w' hS=>by go_simp) TT ?_;refine tn 1 (.int .i64 (k:Int)) rfl (fun w' hS=>by go_simp) TT ?_;refine tp 2 ⟨g,o+k*7,none⟩ rfl TT ?_;refine iN 3 60 (.tmp 21) g (o+k*7) [.int .i64 x.op,.int .i64 x.n,.string ⟨x.typ.toArray⟩,.string ⟨x.value.toArray⟩,.string ⟨x.init.toArray⟩,.string ⟨x.final.toArray⟩,.slice s1 x.any.length d1] _ rfl rfl (by kernel_rfl) (by kernel_rfl) (by kernel_rfl) (fun _ _ _ h=>h) (by rfl) (by rfl) (fun w' hS=>hS.1) Tryz.underlying60 rfl (by rfl) TT (kkn ?_);refine tn 4 (.slice (some ⟨g',o',none⟩) r.length c2) rfl (fun w' hS=>by go_simp) TT ?_;refine tn 5 (.int .i64 (k:Int)) rfl (fun w' hS=>by go_simp) TT ?_;refine tp 6 ⟨g',o'+k*7,none⟩ rfl TT ?_;refine iN 7 60 (.tmp 25) g' (o'+k*7) [.int .i64 x.op,.int .i64 x.n,.string ⟨x.typ.toArray⟩,.string ⟨x.value.toArray⟩,.string ⟨x.init.toArray⟩,.string ⟨x.final.toArray⟩,.slice s2 x.any.length d2] _ rfl rfl (by kernel_rfl) (by kernel_rfl) (by kernel_rfl) (fun _ _ _ h=>h) (by rfl) (by rfl) (fun w' hS=>hS.2) Tryz.underlying60 rfl (by rfl) TT (kkn ?_);have T0:=hid TT;refine fq 8 9 (by kernel_rfl) rfl (by rfl) rfl (by rfl) (fun K hK=>?P1) (fun K hK=>?P2)
   case' P1=>
    have fX:=alz w4 Zf 60;have m:=alb w4 Zf 60;have bC:=btt bC m;have TT:(w4.alloc (.cells Zf 60)).rangeAt g (o+k*7) [.int .i64 x.op,.int .i64 x.n,.string ⟨x.typ.toArray⟩,.string ⟨x.value.toArray⟩,.string ⟨x.init.toArray⟩,.string ⟨x.final.toArray⟩,.slice s1 x.any.length d1]∧(w4.alloc (.cells Zf 60)).rangeAt g' (o'+k*7) [.int .i64 x.op,.int .i64 x.n,.string ⟨x.typ.toArray⟩,.string ⟨x.value.toArray⟩,.string ⟨x.init.toArray⟩,.string ⟨x.final.toArray⟩,.slice s2 x.any.length d2]:=⟨bZ TT.1 m,bZ TT.2 m⟩;go_simp;refine hK _ _ TT ?_;clear hK K
    clear m;obtain⟨X,hX⟩:=nmm w4.heap.size;generalize(w4.alloc (.cells Zf 60))=w5 at TT bC fX⊢;rw[hX] at fX⊢;have lX:w4.heap.size≤X:=Nat.le_of_eq hX;clear hX;refine ao 9 rfl (fun K hK=>?_);have fY:=alz w5 Zf 60;have m:=alb w5 Zf 60;have lw:=bC.size;have bC:=btt bC m;have lY:w4.heap.size≤w5.heap.size:=lw;have TT:(w5.alloc (.cells Zf 60)).rangeAt g (o+k*7) [.int .i64 x.op,.int .i64 x.n,.string ⟨x.typ.toArray⟩,.string ⟨x.value.toArray⟩,.string ⟨x.init.toArray⟩,.string ⟨x.final.toArray⟩,.slice s1 x.any.length d1]∧(w5.alloc (.cells Zf 60)).rangeAt g' (o'+k*7) [.int .i64 x.op,.int .i64 x.n,.string ⟨x.typ.toArray⟩,.string ⟨x.value.toArray⟩,.string ⟨x.init.toArray⟩,.string ⟨x.final.toArray⟩,.slice s2 x.any.length d2]:=⟨bZ TT.1 m,bZ TT.2 m⟩;have dX:X≠w5.heap.size:=by have:=(gl fX);omega
    have fX:=Bl m fX;go_simp;refine hK _ _ TT ?_;clear hK K
    clear m;obtain⟨Y,hY⟩:=nmm w5.heap.size;generalize(w5.alloc (.cells Zf 60))=w6 at TT bC fY fX⊢;rw[hY] at fY lY dX⊢
    
    clear hY;refine ao 10 rfl (fun K hK=>?_);have bC:=bm bC lX (Xr x s1 d1);have gX:=setRow_heap w6 X _ (Xr x s1 d1) _ _ fX;have TT:(w6.setRow X (Xr x s1 d1)).rangeAt g (o+k*7) [.int .i64 x.op,.int .i64 x.n,.string ⟨x.typ.toArray⟩,.string ⟨x.value.toArray⟩,.string ⟨x.init.toArray⟩,.string ⟨x.final.toArray⟩,.slice s1 x.any.length d1]∧(w6.setRow X (Xr x s1 d1)).rangeAt g' (o'+k*7) [.int .i64 x.op,.int .i64 x.n,.string ⟨x.typ.toArray⟩,.string ⟨x.value.toArray⟩,.string ⟨x.init.toArray⟩,.string ⟨x.final.toArray⟩,.slice s2 x.any.length d2]:=⟨bZ T0.out.1 bC,bZ T0.out.2 bC⟩;have fY:=(setRow_other w6 X Y (Xr x s1 d1) (by omega)).trans fY;refine db 60 (.tmp 6) (.tmp 22) rfl X 60 _ (Xr x s1 d1) (by rfl) (by rfl) fX (by rfl) (by rfl) (by simp[Value.oneCell']) ?_;refine hK _ _ TT ?_;clear hK K
    clear fX;generalize(w6.setRow X (Xr x s1 d1))=w7 at TT bC gX fY⊢;have fX:=gX;clear gX;refine ao 11 rfl (fun K hK=>?_);have bC:=bm bC lY (Xr x s2 d2);have gY:=setRow_heap w7 Y _ (Xr x s2 d2) _ _ fY;have TT:(w7.setRow Y (Xr x s2 d2)).rangeAt g (o+k*7) [.int .i64 x.op,.int .i64 x.n,.string ⟨x.typ.toArray⟩,.string ⟨x.value.toArray⟩,.string ⟨x.init.toArray⟩,.string ⟨x.final.toArray⟩,.slice s1 x.any.length d1]∧(w7.setRow Y (Xr x s2 d2)).rangeAt g' (o'+k*7) [.int .i64 x.op,.int .i64 x.n,.string ⟨x.typ.toArray⟩,.string ⟨x.value.toArray⟩,.string ⟨x.init.toArray⟩,.string ⟨x.final.toArray⟩,.slice s2 x.any.length d2]:=⟨bZ T0.out.1 bC,bZ T0.out.2 bC⟩;have fX:=(setRow_other w7 Y X (Xr x s2 d2) (by omega)).trans fX;refine db 60 (.tmp 7) (.tmp 26) rfl Y 60 _ (Xr x s2 d2) (by rfl) (by rfl) fY (by rfl) (by rfl) (by simp[Value.oneCell']) ?_;refine hK _ _ TT ?_;clear hK K
    clear fY;generalize(w7.setRow Y (Xr x s2 d2))=w8 at TT bC gY fX⊢;have fY:=gY;clear gY
   case' P2=>
    have fY:=alz w4 Zf 60;have m:=alb w4 Zf 60;have bC:=btt bC m;have TT:(w4.alloc (.cells Zf 60)).rangeAt g (o+k*7) [.int .i64 x.op,.int .i64 x.n,.string ⟨x.typ.toArray⟩,.string ⟨x.value.toArray⟩,.string ⟨x.init.toArray⟩,.string ⟨x.final.toArray⟩,.slice s1 x.any.length d1]∧(w4.alloc (.cells Zf 60)).rangeAt g' (o'+k*7) [.int .i64 x.op,.int .i64 x.n,.string ⟨x.typ.toArray⟩,.string ⟨x.value.toArray⟩,.string ⟨x.init.toArray⟩,.string ⟨x.final.toArray⟩,.slice s2 x.any.length d2]:=⟨bZ TT.1 m,bZ TT.2 m⟩;go_simp;refine hK _ _ TT ?_;clear hK K
    clear m;obtain⟨Y,hY⟩:=nmm w4.heap.size;generalize(w4.alloc (.cells Zf 60))=w5 at TT bC fY⊢;rw[hY] at fY⊢;have lY:w4.heap.size≤Y:=Nat.le_of_eq hY;clear hY;refine ao 8 rfl (fun K hK=>?_);have fX:=alz w5 Zf 60;have m:=alb w5 Zf 60;have lw:=bC.size;have bC:=btt bC m;have lX:w4.heap.size≤w5.heap.size:=lw;have TT:(w5.alloc (.cells Zf 60)).rangeAt g (o+k*7) [.int .i64 x.op,.int .i64 x.n,.string ⟨x.typ.toArray⟩,.string ⟨x.value.toArray⟩,.string ⟨x.init.toArray⟩,.string ⟨x.final.toArray⟩,.slice s1 x.any.length d1]∧(w5.alloc (.cells Zf 60)).rangeAt g' (o'+k*7) [.int .i64 x.op,.int .i64 x.n,.string ⟨x.typ.toArray⟩,.string ⟨x.value.toArray⟩,.string ⟨x.init.toArray⟩,.string ⟨x.final.toArray⟩,.slice s2 x.any.length d2]:=⟨bZ TT.1 m,bZ TT.2 m⟩;have dY:Y≠w5.heap.size:=by have:=(gl fY);omega
    have fY:=Bl m fY;go_simp;refine hK _ _ TT ?_;clear hK K
    clear m;obtain⟨X,hX⟩:=nmm w5.heap.size;generalize(w5.alloc (.cells Zf 60))=w6 at TT bC fX fY⊢;rw[hX] at fX lX dY⊢
    
    clear hX;refine ao 10 rfl (fun K hK=>?_);have bC:=bm bC lX (Xr x s1 d1);have gX:=setRow_heap w6 X _ (Xr x s1 d1) _ _ fX;have TT:(w6.setRow X (Xr x s1 d1)).rangeAt g (o+k*7) [.int .i64 x.op,.int .i64 x.n,.string ⟨x.typ.toArray⟩,.string ⟨x.value.toArray⟩,.string ⟨x.init.toArray⟩,.string ⟨x.final.toArray⟩,.slice s1 x.any.length d1]∧(w6.setRow X (Xr x s1 d1)).rangeAt g' (o'+k*7) [.int .i64 x.op,.int .i64 x.n,.string ⟨x.typ.toArray⟩,.string ⟨x.value.toArray⟩,.string ⟨x.init.toArray⟩,.string ⟨x.final.toArray⟩,.slice s2 x.any.length d2]:=⟨bZ T0.out.1 bC,bZ T0.out.2 bC⟩;have fY:=(setRow_other w6 X Y (Xr x s1 d1) (by omega)).trans fY;refine db 60 (.tmp 6) (.tmp 22) rfl X 60 _ (Xr x s1 d1) (by rfl) (by rfl) fX (by rfl) (by rfl) (by simp[Value.oneCell']) ?_;refine hK _ _ TT ?_;clear hK K
    clear fX;generalize(w6.setRow X (Xr x s1 d1))=w7 at TT bC gX fY⊢;have fX:=gX;clear gX;refine ao 11 rfl (fun K hK=>?_);have bC:=bm bC lY (Xr x s2 d2);have gY:=setRow_heap w7 Y _ (Xr x s2 d2) _ _ fY;have TT:(w7.setRow Y (Xr x s2 d2)).rangeAt g (o+k*7) [.int .i64 x.op,.int .i64 x.n,.string ⟨x.typ.toArray⟩,.string ⟨x.value.toArray⟩,.string ⟨x.init.toArray⟩,.string ⟨x.final.toArray⟩,.slice s1 x.any.length d1]∧(w7.setRow Y (Xr x s2 d2)).rangeAt g' (o'+k*7) [.int .i64 x.op,.int .i64 x.n,.string ⟨x.typ.toArray⟩,.string ⟨x.value.toArray⟩,.string ⟨x.init.toArray⟩,.string ⟨x.final.toArray⟩,.slice s2 x.any.length d2]:=⟨bZ T0.out.1 bC,bZ T0.out.2 bC⟩;have fX:=(setRow_other w7 Y X (Xr x s2 d2) (by omega)).trans fX;refine db 60 (.tmp 7) (.tmp 26) rfl Y 60 _ (Xr x s2 d2) (by rfl) (by rfl) fY (by rfl) (by rfl) (by simp[Value.oneCell']) ?_;refine hK _ _ TT ?_;clear hK K
    clear fY;generalize(w7.setRow Y (Xr x s2 d2))=w8 at TT bC gY fX⊢;have fY:=gY;clear gY
   all_goals
    refine bE (by kernel_rfl) ?_ _
    try simp only[Exit.then]
    refine‹∀(a:Act) (w:World),Code.wp _ _ _ a w→_› _ _ ?_;have hb:=btt hb bC;have kt:=fun n=>jm (.slice s1 x.any.length d1) (.slice s2 x.any.length d2) x.any x.any (w8.drewN n) ((Z1.out.below bC).drewN n) ((Z2.out.below bC).drewN n) hxl hxl
    simp only[decide_true] at kt;clear TT T0 bC Z1 Z2;generalize w8=wF at fX fY hb kt⊢;have kt:=kt 0;have a0:=cval fX 0 (.int .i64 x.op);have a1:=cval fX 1 (.int .i64 x.n);have a2:=cval fX 2 (.string ⟨x.typ.toArray⟩);have a3:=cval fX 3 (.string ⟨x.value.toArray⟩);have a4:=cval fX 4 (.string ⟨x.init.toArray⟩);have a5:=cval fX 5 (.string ⟨x.final.toArray⟩);have a6:=cval fX 6 (.slice s1 x.any.length d1:Value);have b0:=cval fY 0 (.int .i64 x.op);have b1:=cval fY 1 (.int .i64 x.n);have b2:=cval fY 2 (.string ⟨x.typ.toArray⟩);have b3:=cval fY 3 (.string ⟨x.value.toArray⟩);have b4:=cval fY 4 (.string ⟨x.init.toArray⟩);have b5:=cval fY 5 (.string ⟨x.final.toArray⟩);have b6:=cval fY 6 (.slice s2 x.any.length d2:Value);clear fX fY
    go_wp2_with fail
    refine ag kt ?_;rintro e w9 ⟨rfl,n,rfl⟩;have hb9:=iO hb n;clear kt a0 a1 a2 a3 a4 a5 a6 b0 b1 b2 b3 b4 b5 b6 hb
    go_wp2_with fail
    exact⟨⟨k+1,by go_num,by omega,hb9⟩,by simp[RowKit.intOf];omega⟩
  ·obtain rfl:k=r.length:=by omega
   go_wp2_with fail
   go_ret
   exact⟨rfl,hb⟩
theorem yP(v u:Value)(r q:List Fl)(w:World)(h1:de w v r)(h2:de w u q)(hl:r.length≠q.length):
  Cr 49 #[v,u] w (Bf):=by
 obtain⟨a1,c1,rfl⟩:=h1.shape;obtain⟨a2,c2,rfl⟩:=h2.shape;obtain⟨x,hx⟩:=nmm r.length;obtain⟨y,hy⟩:=nmm q.length;rw[hx,hy] at hl⊢;have e1:((x:Int) !=(y:Int))=true:=bne_iff_ne.2 (fun e=>hl (by omega));have e2:((x:Int)==(y:Int))=false:=beq_eq_false_iff_ne.2 (fun e=>hl (by omega));clear h1 h2 hx hy hl
 go_enter Tryz.func49,Tryz.ntmps49
 go_wp2_with fail
 go_ret
 exact⟨rfl,ar _ _⟩
theorem Bq(m:Mg):(bo m).id=m.id:=by simp only[bo,apply_ite Mg.id,ite_self]
theorem Br(m:Mg):(bo m).op=m.op:=by simp only[bo,apply_ite Mg.op,ite_self]
theorem AV(m:Mg):(bo m).ctl=m.ctl:=by simp only[bo,apply_ite Mg.ctl,ite_self]
theorem Au(m:Mg):(bo m).filt=if m.op=3 then m.filt else Sn:=by
 simp only[bo,apply_ite Mg.filt,ite_self]
 by_cases h0:m.op=0
 ·rw[if_pos h0,if_neg (by omega)]
 ·rw[if_neg h0]
theorem AW(m:Mg):(bo m).sel=if m.op=3 then m.sel else Sn:=by
 simp only[bo,apply_ite Mg.sel,ite_self]
 by_cases h0:m.op=0
 ·rw[if_pos h0,if_neg (by omega)]
 ·rw[if_neg h0]
theorem Av(m:Mg):(bo m).mods=if m.op=6 then m.mods else Sn:=by
 simp only[bo,apply_ite Mg.mods,ite_self]
 by_cases h0:m.op=0
 ·rw[if_pos h0,if_neg (by omega)]
 ·rw[if_neg h0]
  by_cases h3:m.op=3
  ·rw[if_pos h3,if_neg (by omega)]
  ·rw[if_neg h3]
theorem Aa(m:Mg):(bo m).attrs=if m.op=8∨m.op=4 then m.attrs else Sn:=by
 simp only[bo,apply_ite Mg.attrs,ite_self]
 by_cases h0:m.op=0
 ·rw[if_pos h0,if_neg (by omega)]
 ·rw[if_neg h0]
  by_cases h3:m.op=3
  ·rw[if_pos h3,if_neg (by omega)]
  ·rw[if_neg h3]
   by_cases h6:m.op=6
   ·rw[if_pos h6,if_neg (by omega)]
   ·rw[if_neg h6]
theorem AX(w:World):ct w (Sn) []:=⟨none,0,rfl,ah _,fun h=>absurd rfl h⟩
theorem AY(w:World):eY w (Sn) []:=⟨none,0,rfl,ah _,fun h=>absurd rfl h⟩
theorem Aw(w:World):eG w (Sn) []:=⟨none,0,rfl,ah _,fun h=>absurd rfl h⟩
theorem zL(w:World):de w (Sn) []:=⟨none,0,rfl,ah _,fun h=>absurd rfl h⟩
theorem Ax(m:Mg)(l:Ls)(w:World)(hm:MgM w m l)(hk:LsOk m l):
  Cr 18 #[.agg (Mg.row (bo m)),.agg (Mg.row m)] w (.bool (lB (bo m) m&&iB m l)):=by
 have k11:wZ 49 (bo m).filt m.filt (iy m l==l.filt.length) w:=by
  intro W hW;rw[Au,iy]
  by_cases h:m.op=3
  ·rw[if_pos h,if_pos h,beq_self_eq_true]
   exact lU _ _ l.filt W (hm.filt.below hW) (hm.filt.below hW) (by have:=hk.filt.1;omega) (fun x hx=>by have:=(hk.filt.2 x hx).1.2.2.2.2.1;omega)
  ·rw[if_neg h,if_neg h]
   by_cases h0:l.filt=[]
   ·rw[h0]
    exact lU _ _ [] W (zL W) (by have:=hm.filt.below hW;rw[h0] at this;exact this) (by simp) (fun x hx=>by cases hx)
   ·have:(0==l.filt.length)=false:=by cases hq:l.filt with
     |nil=>exact absurd hq h0
     |cons a b=>rfl
    rw[this];exact yP _ _ [] l.filt W (zL W) (hm.filt.below hW) (by cases hq:l.filt with
     |nil=>exact absurd hq h0
     |cons a b=>simp)
 have k12:wZ 50 (bo m).sel m.sel (iz m l==l.sel.length) w:=by
  intro W hW;rw[AW,iz]
  by_cases h:m.op=3
  ·rw[if_pos h,if_pos h,beq_self_eq_true]
   refine(jm _ _ l.sel l.sel W (hm.sel.below hW) (hm.sel.below hW) (by have:=hk.sel;simp;try omega) (by have:=hk.sel;omega)).mono ?_;rintro e w' ⟨rfl,n,rfl⟩;exact⟨by simp,iO (ar _ _) n⟩
  ·rw[if_neg h,if_neg h]
   refine(jm _ _ [] l.sel W (AX W) (hm.sel.below hW) (by have:=hk.sel;simp;try omega) (by have:=hk.sel;omega)).mono ?_;rintro e w' ⟨rfl,n,rfl⟩;refine⟨?_,iO (ar _ _) n⟩;cases l.sel<;>simp
 have k13:wZ 51 (bo m).mods m.mods (gQ m l==l.mods.length) w:=by
  intro W hW;rw[Av,gQ]
  by_cases h:m.op=6
  ·rw[if_pos h,if_pos h,beq_self_eq_true]
   refine(mI _ _ l.mods l.mods W (hm.mods.below hW) (hm.mods.below hW) (by have:=hk.mods;simp;try omega) (by have:=hk.mods;omega) (fun x hx=>by first|(cases hx;done)|(have:=(hk.modss x hx).2.1;omega)) (fun x hx=>by have:=(hk.modss x hx).2.1;omega)).mono ?_;rintro e w' ⟨rfl,n,rfl⟩;exact⟨by simp,iO (ar _ _) n⟩
  ·rw[if_neg h,if_neg h]
   refine(mI _ _ [] l.mods W (AY W) (hm.mods.below hW) (by have:=hk.mods;simp;try omega) (by have:=hk.mods;omega) (fun x hx=>by first|(cases hx;done)|(have:=(hk.modss x hx).2.1;omega)) (fun x hx=>by have:=(hk.modss x hx).2.1;omega)).mono ?_;rintro e w' ⟨rfl,n,rfl⟩;refine⟨?_,iO (ar _ _) n⟩;cases l.mods<;>simp
 have k14:wZ 52 (bo m).attrs m.attrs (wQ m l==l.attrs.length) w:=by
  intro W hW;rw[Aa,wQ]
  by_cases h:m.op=8∨m.op=4
  ·rw[if_pos h,if_pos h,beq_self_eq_true]
   refine(lT _ _ l.attrs l.attrs W (hm.attrs.below hW) (hm.attrs.below hW) (by have:=hk.attrs.1;simp;try omega) (by have:=hk.attrs.1;omega) (fun x hx=>by first|(cases hx;done)|(have:=(hk.attrs.2 x hx).2.1;omega)) (fun x hx=>by have:=(hk.attrs.2 x hx).2.1;omega)).mono ?_;rintro e w' ⟨rfl,n,rfl⟩;exact⟨by simp,iO (ar _ _) n⟩
  ·rw[if_neg h,if_neg h]
   refine(lT _ _ [] l.attrs W (Aw W) (hm.attrs.below hW) (by have:=hk.attrs.1;simp;try omega) (by have:=hk.attrs.1;omega) (fun x hx=>by first|(cases hx;done)|(have:=(hk.attrs.2 x hx).2.1;omega)) (fun x hx=>by have:=(hk.attrs.2 x hx).2.1;omega)).mono ?_;rintro e w' ⟨rfl,n,rfl⟩;refine⟨?_,iO (ar _ _) n⟩;cases l.attrs<;>simp
 have k27:wZ 53 (bo m).ctl m.ctl true w:=by
  intro W hW;rw[AV];exact kF _ _ l.ctl W (hm.ctl.below hW) (hm.ctl.below hW) (by have:=hk.ctl;omega)
 refine(yX (bo m) m _ _ _ _ _ w k11 k12 k13 k14 k27).mono ?_;rintro e w' ⟨rfl,hb⟩;exact⟨by rw[Bool.and_true,iB],hb⟩
theorem Bs(m:Mg):lB (bo m) m=wJ (bo m) m:=by
 rw[Bool.eq_iff_iff];simp only[lB,wJ,Bq,Br,List.all_cons,List.all_nil,id,Bool.and_true,aI,beq_iff_eq,aT,beq_self_eq_true,true_and]
 constructor
 ·intro h;simp_all
 ·intro h;simp_all
def ym(m:Mg)(l:Ls):Bool:=br m l&&l.ctl.all (fun c=>!eL c)&&bB m.id 2147483647
theorem zx(m:Mg)(l:Ls):bH m l=(ym m l&&(lB (bo m) m&&iB m l)):=by
 rw[Bs,bH,ym];have:l.ctl.all (fun c=>!eL c)=!(l.ctl.any eL):=by
  induction l.ctl with
  |nil=>rfl
  |cons c r ih=>simp only[List.all_cons,List.any_cons,ih];cases eL c<;>rfl
 rw[this];cases br m l<;>cases bB m.id 2147483647<;>cases wJ (bo m) m<;>cases iB m l<;>cases (l.ctl.any eL)<;>rfl
theorem Ab(m:Mg)(l:Ls)(w:World)(hm:MgM w m l)(hk:LsOk m l)
  (kb:∀w':World,Below w.heap.size w w'→Calls Tryz.prog 44 #[.agg (Mg.row m)] w' fun e w2=>e=.returned (.tuple #[.agg (Mg.row (bo m)),.bool (ym m l)])∧Below w'.heap.size w' w2):
  Cr 15 #[.agg (Mg.row m)] w (.bool (bH m l)):=by
 rw[zx];have ks:=fun w' (hb:Below w.heap.size w w')=>Ax m l w' (hm.below hb) hk
 have ONE:=hid (fF (Mg.row_one hm));clear hm hk;obtain⟨B1,hB1⟩:=nmm (ym m l);obtain⟨B2,hB2⟩:=nmm (lB (bo m) m&&iB m l);rw[hB1,hB2];rw[hB1] at kb;rw[hB2] at ks;clear hB1 hB2;obtain⟨A,hA⟩:=nmm (Mg.row m);obtain⟨X,hX⟩:=nmm (Mg.row (bo m));obtain⟨HA2,HX2⟩:=Cg (show A.size=28 by rw[←hA];rfl) (show X.size=28 by rw[←hX];rfl);rw[hX] at ONE;rw[hA,hX] at kb ks;rw[hA];clear hA hX;obtain⟨KB,KS⟩:=Cg kb ks;clear kb ks;have b1:=alb w A 28;have m1:=alz w A 28
 go_enter Tryz.func15,Tryz.ntmps15
 go_upto_region 1 with fail
 generalize w.alloc (.cells A 28)=w1 at b1 m1⊢;have kb1:=KB.out w1 b1
 go_wp2_with (refine bg rfl 28 (.tmp 1) rfl w.heap.size 28 _ (0,0) (by rfl) m1 _ Tryz.underlying28 rfl (by rw[HA2.out];rfl) ?_)
 refine ag kb1 ?_;rintro e w2 ⟨rfl,hb2⟩;have b2:=btt b1 hb2;have m2:=bkk hb2 m1;clear kb1 hb2 b1 m1
 go_upto_region 2 with(refine bh rfl 28 (.tmp 3) (.tmp 8) rfl w2.heap.size 28 _ X (by rfl) (by rfl) (bi _ _ _ rfl) (by rw[HX2.out];rfl) (by rw[HX2.out];rfl) ONE.out ?_)
 have ba:Below w.heap.size w (w2.alloc (.cells Zm 28)):=b2.alloc b2.size _;have b3:Below w.heap.size w ((w2.alloc (.cells Zm 28)).setRow w2.heap.size X):=bm ba (g:=w2.heap.size) b2.size X;have hlt:=(gl m2);have m3:((w2.alloc (.cells Zm 28)).setRow w2.heap.size X).heap[w.heap.size]?=some (.cells A 28 (0,0)):=(setRow_other _ _ _ _ (by omega)).trans ((alloc_old _ _ _ hlt).trans m2);have x3:((w2.alloc (.cells Zm 28)).setRow w2.heap.size X).heap[w2.heap.size]?=some (.cells X 28 (0,0)):=setRow_heap _ _ _ X _ _ (bi _ _ _ rfl);generalize((w2.alloc (.cells Zm 28)).setRow w2.heap.size X)=w3 at b3 m3 x3⊢;have ks1:=KS.out w3 b3;clear ba m2 b2 hlt;cases B1 with
 |false=>
  clear ks1
  go_wp2_with fail
  go_ret
  exact⟨rfl,b3⟩
 |true=>
  refine aQ ?_
  iterate 2 (refine aB rfl (kkn ?_))
  refine qu (by rfl) (cU 28 (.tmp 3) rfl w2.heap.size 28 X (0,0) (by rfl) x3 _ Tryz.underlying28 rfl (by rw[HX2.out];rfl)) ?_;refine qu (by rfl) (cU 28 (.tmp 1) rfl w.heap.size 28 A (0,0) (by rfl) m3 _ Tryz.underlying28 rfl (by rw[HA2.out];rfl)) ?_;go_simp
  go_wp2_with fail
  refine ag ks1 ?_;rintro e w4 ⟨rfl,hb4⟩
  go_wp2_with fail
  go_ret
  exact⟨rfl,(btt b3 hb4)⟩
end Go.Proofs.YthjaiigijbjloaaGreatDoor
