/- CoB, CoN, SmA, SmB, SmC, MgAt, SmM, CoW, CoS, CoR, CoX, LawHa, OpenMsgs. -/
import Derived.Test.YthpcpdplcicfoaaGreatDoorV24
import Derived.Lib.Builder
import Derived.Lib.UnsafeStr
import Derived.Lib.AppendStr
import Derived.Deep.Cut
import Derived.MapKept
import Derived.Defers
import Derived.Recover
import Derived.Laws.Pointers
import Derived.OwnWalk
import Derived.Deep.AppendLies
import Derived.Test.YthpcpdplcicfoaaGreatDoorShelf
import Derived.WalkKit
import Derived.WalkLawsBesides
import Derived.WalkSpells
import Derived.Deep.QuietTactic
import Derived.BigQuiet
import Derived.Lib.OthersKept
import Derived.Lib.Hide
import Derived.Lib.TrimUEq
import Derived.Lib.ValidLaws
import Derived.Laws.Runes
import Derived.Laws.Rows
import Derived.Laws.Tables
import Derived.RegionTactic
import Derived.OrdersHeld
import Derived.ChangeKeysEq
import Derived.Deep.CutRange
import Derived.Deep.CutBlock
import Derived.Lib.IndexLaws
import Derived.Lib.Split
import Derived.Shelf.Strings.SlTrimAscii
import Derived.Lib.SplitLaws
import Derived.Deep.MidRow
import Derived.Deep.SlicePairs
import Derived.Deep.Strs
import Derived.Lib.SmallJoins
import Derived.Test.YthpcpdplcicfoaaGreatDoorCards
import Derived.Test.YthpcpdplcicfoaaGreatDoorTie
import Derived.ProofKit
import Derived.OpenShut
import Derived.Deep.DeepHandedRow
import Derived.Deep.DeepWitnessRowRef
import Derived.Lib.LaidTab
import Derived.Lib.LaidIn
import Derived.Lib.LaidU8T
import Derived.SizedLaws
namespace Go.Proofs.YthpcpdplcicfoaaGreatDoor
open Go.RowKit Go.Lib
open Go.Shelf Go.ChangeShapes Go.WideShapes Go.ChangeAt Go.RowKit Go.Lib
set_option maxRecDepth 100000
set_option maxHeartbeats 16000000
theorem Tryz.cCells:Tryz.prog.cellsOf 5=1:=by kernel_rfl
theorem dc.cell3{P X:Nat→Prop}{C:Nat}{s:Cs}{w:World}(h:dc P X C s w)(hc:s.cur=none):w.cell? ⟨C,3,none⟩=some (.pointer none):=by
 obtain⟨_,h3,_⟩:=h.cells;exact h3 hc
theorem b9(P X:Nat→Prop)(C:Nat)(s:Cs)(w:World)(h:dc P X C s w):
  Calls Tryz.prog 21 #[.pointer (some ⟨C,0,none⟩),Sn] w fun e w'=>e=.returned (.tuple #[])∧em P X C w {s with cur:=none} w':=by
 cases hc:s.cur with
 |none=>
  have c3:=h.cell3 hc;have HF:=hid (show em P X C w {s with cur:=none} w from by
   have e:({s with cur:=none}:Cs)=s:=by rw[←hc]
   rw[e];exact⟨P,X,h,Nx.refl _ _ _⟩)
  clear h hc
  go_enter Tryz.func21,Tryz.ntmps21
  go_wp2_with fail
  first
   |refine bodyPost_end (results_none rfl _ _ _) rfl ?_
   |refine aH (results_none rfl _ _ _) rfl ?_
  exact⟨rfl,HF.out⟩
 |some c=>
  obtain⟨⟨F,c3⟩,z3,c7,z7⟩:=h.cells2 hc;have HF:=hid h.done;clear h hc
  go_enter Tryz.func21,Tryz.ntmps21
  go_wp2_with fail
  refine wp_loop_rounds 1 ?_;rw[rounds_succ]
  go_wp2_with fail
  first
   |refine bodyPost_end (results_none rfl _ _ _) rfl ?_
   |refine aH (results_none rfl _ _ _) rfl ?_
  exact⟨rfl,HF.out⟩
theorem ct.drewN{w:World}{v:Value}{l:List (List UInt8)}(h:ct w v l)(n:Nat):ct (w.drewN n) v l:=h
theorem eG.drewN{w:World}{v:Value}{l:List (List UInt8×List (List UInt8))}(h:eG w v l)(n:Nat):eG (w.drewN n) v l:=h
theorem eY.drewN{w:World}{v:Value}{l:List Md}(h:eY w v l)(n:Nat):eY (w.drewN n) v l:=h
theorem ak(v u:Value)(r q:List (List UInt8))(w:World)(h1:ct w v r)(h2:ct w u q)(hl:r.length≤140737488355328)(_hl2:q.length≤140737488355328):
  Calls Tryz.prog 87 #[v,u] w fun e w'=>e=.returned (.bool (decide (r=q)))∧∃m,w'=w.drewN m:=by
 obtain⟨H1,H2⟩:=Cg h1 h2;obtain⟨a1,c1,rfl,hc1,hx1⟩:=h1;obtain⟨a2,c2,rfl,hc2,hx2⟩:=h2;clear hx1 hx2
 by_cases hlen:r.length=q.length
 ·have hq:((r.length:Int)==(q.length:Int))=true:=by rw[hlen];simp
  generalize hA:decide (r=q)=ANS;have HA:=hid hA;clear hA
  go_enter Tryz.func87,Tryz.ntmps87
  go_wp2_with fail
  go_loopw [5] (fun i wr=>∃k m:Nat,i=.int .i64 (k:Int)∧k≤r.length∧wr=w.drewN m∧decide (r.drop k=q.drop k)=ANS) (fun i _=>r.length -(RowKit.intOf i).toNat)
  case atStart=>exact⟨0,0,rfl,by omega,rfl,HA.out⟩
  case round=>
   obtain⟨k,m,rfl,hk,rfl,hans⟩:=hrel;clear HA
   by_cases hkl:k<r.length
   ·have hkl2:k<q.length:=by omega
    obtain⟨x,hx⟩:=nmm (r[k]);obtain⟨y,hy⟩:=nmm (q[k]);have hxk:r[k]?=some x:=by rw[aM hkl,hx]
    have hyk:q[k]?=some y:=by rw[aM hkl2,hy]
    have hr0:r≠[]:=by intro e;rw[e] at hkl;simp at hkl
    have hq0:q≠[]:=by intro e;rw[e] at hkl2;simp at hkl2
    rw[List.drop_eq_getElem_cons hkl,hx,List.drop_eq_getElem_cons hkl2,hy] at hans;obtain⟨a3,cap3,e3,_,hcell⟩:=H1.out;obtain⟨g,o,ha,hcc⟩:=hcell hr0;obtain⟨a4,cap4,e4,_,hcell4⟩:=H2.out;obtain⟨g',o',ha',hcc'⟩:=hcell4 hq0;cases e3;cases e4;subst ha ha';have p1:=hcc k x hxk;have p2:=hcc' k y hyk;clear hcc hcell hcc' hcell4 hxk hyk hx hy;have i1:(k:Int)<(r.length:Int):=by omega
    have i2:(k:Int)<(q.length:Int):=by omega
    have i3:decide ((k:Int)<(r.length:Int))=true:=aC i1
    by_cases hxy:x=y
    ·subst hxy
     have hans2:decide (r.drop (k+1)=q.drop (k+1))=ANS:=by rw[←hans];exact decide_eq_decide.2 (by simp)
     have HS:=hid hans2;clear hans hans2
     go_wp2
     go_quiet (fail)
     go_wp2
     exact⟨⟨k+1,_,by go_num,by omega,rfl,HS.out⟩,by simp[RowKit.intOf];omega⟩
    ·have e:ANS=false:=by rw[←hans];exact an (fun e=>hxy (aN e).1)
     subst e;clear hans;have b1:(x==y)=false:=by simpa using hxy
     clear hxy
     go_wp2
     go_quiet (fail)
     go_wp2
     go_ret
     exact⟨rfl,_,World.drewN_drewN _ _ _⟩
   ·obtain rfl:k=r.length:=by omega
    have e:ANS=true:=by rw[←hans,List.drop_of_length_le (ah _),hlen,List.drop_of_length_le (ah _)];rfl
    subst e
    go_wp2_with fail
    go_ret
    first|exact⟨rfl,_,rfl⟩|exact⟨rfl,_,World.drewN_drewN _ _ _⟩
 ·have hq:((r.length:Int)==(q.length:Int))=false:=by simpa using(fun e=>hlen (by omega))
  have e:decide (r=q)=false:=an (fun e=>hlen (by rw[e]));rw[e]
  go_enter Tryz.func87,Tryz.ntmps87
  go_wp2_with fail
  go_ret
  exact⟨rfl,0,rfl⟩
theorem a7(v u:Value)(r q:List Md)(w:World)(h1:eY w v r)(h2:eY w u q)(hl:r.length≤140737488355328)(_hl2:q.length≤140737488355328)(hr:∀x∈r,x.2.2.length≤140737488355328)(hq:∀x∈q,x.2.2.length≤140737488355328):
  Calls Tryz.prog 88 #[v,u] w fun e w'=>e=.returned (.bool (decide (r=q)))∧∃m,w'=w.drewN m:=by
 obtain⟨H1,H2,H3,H4⟩:=Ci h1 h2 hr hq;clear hr hq;obtain⟨a1,c1,rfl,hc1,hx1⟩:=h1;obtain⟨a2,c2,rfl,hc2,hx2⟩:=h2;clear hx1 hx2
 by_cases hlen:r.length=q.length
 ·have hq:((r.length:Int)==(q.length:Int))=true:=by rw[hlen];simp
  generalize hA:decide (r=q)=ANS;have HA:=hid hA;clear hA
  go_enter Tryz.func88,Tryz.ntmps88
  go_wp2_with fail
  go_loopw [5] (fun i wr=>∃k m:Nat,i=.int .i64 (k:Int)∧k≤r.length∧wr=w.drewN m∧decide (r.drop k=q.drop k)=ANS) (fun i _=>r.length -(RowKit.intOf i).toNat)
  case atStart=>exact⟨0,0,rfl,by omega,rfl,HA.out⟩
  case round=>
   obtain⟨k,m,rfl,hk,rfl,hans⟩:=hrel;clear HA
   by_cases hkl:k<r.length
   ·have hkl2:k<q.length:=by omega
    obtain⟨x,hx⟩:=nmm (r[k]);obtain⟨y,hy⟩:=nmm (q[k]);have hxk:r[k]?=some x:=by rw[aM hkl,hx]
    have hyk:q[k]?=some y:=by rw[aM hkl2,hy]
    have hr0:r≠[]:=by intro e;rw[e] at hkl;simp at hkl
    have hq0:q≠[]:=by intro e;rw[e] at hkl2;simp at hkl2
    have hxl:=H3.out x (List.mem_of_getElem? hxk);have hyl:=H4.out y (List.mem_of_getElem? hyk);rw[List.drop_eq_getElem_cons hkl,hx,List.drop_eq_getElem_cons hkl2,hy] at hans;obtain⟨a3,cap3,e3,_,hcell⟩:=H1.out;obtain⟨g,o,ha,hcc⟩:=hcell hr0;obtain⟨a4,cap4,e4,_,hcell4⟩:=H2.out;obtain⟨g',o',ha',hcc'⟩:=hcell4 hq0;cases e3;cases e4;subst ha ha';obtain⟨p1,p2,z1,p3,hz1⟩:=hcc k x hxk;obtain⟨r1,r2,z2,r3,hz2⟩:=hcc' k y hyk;clear hcc hcell hcc' hcell4 hxk hyk hx hy;have i1:(k:Int)<(r.length:Int):=by omega
    have i2:(k:Int)<(q.length:Int):=by omega
    have i3:decide ((k:Int)<(r.length:Int))=true:=aC i1;have ks:=fun a=>(ak z1 z2 x.2.2 y.2.2 (w.drewN (m+a)) (hz1.drewN _) (hz2.drewN _) hxl hyl).mono (fun e w'' h=>(show e=.returned (.bool (decide (x.2.2=y.2.2)))∧∃n,w''=w.drewN (m+n) from⟨h.1,h.2.elim fun n hn=>⟨a+n,by rw[hn,World.drewN_drewN,Nat.add_assoc]⟩⟩))
    obtain⟨s1,d1,e5,_,_⟩:=hz1;obtain⟨s2,d2,e6,_,_⟩:=hz2;subst e5 e6
    by_cases ho:x.1=y.1
    ·have b1:(x.1==y.1)=true:=by simpa using ho
     have b1n:(x.1 !=y.1)=false:=by simp[ho]
     by_cases ht:x.2.1=y.2.1
     ·have b2:(x.2.1==y.2.1)=true:=by simpa using ht
      have b2n:(x.2.1 !=y.2.1)=false:=by simp[ht]
      by_cases hv:x.2.2=y.2.2
      ·have hxy:x=y:=Prod.ext ho (Prod.ext ht hv)
       rw[aC hv] at ks;have hans2:decide (r.drop (k+1)=q.drop (k+1))=ANS:=by rw[←hans];exact decide_eq_decide.2 (by simp[hxy])
       have HS:=hid hans2;clear hans hans2 ho ht hv hxy
       go_wp2
       go_quiet (exact ks _)
       go_wp2
       exact⟨⟨k+1,_,by go_num,by omega,rfl,HS.out⟩,by simp[RowKit.intOf];omega⟩
      ·have e:ANS=false:=by rw[←hans];exact an (fun e=>hv (by rw[(aN e).1]))
       subst e;rw[an hv] at ks;clear hans ho ht hv
       go_wp2
       go_quiet (exact ks _)
       go_wp2
       go_ret
       first|exact⟨rfl,_,rfl⟩|exact⟨rfl,_,World.drewN_drewN _ _ _⟩
     ·have b2:(x.2.1==y.2.1)=false:=by simpa using ht
      have b2n:(x.2.1 !=y.2.1)=true:=by simp[ht]
      have e:ANS=false:=by rw[←hans];exact an (fun e=>ht (by rw[(aN e).1]))
      subst e;clear hans ho ht ks
      go_wp2
      go_quiet (fail)
      go_wp2
      go_ret
      first|exact⟨rfl,_,rfl⟩|exact⟨rfl,_,World.drewN_drewN _ _ _⟩
    ·have b1:(x.1==y.1)=false:=by simpa using ho
     have b1n:(x.1 !=y.1)=true:=by simp[ho]
     have e:ANS=false:=by rw[←hans];exact an (fun e=>ho (by rw[(aN e).1]))
     subst e;clear hans ho ks
     go_wp2
     go_quiet (fail)
     go_wp2
     go_ret
     exact⟨rfl,_,World.drewN_drewN _ _ _⟩
   ·obtain rfl:k=r.length:=by omega
    have e:ANS=true:=by rw[←hans,List.drop_of_length_le (ah _),hlen,List.drop_of_length_le (ah _)];rfl
    subst e
    go_wp2_with fail
    go_ret
    first|exact⟨rfl,_,rfl⟩|exact⟨rfl,_,World.drewN_drewN _ _ _⟩
 ·have hq:((r.length:Int)==(q.length:Int))=false:=by simpa using(fun e=>hlen (by omega))
  have e:decide (r=q)=false:=an (fun e=>hlen (by rw[e]));rw[e]
  go_enter Tryz.func88,Tryz.ntmps88
  go_wp2_with fail
  go_ret
  exact⟨rfl,0,rfl⟩
theorem aF(v u:Value)(r q:List (List UInt8×List (List UInt8)))(w:World)(h1:eG w v r)(h2:eG w u q)(hl:r.length≤140737488355328)(_hl2:q.length≤140737488355328)(hr:∀x∈r,x.2.length≤140737488355328)(hq:∀x∈q,x.2.length≤140737488355328):
  Calls Tryz.prog 89 #[v,u] w fun e w'=>e=.returned (.bool (decide (r=q)))∧∃m,w'=w.drewN m:=by
 obtain⟨H1,H2,H3,H4⟩:=Ci h1 h2 hr hq;clear hr hq;obtain⟨a1,c1,rfl,hc1,hx1⟩:=h1;obtain⟨a2,c2,rfl,hc2,hx2⟩:=h2;clear hx1 hx2
 by_cases hlen:r.length=q.length
 ·have hq:((r.length:Int)==(q.length:Int))=true:=by rw[hlen];simp
  generalize hA:decide (r=q)=ANS;have HA:=hid hA;clear hA
  go_enter Tryz.func89,Tryz.ntmps89
  go_wp2_with fail
  go_loopw [5] (fun i wr=>∃k m:Nat,i=.int .i64 (k:Int)∧k≤r.length∧wr=w.drewN m∧decide (r.drop k=q.drop k)=ANS) (fun i _=>r.length -(RowKit.intOf i).toNat)
  case atStart=>exact⟨0,0,rfl,by omega,rfl,HA.out⟩
  case round=>
   obtain⟨k,m,rfl,hk,rfl,hans⟩:=hrel;clear HA
   by_cases hkl:k<r.length
   ·have hkl2:k<q.length:=by omega
    obtain⟨x,hx⟩:=nmm (r[k]);obtain⟨y,hy⟩:=nmm (q[k]);have hxk:r[k]?=some x:=by rw[aM hkl,hx]
    have hyk:q[k]?=some y:=by rw[aM hkl2,hy]
    have hr0:r≠[]:=by intro e;rw[e] at hkl;simp at hkl
    have hq0:q≠[]:=by intro e;rw[e] at hkl2;simp at hkl2
    have hxl:=H3.out x (List.mem_of_getElem? hxk);have hyl:=H4.out y (List.mem_of_getElem? hyk);rw[List.drop_eq_getElem_cons hkl,hx,List.drop_eq_getElem_cons hkl2,hy] at hans;obtain⟨a3,cap3,e3,_,hcell⟩:=H1.out;obtain⟨g,o,ha,hcc⟩:=hcell hr0;obtain⟨a4,cap4,e4,_,hcell4⟩:=H2.out;obtain⟨g',o',ha',hcc'⟩:=hcell4 hq0;cases e3;cases e4;subst ha ha';obtain⟨p1,z1,p3,hz1⟩:=hcc k x hxk;obtain⟨r1,z2,r3,hz2⟩:=hcc' k y hyk;clear hcc hcell hcc' hcell4 hxk hyk hx hy;have i1:(k:Int)<(r.length:Int):=by omega
    have i2:(k:Int)<(q.length:Int):=by omega
    have i3:decide ((k:Int)<(r.length:Int))=true:=aC i1;obtain⟨HZ1,HZ2⟩:=Cg hz1 hz2;obtain⟨s1,d1,e5,_,_⟩:=hz1;obtain⟨s2,d2,e6,_,_⟩:=hz2;subst e5 e6
    by_cases ht:x.1=y.1
    ·have b1:(x.1==y.1)=true:=by simpa using ht
     have b1n:(x.1 !=y.1)=false:=by simp[ht]
     by_cases hv:x.2.length=y.2.length
     ·have b2:((x.2.length:Int)==(y.2.length:Int))=true:=by rw[hv];simp
      have hans2:decide (x.2.drop 0=y.2.drop 0∧r.drop (k+1)=q.drop (k+1))=ANS:=by
       rw[←hans];refine decide_eq_decide.2 ⟨fun h=>?_,fun h=>?_⟩
       ·have:x=y:=Prod.ext ht (by simpa using h.1)
        rw[this,h.2]
       ·have:=aN h
        exact⟨by rw[this.1],this.2⟩
      have HS:=hid hans2;clear hans hans2 ht
      go_wp2
      go_quiet (fail)
      go_wp2
      go_loopw [6] (fun i wr=>∃j m:Nat,i=.int .i64 (j:Int)∧j≤x.2.length∧wr=w.drewN m∧decide (x.2.drop j=y.2.drop j∧r.drop (k+1)=q.drop (k+1))=ANS) (fun i _=>x.2.length -(RowKit.intOf i).toNat)
      case atStart=>exact⟨0,_,rfl,by omega,World.drewN_drewN _ _ _,HS.out⟩
      case round=>
       obtain⟨j,m2,rfl,hj,rfl,hans⟩:=hrel;clear HS
       by_cases hjl:j<x.2.length
       ·have hjl2:j<y.2.length:=by omega
        obtain⟨xv0,hxv⟩:=nmm (x.2[j]);obtain⟨yv0,hyv⟩:=nmm (y.2[j]);have hxk:x.2[j]?=some xv0:=by rw[aM hjl,hxv]
        have hyk:y.2[j]?=some yv0:=by rw[aM hjl2,hyv]
        have hr0:x.2≠[]:=by intro e;rw[e] at hjl;simp at hjl
        have hq0:y.2≠[]:=by intro e;rw[e] at hjl2;simp at hjl2
        rw[List.drop_eq_getElem_cons hjl,hxv,List.drop_eq_getElem_cons hjl2,hyv] at hans;obtain⟨a5,cap5,e5,_,hcell⟩:=HZ1.out;obtain⟨g5,o5,ha,hcc⟩:=hcell hr0;obtain⟨a6,cap6,e6,_,hcell4⟩:=HZ2.out;obtain⟨g6,o6,ha',hcc'⟩:=hcell4 hq0;cases e5;cases e6;subst ha ha';have t1:=hcc j xv0 hxk;have t2:=hcc' j yv0 hyk;clear hcc hcell hcc' hcell4 hxk hyk hxv hyv;have i4:(j:Int)<(x.2.length:Int):=by omega
        have i5:(j:Int)<(y.2.length:Int):=by omega
        have i6:decide ((j:Int)<(x.2.length:Int))=true:=aC i4
        by_cases hxy:xv0=yv0
        ·subst hxy
         have hans2:decide (x.2.drop (j+1)=y.2.drop (j+1)∧r.drop (k+1)=q.drop (k+1))=ANS:=by rw[←hans];exact decide_eq_decide.2 (by simp)
         have HS:=hid hans2;clear hans hans2
         go_wp2
         go_quiet (fail)
         go_wp2
         exact⟨⟨j+1,_,by go_num,by omega,rfl,HS.out⟩,by simp[RowKit.intOf];omega⟩
        ·have e:ANS=false:=by rw[←hans];exact an (fun e=>hxy (aN e.1).1)
         subst e;clear hans;have b3:(xv0==yv0)=false:=by simpa using hxy
         have b3n:(xv0 !=yv0)=true:=by simp[hxy]
         clear hxy
         go_wp2
         go_quiet (fail)
         go_wp2
         go_ret
         first|exact⟨rfl,_,rfl⟩|exact⟨rfl,_,World.drewN_drewN _ _ _⟩
       ·obtain rfl:j=x.2.length:=by omega
        have hans2:decide (r.drop (k+1)=q.drop (k+1))=ANS:=by
         rw[←hans,List.drop_of_length_le (ah _),hv,List.drop_of_length_le (ah _)]
         simp
        have HS:=hid hans2;clear hans hans2
        go_wp2_with fail
        exact⟨⟨k+1,_,by go_num,by omega,rfl,HS.out⟩,by simp[RowKit.intOf];omega⟩
     ·have b2:((x.2.length:Int)==(y.2.length:Int))=false:=by simpa using(fun e=>hv (by omega))
      have e:ANS=false:=by rw[←hans];exact an (fun e=>hv (by rw[(aN e).1]))
      subst e;clear hans ht hv
      go_wp2
      go_quiet (fail)
      go_wp2
      go_ret
      first|exact⟨rfl,_,rfl⟩|exact⟨rfl,_,World.drewN_drewN _ _ _⟩
    ·have b1:(x.1==y.1)=false:=by simpa using ht
     have b1n:(x.1 !=y.1)=true:=by simp[ht]
     have e:ANS=false:=by rw[←hans];exact an (fun e=>ht (by rw[(aN e).1]))
     subst e;clear hans ht
     go_wp2
     go_quiet (fail)
     go_wp2
     go_ret
     exact⟨rfl,_,World.drewN_drewN _ _ _⟩
   ·obtain rfl:k=r.length:=by omega
    have e:ANS=true:=by rw[←hans,List.drop_of_length_le (ah _),hlen,List.drop_of_length_le (ah _)];rfl
    subst e
    go_wp2_with fail
    go_ret
    first|exact⟨rfl,_,rfl⟩|exact⟨rfl,_,World.drewN_drewN _ _ _⟩
 ·have hq:((r.length:Int)==(q.length:Int))=false:=by simpa using(fun e=>hlen (by omega))
  have e:decide (r=q)=false:=an (fun e=>hlen (by rw[e]));rw[e]
  go_enter Tryz.func89,Tryz.ntmps89
  go_wp2_with fail
  go_ret
  exact⟨rfl,0,rfl⟩
theorem ad{P:Program}{md:Region.Mode}{ops:Array Oper}{Q:Exit→Act→World→Prop}{S:World→Prop}(i:Nat)(ty:TypeId)(x:Operand)(b o:Nat)(cs:List Value)(d:TypeDesc){oi:Oper}{fuel:Nat}{listed:Array Bool}{a:Act}{w:World}(hi:ops[i]?=some oi)(ho:oi.op=.load ty x)
  (hs:Region.noSelect ops=true) (hf:Region.free md ops listed i=true) (hr:(Region.ready md ops listed).contains i=true) (hQ:∀c a w,Q (.panic c) (a.put oi.dst (.agg cs.toArray)) w→Q (.panic c) a w)
  (hw:Region.wanted oi (yielded ops a.tmps)=true) (hx:a.eval x=.pointer (some ⟨b,o,none⟩)) (hS:∀w,S w→w.rangeAt b o cs) (hu:P.underlying ty=some d) (hd:d.isRow=true) (hn:(P.info? ty).map (·.size)=some cs.length) (hSw:S w)
  (h:∀K':Act→World→Prop,(∀a w,wpAnyH P md ops Q S fuel (listed.setIfInBounds i true) a w→K' a w)→K' (a.put oi.dst (.agg cs.toArray)) w):wpAnyH P md ops Q S (fuel+1) listed a w:=
 wpAnyH_take hi hs hf hr hQ (yieldsIf_load_mid hw ty x ho b o hx cs d hS hu hd hn) hSw (h _ (fun _ _ k=>k))
theorem cL{w:World}{g o:Nat}{a b c d:Value}(h:w.cell? ⟨g,o,none⟩=some a∧w.cell? ⟨g,o+1,none⟩=some b∧w.cell? ⟨g,o+2,none⟩=some c∧w.cell? ⟨g,o+3,none⟩=some d):w.rangeAt g o [a,b,c,d]:=by
 obtain⟨h0,h1,h2,h3⟩:=h;intro j v hv
 match j,hv with
 |0,hv=>simp at hv;subst hv;exact h0
 |1,hv=>simp at hv;subst hv;exact h1
 |2,hv=>simp at hv;subst hv;exact h2
 |3,hv=>simp at hv;subst hv;exact h3
 |_+4,hv=>simp at hv
theorem ap(v u:Value)(r:List Ct)(w:World)(h1:ig w v r)(h2:ig w u r)(hl:r.length≤140737488355328):
  Cr 90 #[v,u] w (.bool true):=by
 obtain⟨H1,H2⟩:=Cg h1 h2;obtain⟨a1,c1,rfl,hc1,hx1⟩:=h1;obtain⟨a2,c2,rfl,hc2,hx2⟩:=h2;clear hx1 hx2;have hq:((r.length:Int)==(r.length:Int))=true:=by simp
 go_enter Tryz.func90,Tryz.ntmps90
 go_wp2_with fail
 go_loopw [5] (fun i wr=>∃k:Nat,i=.int .i64 (k:Int)∧k≤r.length∧Below w.heap.size w wr) (fun i _=>r.length -(RowKit.intOf i).toNat)
 case atStart=>exact⟨0,rfl,by omega,aA _ _⟩
 case round=>
  obtain⟨k,rfl,hk,hb⟩:=hrel
  by_cases hkl:k<r.length
  ·obtain⟨x,hx⟩:∃x,r[k]=x:=⟨_,rfl⟩
   have hxk:r[k]?=some x:=by rw[aM hkl,hx]
   have hr0:r≠[]:=by intro e;rw[e] at hkl;simp at hkl
   obtain⟨a3,cap3,e3,_,hcell⟩:=(H1.out).below hb;obtain⟨g,o,ha,hcc⟩:=hcell hr0;obtain⟨a4,cap4,e4,_,hcell4⟩:=(H2.out).below hb;obtain⟨g',o',ha',hcc'⟩:=hcell4 hr0;cases e3;cases e4;subst ha ha';have i1:(k:Int)<(r.length:Int):=by omega
   have i3:decide ((k:Int)<(r.length:Int))=true:=aC i1;have hbs:=hb.size;have R1:wr.rangeAt g (o+k*4) [.string ⟨x.oid.toArray⟩,.bool x.crit,.bool x.has,.string ⟨x.value.toArray⟩]:=cL (hcc k x hxk);have R2:wr.rangeAt g' (o'+k*4) [.string ⟨x.oid.toArray⟩,.bool x.crit,.bool x.has,.string ⟨x.value.toArray⟩]:=cL (hcc' k x hxk);clear hcc hcell hcc' hcell4 hxk hx
   go_upto_region 6 with fail
   refine aR (S:=fun w'=>w'.rangeAt g (o+k*4) [.string ⟨x.oid.toArray⟩,.bool x.crit,.bool x.has,.string ⟨x.value.toArray⟩]∧w'.rangeAt g' (o'+k*4) [.string ⟨x.oid.toArray⟩,.bool x.crit,.bool x.has,.string ⟨x.value.toArray⟩]) (by kernel_rfl) ?_;have TT:wr.drew.rangeAt g (o+k*4) [.string ⟨x.oid.toArray⟩,.bool x.crit,.bool x.has,.string ⟨x.value.toArray⟩]∧wr.drew.rangeAt g' (o'+k*4) [.string ⟨x.oid.toArray⟩,.bool x.crit,.bool x.has,.string ⟨x.value.toArray⟩]:=⟨R1,R2⟩;have hb:=hb.drew
   change wpAnyH _ _ _ _ _ _ _ _ wr.drew
   clear R1 R2;generalize wr.drew=w4 at TT hb⊢;refine tn 0 (.slice (some ⟨g,o,none⟩) r.length c1) rfl (fun w' hS=>by go_simp) TT ?_;refine tn 1 (.int .i64 (k:Int)) rfl (fun w' hS=>by go_simp) TT ?_;refine tp 2 ⟨g,o+k*4,none⟩ rfl TT ?_;refine ad 3 105 (.tmp 19) g (o+k*4) [.string ⟨x.oid.toArray⟩,.bool x.crit,.bool x.has,.string ⟨x.value.toArray⟩] _ rfl rfl (by kernel_rfl) (by kernel_rfl) (by kernel_rfl) (fun _ _ _ h=>h) (by rfl) (by rfl) (fun w' hS=>hS.1) Tryz.underlying105 rfl (by rfl) TT (kkn ?_);refine tn 4 (.slice (some ⟨g',o',none⟩) r.length c2) rfl (fun w' hS=>by go_simp) TT ?_;refine tn 5 (.int .i64 (k:Int)) rfl (fun w' hS=>by go_simp) TT ?_;refine tp 6 ⟨g',o'+k*4,none⟩ rfl TT ?_;refine ad 7 105 (.tmp 23) g' (o'+k*4) [.string ⟨x.oid.toArray⟩,.bool x.crit,.bool x.has,.string ⟨x.value.toArray⟩] _ rfl rfl (by kernel_rfl) (by kernel_rfl) (by kernel_rfl) (fun _ _ _ h=>h) (by rfl) (by rfl) (fun w' hS=>hS.2) Tryz.underlying105 rfl (by rfl) TT (kkn ?_);refine ao 8 rfl (kks TT ?_);refine ba (by kernel_rfl) ?_ _;simp only[Exit.then];refine‹∀(a:Act) (w:World),Code.wp _ _ _ a w→_› _ _ ?_
   go_wp2_with fail
   exact⟨⟨k+1,by go_num,by omega,hb⟩,by simp[RowKit.intOf];omega⟩
  ·obtain rfl:k=r.length:=by omega
   go_wp2_with fail
   go_ret
   exact⟨rfl,hb⟩
theorem cS{w:World}{g o:Nat}{p:Fl}{u:Value}(h0:w.cell? ⟨g,o,none⟩=some (.int .i64 p.op))(h1:w.cell? ⟨g,o+1,none⟩=some (.int .i64 p.n))(h2:w.cell? ⟨g,o+2,none⟩=some (.string ⟨p.typ.toArray⟩))(h3:w.cell? ⟨g,o+3,none⟩=some (.string ⟨p.value.toArray⟩))(h4:w.cell? ⟨g,o+4,none⟩=some (.string ⟨p.init.toArray⟩))(h5:w.cell? ⟨g,o+5,none⟩=some (.string ⟨p.final.toArray⟩))(h6:w.cell? ⟨g,o+6,none⟩=some u):
  w.rangeAt g o [.int .i64 p.op,.int .i64 p.n,.string ⟨p.typ.toArray⟩,.string ⟨p.value.toArray⟩,.string ⟨p.init.toArray⟩,.string ⟨p.final.toArray⟩,u]:=by
 intro j v hv
 match j,hv with
 |0,hv=>simp at hv;subst hv;exact h0
 |1,hv=>simp at hv;subst hv;exact h1
 |2,hv=>simp at hv;subst hv;exact h2
 |3,hv=>simp at hv;subst hv;exact h3
 |4,hv=>simp at hv;subst hv;exact h4
 |5,hv=>simp at hv;subst hv;exact h5
 |6,hv=>simp at hv;subst hv;exact h6
 |_+7,hv=>simp at hv
theorem aa{w w':World}{g o:Nat}{cs:List Value}(h:w.rangeAt g o cs)(hb:Below w.heap.size w w'):w'.rangeAt g o cs:=fun j v hv=>(hb.cell (bj (h j v hv))).trans (h j v hv)
theorem cB{w w':World}{g:Nat}{x:Obj}(h:Below w.heap.size w w')(hx:w.heap[g]?=some x):w'.heap[g]?=some x:=(h.block g (gl hx)).trans hx
theorem ae{B:Nat}{a w:World}(h:Below B a w)(n:Nat):Below B a (w.drewN n):=⟨h.os,h.tape,h.output,h.size,h.block⟩
theorem aL(v u:Value)(r:List Fl)(w:World)(h1:de w v r)(h2:de w u r)(hl:r.length≤140737488355328)(hf:∀x∈r,x.any.length≤140737488355328):
  Cr 86 #[v,u] w (.bool true):=by
 obtain⟨H1,H2⟩:=Cg h1 h2;obtain⟨a1,c1,rfl,hc1,hx1⟩:=h1;obtain⟨a2,c2,rfl,hc2,hx2⟩:=h2;clear hx1 hx2;have H3:=hid hf;clear hf;have hq:((r.length:Int)==(r.length:Int))=true:=by simp
 go_enter Tryz.func86,Tryz.ntmps86
 go_wp2_with fail
 go_loopw [5] (fun i wr=>∃k:Nat,i=.int .i64 (k:Int)∧k≤r.length∧Below w.heap.size w wr) (fun i _=>r.length -(RowKit.intOf i).toNat)
 case atStart=>exact⟨0,rfl,by omega,aA _ _⟩
 case round=>
  obtain⟨k,rfl,hk,hb⟩:=hrel
  by_cases hkl:k<r.length
  ·obtain⟨x,hx⟩:∃x,r[k]=x:=⟨_,rfl⟩
   have hxk:r[k]?=some x:=by rw[aM hkl,hx]
   have hr0:r≠[]:=by intro e;rw[e] at hkl;simp at hkl
   obtain⟨a3,cap3,e3,_,hcell⟩:=(H1.out).below hb;obtain⟨g,o,ha,hcc⟩:=hcell hr0;obtain⟨a4,cap4,e4,_,hcell4⟩:=(H2.out).below hb;obtain⟨g',o',ha',hcc'⟩:=hcell4 hr0;cases e3;cases e4;subst ha ha';have i1:(k:Int)<(r.length:Int):=by omega
   have i3:decide ((k:Int)<(r.length:Int))=true:=aC i1;have hbs:=hb.size;obtain⟨p0,p1,p2,p3,p4,p5,z1,p6,hz1⟩:=hcc k x hxk;obtain⟨r0,r1,r2,r3,r4,r5,z2,r6,hz2⟩:=hcc' k x hxk;have hxl:=H3.out x (List.mem_of_getElem? hxk);have R1:=cS p0 p1 p2 p3 p4 p5 p6;have R2:=cS r0 r1 r2 r3 r4 r5 r6;obtain⟨HZ1,HZ2⟩:=Cg hz1 hz2;obtain⟨s1,d1,e5,_,_⟩:=hz1;obtain⟨s2,d2,e6,_,_⟩:=hz2;subst e5 e6;clear hcc hcell hcc' hcell4 hxk hx p0 p1 p2 p3 p4 p5 p6 r0 r1 r2 r3 r4 r5 r6
   go_upto_region 6 with fail
   refine aR (S:=fun w'=>w'.rangeAt g (o+k*7) [.int .i64 x.op,.int .i64 x.n,.string ⟨x.typ.toArray⟩,.string ⟨x.value.toArray⟩,.string ⟨x.init.toArray⟩,.string ⟨x.final.toArray⟩,.slice s1 x.any.length d1]∧w'.rangeAt g' (o'+k*7) [.int .i64 x.op,.int .i64 x.n,.string ⟨x.typ.toArray⟩,.string ⟨x.value.toArray⟩,.string ⟨x.init.toArray⟩,.string ⟨x.final.toArray⟩,.slice s2 x.any.length d2]) (by kernel_rfl) ?_;have TT:wr.drew.rangeAt g (o+k*7) [.int .i64 x.op,.int .i64 x.n,.string ⟨x.typ.toArray⟩,.string ⟨x.value.toArray⟩,.string ⟨x.init.toArray⟩,.string ⟨x.final.toArray⟩,.slice s1 x.any.length d1]∧wr.drew.rangeAt g' (o'+k*7) [.int .i64 x.op,.int .i64 x.n,.string ⟨x.typ.toArray⟩,.string ⟨x.value.toArray⟩,.string ⟨x.init.toArray⟩,.string ⟨x.final.toArray⟩,.slice s2 x.any.length d2]:=⟨R1,R2⟩;obtain⟨Z1,Z2⟩:=Cg (HZ1.out.below (w':=wr.drew) (aA _ _).drew) (HZ2.out.below (w':=wr.drew) (aA _ _).drew);have hb:=hb.drew
   change wpAnyH _ _ _ _ _ _ _ _ wr.drew
   clear R1 R2 HZ1 HZ2;generalize wr.drew=w4 at TT hb Z1 Z2⊢;have bC0:=aA w4.heap.size w4;refine tn 0 (.slice (some ⟨g,o,none⟩) r.length c1) rfl (fun w' hS=>by go_simp) TT ?_;refine tn 1 (.int .i64 (k:Int)) rfl (fun w' hS=>by go_simp) TT ?_;refine tp 2 ⟨g,o+k*7,none⟩ rfl TT ?_;refine ad 3 167 (.tmp 21) g (o+k*7) [.int .i64 x.op,.int .i64 x.n,.string ⟨x.typ.toArray⟩,.string ⟨x.value.toArray⟩,.string ⟨x.init.toArray⟩,.string ⟨x.final.toArray⟩,.slice s1 x.any.length d1] _ rfl rfl (by kernel_rfl) (by kernel_rfl) (by kernel_rfl) (fun _ _ _ h=>h) (by rfl) (by rfl) (fun w' hS=>hS.1) Tryz.underlying167 rfl (by rfl) TT (kkn ?_);refine tn 4 (.slice (some ⟨g',o',none⟩) r.length c2) rfl (fun w' hS=>by go_simp) TT ?_;refine tn 5 (.int .i64 (k:Int)) rfl (fun w' hS=>by go_simp) TT ?_;refine tp 6 ⟨g',o'+k*7,none⟩ rfl TT ?_;refine ad 7 167 (.tmp 25) g' (o'+k*7) [.int .i64 x.op,.int .i64 x.n,.string ⟨x.typ.toArray⟩,.string ⟨x.value.toArray⟩,.string ⟨x.init.toArray⟩,.string ⟨x.final.toArray⟩,.slice s2 x.any.length d2] _ rfl rfl (by kernel_rfl) (by kernel_rfl) (by kernel_rfl) (fun _ _ _ h=>h) (by rfl) (by rfl) (fun w' hS=>hS.2) Tryz.underlying167 rfl (by rfl) TT (kkn ?_);have T0:=hid TT;refine fq 8 9 (by kernel_rfl) rfl (by rfl) rfl (by rfl) (fun K hK=>?P1) (fun K hK=>?P2)
   case' P1=>
    have fX0:=alz w4 Zf 167;have m:=alb w4 Zf 167;have bC0:=btt bC0 m;have TT:(w4.alloc (.cells Zf 167)).rangeAt g (o+k*7) [.int .i64 x.op,.int .i64 x.n,.string ⟨x.typ.toArray⟩,.string ⟨x.value.toArray⟩,.string ⟨x.init.toArray⟩,.string ⟨x.final.toArray⟩,.slice s1 x.any.length d1]∧(w4.alloc (.cells Zf 167)).rangeAt g' (o'+k*7) [.int .i64 x.op,.int .i64 x.n,.string ⟨x.typ.toArray⟩,.string ⟨x.value.toArray⟩,.string ⟨x.init.toArray⟩,.string ⟨x.final.toArray⟩,.slice s2 x.any.length d2]:=⟨aa TT.1 m,aa TT.2 m⟩;go_simp;refine hK _ _ TT ?_;clear hK K
    clear m;obtain⟨X,hX⟩:=nmm w4.heap.size;generalize(w4.alloc (.cells Zf 167))=w5 at TT bC0 fX0⊢;rw[hX] at fX0⊢;have lX0:w4.heap.size≤X:=Nat.le_of_eq hX;clear hX;refine ao 9 rfl (fun K hK=>?_);have fY0:=alz w5 Zf 167;have m:=alb w5 Zf 167;have lw0:=bC0.size;have bC0:=btt bC0 m;have lY0:w4.heap.size≤w5.heap.size:=lw0;have TT:(w5.alloc (.cells Zf 167)).rangeAt g (o+k*7) [.int .i64 x.op,.int .i64 x.n,.string ⟨x.typ.toArray⟩,.string ⟨x.value.toArray⟩,.string ⟨x.init.toArray⟩,.string ⟨x.final.toArray⟩,.slice s1 x.any.length d1]∧(w5.alloc (.cells Zf 167)).rangeAt g' (o'+k*7) [.int .i64 x.op,.int .i64 x.n,.string ⟨x.typ.toArray⟩,.string ⟨x.value.toArray⟩,.string ⟨x.init.toArray⟩,.string ⟨x.final.toArray⟩,.slice s2 x.any.length d2]:=⟨aa TT.1 m,aa TT.2 m⟩;have dX0:X≠w5.heap.size:=by have:=(gl fX0);omega
    have fX0:=cB m fX0;go_simp;refine hK _ _ TT ?_;clear hK K
    clear m;obtain⟨Y,hY⟩:=nmm w5.heap.size;generalize(w5.alloc (.cells Zf 167))=w6 at TT bC0 fY0 fX0⊢;rw[hY] at fY0 lY0 dX0⊢
    
    clear hY;refine ao 10 rfl (fun K hK=>?_);have bC0:=bm bC0 lX0 (Xr x s1 d1);have gX0:=setRow_heap w6 X _ (Xr x s1 d1) _ _ fX0;have TT:(w6.setRow X (Xr x s1 d1)).rangeAt g (o+k*7) [.int .i64 x.op,.int .i64 x.n,.string ⟨x.typ.toArray⟩,.string ⟨x.value.toArray⟩,.string ⟨x.init.toArray⟩,.string ⟨x.final.toArray⟩,.slice s1 x.any.length d1]∧(w6.setRow X (Xr x s1 d1)).rangeAt g' (o'+k*7) [.int .i64 x.op,.int .i64 x.n,.string ⟨x.typ.toArray⟩,.string ⟨x.value.toArray⟩,.string ⟨x.init.toArray⟩,.string ⟨x.final.toArray⟩,.slice s2 x.any.length d2]:=⟨aa T0.out.1 bC0,aa T0.out.2 bC0⟩;have fY0:=(setRow_other w6 X Y (Xr x s1 d1) (by omega)).trans fY0;refine db 167 (.tmp 6) (.tmp 22) rfl X 167 _ (Xr x s1 d1) (by rfl) (by rfl) fX0 (by rfl) (by rfl) (by simp[Value.oneCell']) ?_;refine hK _ _ TT ?_;clear hK K
    clear fX0;generalize(w6.setRow X (Xr x s1 d1))=w7 at TT bC0 gX0 fY0⊢;have fX0:=gX0;clear gX0;refine ao 11 rfl (fun K hK=>?_);have bC0:=bm bC0 lY0 (Xr x s2 d2);have gY0:=setRow_heap w7 Y _ (Xr x s2 d2) _ _ fY0;have TT:(w7.setRow Y (Xr x s2 d2)).rangeAt g (o+k*7) [.int .i64 x.op,.int .i64 x.n,.string ⟨x.typ.toArray⟩,.string ⟨x.value.toArray⟩,.string ⟨x.init.toArray⟩,.string ⟨x.final.toArray⟩,.slice s1 x.any.length d1]∧(w7.setRow Y (Xr x s2 d2)).rangeAt g' (o'+k*7) [.int .i64 x.op,.int .i64 x.n,.string ⟨x.typ.toArray⟩,.string ⟨x.value.toArray⟩,.string ⟨x.init.toArray⟩,.string ⟨x.final.toArray⟩,.slice s2 x.any.length d2]:=⟨aa T0.out.1 bC0,aa T0.out.2 bC0⟩;have fX0:=(setRow_other w7 Y X (Xr x s2 d2) (by omega)).trans fX0;refine db 167 (.tmp 7) (.tmp 26) rfl Y 167 _ (Xr x s2 d2) (by rfl) (by rfl) fY0 (by rfl) (by rfl) (by simp[Value.oneCell']) ?_;refine hK _ _ TT ?_;clear hK K
    clear fY0;generalize(w7.setRow Y (Xr x s2 d2))=w8 at TT bC0 gY0 fX0⊢;have fY0:=gY0;clear gY0
   case' P2=>
    have fY0:=alz w4 Zf 167;have m:=alb w4 Zf 167;have bC0:=btt bC0 m;have TT:(w4.alloc (.cells Zf 167)).rangeAt g (o+k*7) [.int .i64 x.op,.int .i64 x.n,.string ⟨x.typ.toArray⟩,.string ⟨x.value.toArray⟩,.string ⟨x.init.toArray⟩,.string ⟨x.final.toArray⟩,.slice s1 x.any.length d1]∧(w4.alloc (.cells Zf 167)).rangeAt g' (o'+k*7) [.int .i64 x.op,.int .i64 x.n,.string ⟨x.typ.toArray⟩,.string ⟨x.value.toArray⟩,.string ⟨x.init.toArray⟩,.string ⟨x.final.toArray⟩,.slice s2 x.any.length d2]:=⟨aa TT.1 m,aa TT.2 m⟩;go_simp;refine hK _ _ TT ?_;clear hK K
    clear m;obtain⟨Y,hY⟩:=nmm w4.heap.size;generalize(w4.alloc (.cells Zf 167))=w5 at TT bC0 fY0⊢;rw[hY] at fY0⊢;have lY0:w4.heap.size≤Y:=Nat.le_of_eq hY;clear hY;refine ao 8 rfl (fun K hK=>?_);have fX0:=alz w5 Zf 167;have m:=alb w5 Zf 167;have lw0:=bC0.size;have bC0:=btt bC0 m;have lX0:w4.heap.size≤w5.heap.size:=lw0;have TT:(w5.alloc (.cells Zf 167)).rangeAt g (o+k*7) [.int .i64 x.op,.int .i64 x.n,.string ⟨x.typ.toArray⟩,.string ⟨x.value.toArray⟩,.string ⟨x.init.toArray⟩,.string ⟨x.final.toArray⟩,.slice s1 x.any.length d1]∧(w5.alloc (.cells Zf 167)).rangeAt g' (o'+k*7) [.int .i64 x.op,.int .i64 x.n,.string ⟨x.typ.toArray⟩,.string ⟨x.value.toArray⟩,.string ⟨x.init.toArray⟩,.string ⟨x.final.toArray⟩,.slice s2 x.any.length d2]:=⟨aa TT.1 m,aa TT.2 m⟩;have dY0:Y≠w5.heap.size:=by have:=(gl fY0);omega
    have fY0:=cB m fY0;go_simp;refine hK _ _ TT ?_;clear hK K
    clear m;obtain⟨X,hX⟩:=nmm w5.heap.size;generalize(w5.alloc (.cells Zf 167))=w6 at TT bC0 fX0 fY0⊢;rw[hX] at fX0 lX0 dY0⊢
    
    clear hX;refine ao 10 rfl (fun K hK=>?_);have bC0:=bm bC0 lX0 (Xr x s1 d1);have gX0:=setRow_heap w6 X _ (Xr x s1 d1) _ _ fX0;have TT:(w6.setRow X (Xr x s1 d1)).rangeAt g (o+k*7) [.int .i64 x.op,.int .i64 x.n,.string ⟨x.typ.toArray⟩,.string ⟨x.value.toArray⟩,.string ⟨x.init.toArray⟩,.string ⟨x.final.toArray⟩,.slice s1 x.any.length d1]∧(w6.setRow X (Xr x s1 d1)).rangeAt g' (o'+k*7) [.int .i64 x.op,.int .i64 x.n,.string ⟨x.typ.toArray⟩,.string ⟨x.value.toArray⟩,.string ⟨x.init.toArray⟩,.string ⟨x.final.toArray⟩,.slice s2 x.any.length d2]:=⟨aa T0.out.1 bC0,aa T0.out.2 bC0⟩;have fY0:=(setRow_other w6 X Y (Xr x s1 d1) (by omega)).trans fY0;refine db 167 (.tmp 6) (.tmp 22) rfl X 167 _ (Xr x s1 d1) (by rfl) (by rfl) fX0 (by rfl) (by rfl) (by simp[Value.oneCell']) ?_;refine hK _ _ TT ?_;clear hK K
    clear fX0;generalize(w6.setRow X (Xr x s1 d1))=w7 at TT bC0 gX0 fY0⊢;have fX0:=gX0;clear gX0;refine ao 11 rfl (fun K hK=>?_);have bC0:=bm bC0 lY0 (Xr x s2 d2);have gY0:=setRow_heap w7 Y _ (Xr x s2 d2) _ _ fY0;have TT:(w7.setRow Y (Xr x s2 d2)).rangeAt g (o+k*7) [.int .i64 x.op,.int .i64 x.n,.string ⟨x.typ.toArray⟩,.string ⟨x.value.toArray⟩,.string ⟨x.init.toArray⟩,.string ⟨x.final.toArray⟩,.slice s1 x.any.length d1]∧(w7.setRow Y (Xr x s2 d2)).rangeAt g' (o'+k*7) [.int .i64 x.op,.int .i64 x.n,.string ⟨x.typ.toArray⟩,.string ⟨x.value.toArray⟩,.string ⟨x.init.toArray⟩,.string ⟨x.final.toArray⟩,.slice s2 x.any.length d2]:=⟨aa T0.out.1 bC0,aa T0.out.2 bC0⟩;have fX0:=(setRow_other w7 Y X (Xr x s2 d2) (by omega)).trans fX0;refine db 167 (.tmp 7) (.tmp 26) rfl Y 167 _ (Xr x s2 d2) (by rfl) (by rfl) fY0 (by rfl) (by rfl) (by simp[Value.oneCell']) ?_;refine hK _ _ TT ?_;clear hK K
    clear fY0;generalize(w7.setRow Y (Xr x s2 d2))=w8 at TT bC0 gY0 fX0⊢;have fY0:=gY0;clear gY0
   all_goals
    refine ba (by kernel_rfl) ?_ _
    try simp only[Exit.then]
    refine‹∀(a:Act) (w:World),Code.wp _ _ _ a w→_› _ _ ?_;have hb:=btt hb bC0;have kt:=fun n=>ak (.slice s1 x.any.length d1) (.slice s2 x.any.length d2) x.any x.any (w8.drewN n) ((Z1.out.below bC0).drewN n) ((Z2.out.below bC0).drewN n) hxl hxl
    simp only[decide_true] at kt;clear TT T0 bC0 Z1 Z2;generalize w8=wF at fX0 fY0 hb kt⊢;have kt:=kt 0;have a0:=cval fX0 0 (.int .i64 x.op);have a1:=cval fX0 1 (.int .i64 x.n);have a2:=cval fX0 2 (.string ⟨x.typ.toArray⟩);have a3:=cval fX0 3 (.string ⟨x.value.toArray⟩);have a4:=cval fX0 4 (.string ⟨x.init.toArray⟩);have a5:=cval fX0 5 (.string ⟨x.final.toArray⟩);have a6:=cval fX0 6 (.slice s1 x.any.length d1:Value);have b0:=cval fY0 0 (.int .i64 x.op);have b1:=cval fY0 1 (.int .i64 x.n);have b2:=cval fY0 2 (.string ⟨x.typ.toArray⟩);have b3:=cval fY0 3 (.string ⟨x.value.toArray⟩);have b4:=cval fY0 4 (.string ⟨x.init.toArray⟩);have b5:=cval fY0 5 (.string ⟨x.final.toArray⟩);have b6:=cval fY0 6 (.slice s2 x.any.length d2:Value);clear fX0 fY0
    go_wp2_with fail
    refine ag kt ?_;rintro e w9 ⟨rfl,n,rfl⟩;have hb9:=ae hb n;clear kt a0 a1 a2 a3 a4 a5 a6 b0 b1 b2 b3 b4 b5 b6 hb
    go_wp2_with fail
    exact⟨⟨k+1,by go_num,by omega,hb9⟩,by simp[RowKit.intOf];omega⟩
  ·obtain rfl:k=r.length:=by omega
   go_wp2_with fail
   go_ret
   exact⟨rfl,hb⟩
theorem co(v u:Value)(r:List (List UInt8))(w:World)(h1:ct w v r)(h2:ct w u r)(hl:r.length≤140737488355328):
  Calls Tryz.prog 87 #[v,u] w fun e w'=>e=.returned (.bool true)∧Below w.heap.size w w':=
 (ak v u r r w h1 h2 hl hl).mono fun e w' ⟨h,n,hn⟩=>⟨by rw[h];simp,by rw[hn];exact ae (aA _ _) n⟩
theorem bq(v u:Value)(r:List Md)(w:World)(h1:eY w v r)(h2:eY w u r)(hl:r.length≤140737488355328)(hr:∀x∈r,x.2.2.length≤140737488355328):
  Calls Tryz.prog 88 #[v,u] w fun e w'=>e=.returned (.bool true)∧Below w.heap.size w w':=
 (a7 v u r r w h1 h2 hl hl hr hr).mono fun e w' ⟨h,n,hn⟩=>⟨by rw[h];simp,by rw[hn];exact ae (aA _ _) n⟩
theorem a8(v u:Value)(r:List (List UInt8×List (List UInt8)))(w:World)(h1:eG w v r)(h2:eG w u r)(hl:r.length≤140737488355328)(hr:∀x∈r,x.2.length≤140737488355328):
  Calls Tryz.prog 89 #[v,u] w fun e w'=>e=.returned (.bool true)∧Below w.heap.size w w':=
 (aF v u r r w h1 h2 hl hl hr hr).mono fun e w' ⟨h,n,hn⟩=>⟨by rw[h];simp,by rw[hn];exact ae (aA _ _) n⟩
theorem cK(m m':Mg)(l:Ls)(w:World)(hm:MgM w m l)(hm':MgM w m' l)(hp:m'.pl=m.pl)(hk:LsOk m l):
  Cr 47 #[.agg m.row,.agg m'.row] w (.bool true):=by
 obtain⟨k1,k2,k3,k4,k5,E0,E1,E2,E3,E4,E5,E6,E7,E8,E9,E10⟩:=Ds (fun W (h:Below w.heap.size w W)=>aL m.filt m'.filt l.filt W (hm.filt.below h) (hm'.filt.below h) (by have:=hk.filt.1;omega) (fun x hx=>by have:=(hk.filt.2 x hx).1.2.2.2.2.1;omega)) (fun W (h:Below w.heap.size w W)=>co m.sel m'.sel l.sel W (hm.sel.below h) (hm'.sel.below h) (by have:=hk.sel;omega)) (fun W (h:Below w.heap.size w W)=>bq m.mods m'.mods l.mods W (hm.mods.below h) (hm'.mods.below h) (by have:=hk.mods;omega) (fun x hx=>by have:=(hk.modss x hx).2.1;omega)) (fun W (h:Below w.heap.size w W)=>a8 m.attrs m'.attrs l.attrs W (hm.attrs.below h) (hm'.attrs.below h) (by have:=hk.attrs.1;omega) (fun x hx=>by have:=(hk.attrs.2 x hx).2.1;omega)) (fun W (h:Below w.heap.size w W)=>ap m.ctl m'.ctl l.ctl W (hm.ctl.below h) (hm'.ctl.below h) (by have:=hk.ctl;omega)) (show m'.id=m.id from(congrArg Mg.id hp:m'.pl.id=m.pl.id)) (show m'.op=m.op from(congrArg Mg.op hp:m'.pl.op=m.pl.op)) (show m'.dn=m.dn from(congrArg Mg.dn hp:m'.pl.dn=m.pl.dn)) (show m'.ver=m.ver from(congrArg Mg.ver hp:m'.pl.ver=m.pl.ver)) (show m'.sasl=m.sasl from(congrArg Mg.sasl hp:m'.pl.sasl=m.pl.sasl)) (show m'.secret=m.secret from(congrArg Mg.secret hp:m'.pl.secret=m.pl.secret)) (show m'.scope=m.scope from(congrArg Mg.scope hp:m'.pl.scope=m.pl.scope)) (show m'.deref=m.deref from(congrArg Mg.deref hp:m'.pl.deref=m.pl.deref)) (show m'.size=m.size from(congrArg Mg.size hp:m'.pl.size=m.pl.size)) (show m'.time=m.time from(congrArg Mg.time hp:m'.pl.time=m.pl.time)) (show m'.types=m.types from(congrArg Mg.types hp:m'.pl.types=m.pl.types));obtain⟨E15,E16,E17,E18,E19,E20,E21,E22,E23,E24,E25,E26⟩:=CC (show m'.newRdn=m.newRdn from(congrArg Mg.newRdn hp:m'.pl.newRdn=m.pl.newRdn)) (show m'.newSup=m.newSup from(congrArg Mg.newSup hp:m'.pl.newSup=m.pl.newSup)) (show m'.delOld=m.delOld from(congrArg Mg.delOld hp:m'.pl.delOld=m.pl.delOld)) (show m'.hasSup=m.hasSup from(congrArg Mg.hasSup hp:m'.pl.hasSup=m.pl.hasSup)) (show m'.typ=m.typ from(congrArg Mg.typ hp:m'.pl.typ=m.pl.typ)) (show m'.value=m.value from(congrArg Mg.value hp:m'.pl.value=m.pl.value)) (show m'.oid=m.oid from(congrArg Mg.oid hp:m'.pl.oid=m.pl.oid)) (show m'.has=m.has from(congrArg Mg.has hp:m'.pl.has=m.pl.has)) (show m'.target=m.target from(congrArg Mg.target hp:m'.pl.target=m.pl.target)) (show m'.code=m.code from(congrArg Mg.code hp:m'.pl.code=m.pl.code)) (show m'.matched=m.matched from(congrArg Mg.matched hp:m'.pl.matched=m.pl.matched)) (show m'.text=m.text from(congrArg Mg.text hp:m'.pl.text=m.pl.text));clear hm hm' hp hk;have b2:Below w.heap.size w ((w.alloc (.cells m.row 33)).alloc (.cells m'.row 33)):=((aA _ _).alloc (ah _) _).alloc (by simp) _;have fA0:((w.alloc (.cells m.row 33)).alloc (.cells m'.row 33)).heap[w.heap.size]?=some (.cells m.row 33 (0,0)):=(alloc_old _ _ _ (by simp)).trans (bC _ _ _ rfl)
 have fB0:((w.alloc (.cells m.row 33)).alloc (.cells m'.row 33)).heap[w.heap.size+1]?=some (.cells m'.row 33 (0,0)):=bC _ _ _ (by simp)
 go_enter Tryz.func47,Tryz.ntmps47
 refine wp_seq ?_;refine aQ ?_
 iterate 2 (refine aB rfl (kkn ?_))
 generalize((w.alloc (.cells m.row 33)).alloc (.cells m'.row 33))=w2 at b2 fA0 fB0⊢;have c0:=cval fA0 0 (.int .i64 m.id);have d0:=(aq fB0 0).trans (show _=some (.int .i64 m.id:Value) from by rw[←E0.out];rfl);have c1:=cval fA0 1 (.int .i64 m.op);have d1:=(aq fB0 1).trans (show _=some (.int .i64 m.op:Value) from by rw[←E1.out];rfl);have c2:=cval fA0 2 (.string ⟨m.dn.toArray⟩);have d2:=(aq fB0 2).trans (show _=some (.string ⟨m.dn.toArray⟩:Value) from by rw[←E2.out];rfl);have c3:=cval fA0 3 (.int .i64 m.ver);have d3:=(aq fB0 3).trans (show _=some (.int .i64 m.ver:Value) from by rw[←E3.out];rfl);have c4:=cval fA0 4 (.bool m.sasl);have d4:=(aq fB0 4).trans (show _=some (.bool m.sasl:Value) from by rw[←E4.out];rfl);have c5:=cval fA0 5 (.string ⟨m.secret.toArray⟩);have d5:=(aq fB0 5).trans (show _=some (.string ⟨m.secret.toArray⟩:Value) from by rw[←E5.out];rfl);have c6:=cval fA0 6 (.int .i64 m.scope);have d6:=(aq fB0 6).trans (show _=some (.int .i64 m.scope:Value) from by rw[←E6.out];rfl);have c7:=cval fA0 7 (.int .i64 m.deref);have d7:=(aq fB0 7).trans (show _=some (.int .i64 m.deref:Value) from by rw[←E7.out];rfl);have c8:=cval fA0 8 (.int .i64 m.size);have d8:=(aq fB0 8).trans (show _=some (.int .i64 m.size:Value) from by rw[←E8.out];rfl);have c9:=cval fA0 9 (.int .i64 m.time);have d9:=(aq fB0 9).trans (show _=some (.int .i64 m.time:Value) from by rw[←E9.out];rfl);have c10:=cval fA0 10 (.bool m.types);have d10:=(aq fB0 10).trans (show _=some (.bool m.types:Value) from by rw[←E10.out];rfl);have c11:=cval fA0 11 m.filt;have d11:=cval fB0 11 m'.filt;obtain⟨FA,FB⟩:=Cg fA0 fB0;have kc:=k1.out w2 b2;clear fA0 fB0 k1
 go_wp2_with fail
 refine ag kc ?_;rintro e w3 ⟨rfl,hb⟩;have b3:=btt b2 hb;have fA0:=(hb.block _ (gl FA.out)).trans FA.out;have fB0:=(hb.block _ (gl FB.out)).trans FB.out;clear kc hb b2 FA FB c0 d0 c1 d1 c2 d2 c3 d3 c4 d4 c5 d5 c6 d6 c7 d7 c8 d8 c9 d9 c10 d10 c11 d11;have c12:=cval fA0 12 m.sel;have d12:=cval fB0 12 m'.sel;obtain⟨FA,FB⟩:=Cg fA0 fB0;have kc:=k2.out w3 b3;clear fA0 fB0 k2
 go_wp2_with fail
 refine ag kc ?_;rintro e w4 ⟨rfl,hb⟩;have b4:=btt b3 hb;have fA0:=(hb.block _ (gl FA.out)).trans FA.out;have fB0:=(hb.block _ (gl FB.out)).trans FB.out;clear kc hb b3 FA FB c12 d12;have c13:=cval fA0 13 m.mods;have d13:=cval fB0 13 m'.mods;obtain⟨FA,FB⟩:=Cg fA0 fB0;have kc:=k3.out w4 b4;clear fA0 fB0 k3
 go_wp2_with fail
 refine ag kc ?_;rintro e w5 ⟨rfl,hb⟩;have b5:=btt b4 hb;have fA0:=(hb.block _ (gl FA.out)).trans FA.out;have fB0:=(hb.block _ (gl FB.out)).trans FB.out;clear kc hb b4 FA FB c13 d13;have c14:=cval fA0 14 m.attrs;have d14:=cval fB0 14 m'.attrs;obtain⟨FA,FB⟩:=Cg fA0 fB0;have kc:=k4.out w5 b5;clear fA0 fB0 k4
 go_wp2_with fail
 refine ag kc ?_;rintro e w6 ⟨rfl,hb⟩;have b6:=btt b5 hb;have fA0:=(hb.block _ (gl FA.out)).trans FA.out;have fB0:=(hb.block _ (gl FB.out)).trans FB.out;clear kc hb b5 FA FB c14 d14;have c15:=cval fA0 15 (.string ⟨m.newRdn.toArray⟩);have d15:=(aq fB0 15).trans (show _=some (.string ⟨m.newRdn.toArray⟩:Value) from by rw[←E15.out];rfl);have c16:=cval fA0 16 (.string ⟨m.newSup.toArray⟩);have d16:=(aq fB0 16).trans (show _=some (.string ⟨m.newSup.toArray⟩:Value) from by rw[←E16.out];rfl);have c17:=cval fA0 17 (.bool m.delOld);have d17:=(aq fB0 17).trans (show _=some (.bool m.delOld:Value) from by rw[←E17.out];rfl);have c18:=cval fA0 18 (.bool m.hasSup);have d18:=(aq fB0 18).trans (show _=some (.bool m.hasSup:Value) from by rw[←E18.out];rfl);have c19:=cval fA0 19 (.string ⟨m.typ.toArray⟩);have d19:=(aq fB0 19).trans (show _=some (.string ⟨m.typ.toArray⟩:Value) from by rw[←E19.out];rfl);have c20:=cval fA0 20 (.string ⟨m.value.toArray⟩);have d20:=(aq fB0 20).trans (show _=some (.string ⟨m.value.toArray⟩:Value) from by rw[←E20.out];rfl);have c21:=cval fA0 21 (.string ⟨m.oid.toArray⟩);have d21:=(aq fB0 21).trans (show _=some (.string ⟨m.oid.toArray⟩:Value) from by rw[←E21.out];rfl);have c22:=cval fA0 22 (.bool m.has);have d22:=(aq fB0 22).trans (show _=some (.bool m.has:Value) from by rw[←E22.out];rfl);have c23:=cval fA0 23 (.int .i64 m.target);have d23:=(aq fB0 23).trans (show _=some (.int .i64 m.target:Value) from by rw[←E23.out];rfl);have c24:=cval fA0 24 (.int .i64 m.code);have d24:=(aq fB0 24).trans (show _=some (.int .i64 m.code:Value) from by rw[←E24.out];rfl);have c25:=cval fA0 25 (.string ⟨m.matched.toArray⟩);have d25:=(aq fB0 25).trans (show _=some (.string ⟨m.matched.toArray⟩:Value) from by rw[←E25.out];rfl);have c26:=cval fA0 26 (.string ⟨m.text.toArray⟩);have d26:=(aq fB0 26).trans (show _=some (.string ⟨m.text.toArray⟩:Value) from by rw[←E26.out];rfl);have c27:=cval fA0 27 m.ctl;have d27:=cval fB0 27 m'.ctl;obtain⟨FA,FB⟩:=Cg fA0 fB0;have kc:=k5.out w6 b6;clear fA0 fB0 k5
 go_wp2_with fail
 refine ag kc ?_;rintro e w7 ⟨rfl,hb⟩;have b7:=btt b6 hb;have fA0:=(hb.block _ (gl FA.out)).trans FA.out;have fB0:=(hb.block _ (gl FB.out)).trans FB.out;clear kc hb b6 FA FB c15 d15 c16 d16 c17 d17 c18 d18 c19 d19 c20 d20 c21 d21 c22 d22 c23 d23 c24 d24 c25 d25 c26 d26 c27 d27;clear fA0 fB0
 go_wp2_with fail
 first|exact⟨rfl,b7⟩|(go_ret;exact⟨rfl,b7⟩)
def ac(W:World)(v:Value)(ys:List (Mg×Ls)):Prop:=
 ∃a c,v=.slice a ys.length c∧ys.length≤c∧(ys≠[]→∃g o,a=some ⟨g,o,none⟩∧∀j y,ys[j]?=some y→W.rangeAt g (o+j*28) y.1.row.toList∧MgM W y.1 y.2)
theorem ac.below{w w':World}{v:Value}{ys:List (Mg×Ls)}(h:ac w v ys)(hb:Below w.heap.size w w'):ac w' v ys:=by
 obtain⟨a,c,h1,h2,h3⟩:=h;refine⟨a,c,h1,h2,fun hne=>?_⟩;obtain⟨g,o,e,h4⟩:=h3 hne;refine⟨g,o,e,fun j y hj=>?_⟩;obtain⟨q1,q2⟩:=h4 j y hj;exact⟨fun k x hk=>(hb.cell (bj (q1 k x hk))).trans (q1 k x hk),q2.below hb⟩
section
variable {md:Region.Mode} {ops:Array Oper} {Q:Exit→Act→World→Prop} {S:World→Prop} {fuel:Nat} {listed:Array Bool} {a a':Act} {w:World} {v:Value} {o:Oper}
theorem hc(i:Nat){f:FuncId}{args:Array Value}(kc:Calls Tryz.prog f args w fun e w'=>e=.returned v∧Below w.heap.size w w')(ho:ops[i]?=some o)(hT:∀w',Below w.heap.size w w'→S w')
  (h:∀w',Below w.heap.size w w'→wpAnyH Tryz.prog md ops Q S fuel (listed.setIfInBounds i true) a' w')
  (hrun:(execOp a.eval o).run Tryz.prog w=.ok (.enter f args) w:=by first|rfl|go_simp) (ha:a.put o.dst v=a':=by first|(go_simp;rfl)|rfl) (hr:Region.ready md ops listed=[i]:=by kernel_rfl) (hw:Region.wanted o (yielded ops a.tmps)=true:=by rfl):wpAnyH Tryz.prog md ops Q S (fuel+1) listed a w:=
 rn i hr ho hw fun K hK=>by
  unfold Oper.wp;rw[hrun,Oper.upon_enter];refine kc.mono fun e w' hh=>?_
  obtain⟨rfl,hb⟩:=hh;show K _ _;rw[ha];exact hK _ _ (hT w' hb) (h w' hb)
end
theorem a9(v u:Value)(ys zs:List (Mg×Ls))(w:World)(h1:ac w v ys)(h2:ac w u zs)(hl:zs.length≤100000)(hk:∀y∈zs,LsOk y.1 y.2)(hs:ys.map (fun y=>(y.1.pl,y.2))=zs.map fun y=>(y.1.pl,y.2)):
  Cr 25 #[v,u] w (.bool true):=by
 obtain⟨n,hn⟩:=nmm zs.length;have hny:ys.length=n:=by have:=congrArg List.length hs;simpa[hn] using this
 obtain⟨av,c1,rfl⟩:∃a c,v=.slice a n c:=by obtain⟨a,c,q,_⟩:=h1;exact⟨a,c,by rw[q,hny]⟩
 obtain⟨au,c2,rfl⟩:∃a c,u=.slice a n c:=by obtain⟨a,c,q,_⟩:=h2;exact⟨a,c,by rw[q,hn]⟩
 rw[hn] at hl;obtain⟨H1,H2,HK,HS,HN⟩:=Cj h1 h2 hk hs (show _∧_ from⟨hn,hny⟩);clear h1 h2 hk hs hn hny;have hq:((n:Int)==(n:Int))=true:=by simp
 go_enter Tryz.func25,Tryz.ntmps25
 go_wp2_with fail
 go_loopw [5] (fun i wr=>∃k:Nat,i=.int .i64 (k:Int)∧k≤n∧Below w.heap.size w wr) (fun i _=>n -(RowKit.intOf i).toNat)
 case atStart=>exact⟨0,rfl,by omega,aA _ _⟩
 case round=>
  obtain⟨k,rfl,hk,hb⟩:=hrel
  by_cases hkl:k<n
  ·obtain⟨z,hz⟩:∃z,zs[k]?=some z:=⟨_,aM (by rw[HN.out.1];exact hkl)⟩
   obtain⟨y,hy⟩:∃y,ys[k]?=some y:=⟨_,aM (by rw[HN.out.2];exact hkl)⟩;have hyz:(y.1.pl,y.2)=(z.1.pl,z.2):=by
    have:=congrArg (fun l=>l[k]?) HS.out;simp only[List.getElem?_map,hy,hz,aw] at this;exact aD this
   obtain⟨a3,c3,e3,_,hq3⟩:=H1.out;obtain⟨g,o,ha3,hc3⟩:=hq3 (by intro e;rw[e] at hy;cases hy);obtain⟨a4,c4,e4,_,hq4⟩:=H2.out;obtain⟨g',o',ha4,hc4⟩:=hq4 (by intro e;rw[e] at hz;cases hz)
   injection e3 with e5 q1 q2
   injection e4 with e6 q3 q4
   clear q1 q2 q3 q4;rw[ha3] at e5;rw[ha4] at e6;subst e5 e6;obtain⟨r1,m1⟩:=hc3 k y hy;obtain⟨r2,m2⟩:=hc4 k z hz;have R1:wr.rangeAt g (o+k*28) y.1.row.toList:=fun i x hi=>(hb.cell (bj (r1 i x hi))).trans (r1 i x hi)
   have R2:wr.rangeAt g' (o'+k*28) z.1.row.toList:=fun i x hi=>(hb.cell (bj (r2 i x hi))).trans (r2 i x hi)
   have ks:∀W,Below wr.heap.size wr W→Calls Tryz.prog 47 #[.agg y.1.row,.agg z.1.row] W fun e w'=>e=.returned (.bool true)∧Below W.heap.size W w':=fun W hW=>by
    have hp:y.1.pl=z.1.pl:=(aP hyz).1;have hl2:y.2=z.2:=(aP hyz).2;exact cK y.1 z.1 z.2 W (hl2▸(m1.below hb).below hW) ((m2.below hb).below hW) hp.symm ((HK.out z (List.mem_of_getElem? hz)).to hp)
   obtain⟨L1,hL1⟩:=nmm y.1.row.toList;obtain⟨L2,hL2⟩:=nmm z.1.row.toList;have z1:L1.length=28:=by rw[←hL1];rfl
   have z2:L2.length=28:=by rw[←hL2];rfl
   have x1:y.1.row=L1.toArray:=by rw[←hL1]
   have x2:z.1.row=L2.toArray:=by rw[←hL2]
   rw[hL1] at R1;rw[hL2] at R2;rw[x1,x2] at ks;obtain⟨Z1,Z2,KS⟩:=Ch z1 z2 ks;have i1:(k:Int)<(n:Int):=by omega
   have i3:decide ((k:Int)<(n:Int))=true:=aC i1;have hbs:=hb.size;clear hyz hq3 hq4 hc3 hc4 r1 m1 r2 m2 ks hL1 hL2 x1 x2 z1 z2 hy hz
   go_upto_region 6 with fail
   refine hg (fun w'=>w'.rangeAt g (o+k*28) L1∧w'.rangeAt g' (o'+k*28) L2) ?_;intro w4 hb4 _ _;have TT:w4.rangeAt g (o+k*28) L1∧w4.rangeAt g' (o'+k*28) L2:=⟨aa R1 hb4,aa R2 hb4⟩;refine hu 0 (.slice (some ⟨g,o,none⟩) n c1) rfl TT ?_;refine hu 1 (.int .i64 (k:Int)) rfl TT ?_;refine hu 2 (.pointer (some ⟨g,o+k*28,none⟩)) rfl TT ?_;refine ad 3 33 (.tmp 19) g (o+k*28) L1 _ rfl rfl (by kernel_rfl) (by kernel_rfl) (by kernel_rfl) (fun _ _ _ h=>h) (by rfl) (by rfl) (fun w' hS=>hS.1) Tryz.underlying33 rfl (by rw[Z1.out];rfl) TT (kkn ?_);refine hu 4 (.slice (some ⟨g',o',none⟩) n c2) rfl TT ?_;refine hu 5 (.int .i64 (k:Int)) rfl TT ?_;refine hu 6 (.pointer (some ⟨g',o'+k*28,none⟩)) rfl TT ?_;refine ad 7 33 (.tmp 23) g' (o'+k*28) L2 _ rfl rfl (by kernel_rfl) (by kernel_rfl) (by kernel_rfl) (fun _ _ _ h=>h) (by rfl) (by rfl) (fun w' hS=>hS.2) Tryz.underlying33 rfl (by rw[Z2.out];rfl) TT (kkn ?_);refine hc 8 (KS.out w4 hb4) rfl (fun w' hb'=>⟨aa TT.1 hb',aa TT.2 hb'⟩) ?_;intro w5 hb5;have T5:w5.rangeAt g (o+k*28) L1∧w5.rangeAt g' (o'+k*28) L2:=⟨aa TT.1 hb5,aa TT.2 hb5⟩;have B5:=cM hb (cM hb4 hb5);refine oS 9 w5 rfl T5 ?_;simp only[Exit.then];refine‹∀(a:Act) (w:World),Code.wp _ _ _ a w→_› _ _ ?_
   go_wp2_with fail
   go_roundw
   case rel=>exact⟨k+1,by go_num,by omega,B5⟩
   case measure=>simp[RowKit.intOf];omega
  ·obtain rfl:k=n:=by omega
   go_wp2_with fail
   go_ret
   exact⟨rfl,hb⟩
def dd(P X:Nat→Prop)(C:Nat)(w:World)(r:Option (Mg×Ls)×Cs)(e:Ending)(w':World):Prop:=
 match r.1 with
 |some y=>Dd P X C w y r.2 e w'
 |none=>e=.returned (.tuple #[.agg (Mg.row {}),Bf])∧em P X C w r.2 w'
def ab(NX:Cs→Option (Mg×Ls)×Cs):Nat→Cs→List (Mg×Ls)×Cs
 |0,s=>([],s)
 |n+1,s=>match NX s with
  |(none,s')=>([],s')
  |(some y,s')=>(y::(ab NX n {s' with cur:=none}).1,(ab NX n {s' with cur:=none}).2)
theorem al{NX:Cs→Option (Mg×Ls)×Cs}{s s':Cs}(n:Nat)(h:NX s=(none,s')):ab NX (n+1) s=([],s'):=by
 unfold ab;rw[h]
theorem am{NX:Cs→Option (Mg×Ls)×Cs}{s s':Cs}{y:Mg×Ls}(n:Nat)(h:NX s=(some y,s')):ab NX (n+1) s=(y::(ab NX n {s' with cur:=none}).1,(ab NX n {s' with cur:=none}).2):=by
 conv=>lhs;unfold ab
 rw[h]
theorem Kb.own{X:Nat→Prop}{w w':World}{B:Nat}{e:TypeId}{k n:Nat}{v:Value}{xs:List Value}(h:w.ownsRow B e k v n xs)(kb:Kb X w w')(hv:∀g,v.ownBlock=some g→¬X g):w'.ownsRow B e k v n xs:=
 gM h fun g hg=>kb.block g (h.lt g hg).2 (hv g hg)
structure Rw2 (X:Nat→Prop) (B:Nat) (v:Value) (Ms:List Mg) (ys:List (Mg×Ls)) (w:World):Prop where
 own:w.ownsRow B 33 28 v ys.length (cC Ms)
 msg:eq (fun g=>g<w.heap.size∧¬X g∧v.ownBlock≠some g) w Ms ys
def bZ(I:Cs→Prop)(NX:Cs→Option (Mg×Ls)×Cs)(P X:Nat→Prop)(C:Nat)(w:World)(ANS:List (Mg×Ls)×Cs)(v i:Value)(wr:World):Prop:=
 ∃(j:Nat) (s:Cs) (ys:List (Mg×Ls)) (Ms:List Mg) (P' X':Nat→Prop),j≤400∧i=.int .i64 (j:Int)∧ys.length=j∧dc P' X' C s wr∧Nx P X w P' X' wr∧I s∧
  Rw2 X' w.heap.size v Ms ys wr∧(∀g,v.ownBlock=some g→¬P' g)∧(ys++(ab NX (400 -j) s).1,(ab NX (400 -j) s).2)=ANS
theorem ca(I:Cs→Prop)(NX:Cs→Option (Mg×Ls)×Cs)(w0:World)(P X:Nat→Prop)(C:Nat)(s:Cs)(w:World)(h:dc P X C s w)(hH:Hm w0 X w)(hI:I s)
  (hnx:∀(P X:Nat→Prop) (s:Cs) (w:World),dc P X C s w→Hm w0 X w→I s→Calls Tryz.prog 19 #[.pointer (some ⟨C,0,none⟩)] w (dd P X C w (NX s)))
  (hId:∀s y,I s→(NX s).1=some y→I {(NX s).2 with cur:=none}):
  Calls Tryz.prog 24 #[.pointer (some ⟨C,0,none⟩)] w fun e w'=>∃(v:Value) (Ms:List Mg) (P' X':Nat→Prop),e=.returned v∧dc P' X' C (ab NX 400 s).2 w'∧Nx P X w P' X' w'∧Rw2 X' w.heap.size v Ms (ab NX 400 s).1 w'∧(∀g,v.ownBlock=some g→¬P' g):=by
 obtain⟨i0,hi0,hz0,hz1,hz2⟩:=info_parts Tryz.infoMessage;generalize hPR:((fun e w'=>∃(v:Value) (Ms:List Mg) (P' X':Nat→Prop),e=.returned v∧dc P' X' C (ab NX 400 s).2 w'∧Nx P X w P' X' w'∧Rw2 X' w.heap.size v Ms (ab NX 400 s).1 w'∧(∀g,v.ownBlock=some g→¬P' g)):Ending→World→Prop)=PR;have HPR:=hid hPR;obtain⟨ANS,hA⟩:=nmm (ab NX 400 s);obtain⟨HREL,HA,HH⟩:=Ch (show bZ I NX P X C w ANS (Sn) (I0) w from⟨0,s,[],[],P,X,by omega,rfl,rfl,h,Nx.refl _ _ _,hI,⟨World.ownsRow_nil _ _ _ _,trivial⟩,(fun g hg=>by cases hg),by simpa using hA⟩) hA hH;clear hPR hA hH h hI
 go_enter Tryz.func24,Tryz.ntmps24
 go_wp2_with fail
 go_loopw [3,4] (fun v i wr=>bZ I NX P X C w ANS v i wr) (fun _ i _=>400 -(RowKit.intOf i).toNat)
 case atStart=>exact HREL.out
 case round=>
  obtain⟨j,s1,ys,Ms,P1,X1,hj,rfl,hjl,hcn,hn1,hI1,hrw,hvP,hans⟩:=hrel;have hvX:∀g,u3.ownBlock=some g→¬X1 g:=fun g hg q=>hvP g hg (by obtain⟨_,_,_,_,_,_,q2⟩:=hcn;exact q2.b.xP g q)
  by_cases hlt:j<400
  ·have g1:decide ((j:Int)<400)=true:=aC (by omega)
   have kn:=hnx P1 X1 s1 wr hcn (HH.out.to hn1) hI1;have hId1:=hId s1;obtain⟨r,hr⟩:=nmm (NX s1);rw[hr] at kn hId1;obtain⟨o,s2⟩:=r
   go_wp2_with fail
   refine ag kn ?_;intro e w2 hT;clear kn;have h40:400 -j=(400 -(j+1))+1:=by omega
   rw[h40] at hans;cases o with
   |none=>
    obtain⟨rfl,P2,X2,hc2,hn2⟩:=hT;obtain⟨Z,hZ⟩:=nmm (Mg.row {});have hZ1:Z.all (·.oneCell')=true:=by rw[←hZ];exact row_one _ ⟨rfl,rfl,rfl,rfl,rfl⟩
    have hZ2:Z.size=28:=by rw[←hZ];rfl
    rw[hZ];have y2:=alz w2 Zm 33;have g2:Below w2.heap.size w2 ((w2.alloc (.cells Zm 33)).setRow w2.heap.size Z):=bm ((aA _ _).alloc (ah _) _) (ah _) Z;have FIN:PR (.returned u3) ((w2.alloc (.cells Zm 33)).setRow w2.heap.size Z):=by
     rw[al _ hr,List.append_nil] at hans;rw[←HPR.out,HA.out,←hans];have n3:=hn2.bel g2;refine⟨u3,Ms,P2,X2,rfl,hc2.bel g2,hn1.trans n3,⟨n3.kb.own hrw.own hvX,hrw.msg.kept fun g hg hl=>⟨n3.kb.block g hg.1 hg.2.1,Nat.lt_of_lt_of_le hg.1 n3.kb.size,fun q=>hg.2.1 (n3.xs g hg.1 q),hg.2.2⟩⟩,fun g hg q=>hvP g hg (hn2.ps g (hrw.own.lt g hg).2 q)⟩
    obtain⟨HF,HZ1,HZ2,Y2⟩:=Ci FIN hZ1 hZ2 y2;clear FIN hans hrw hcn hn1 hc2 hn2 hZ hZ1 hZ2 y2 g2 hr
    go_wp2_with (refine bh rfl 33 (.tmp 5) (.tmp 14) rfl w2.heap.size 33 Zm Z (by rfl) (by rfl) Y2.out (by rw[HZ2.out];rfl) (by rw[HZ2.out];rfl) HZ1.out ?_;generalize((w2.alloc (.cells Zm 33)).setRow w2.heap.size Z)=w3 at HF⊢;clear Y2)
    exact HF.out
   |some y=>
    obtain⟨m,P2,X2,rfl,hpl,hc2,hn2,hls⟩:=hT;have hId2:=hId1 y hI1 rfl;obtain⟨A,hA⟩:=nmm m.row;have hA1:A.all (·.oneCell')=true:=by rw[←hA];exact hls.one
    have hA2:A.size=28:=by rw[←hA];rfl
    have hbox:=uM m;have hAl:cC (Ms++[m])=cC Ms++A.toList:=by rw[A8,←hA];simp[cC]
    have hA3:A.toList.length=1*28:=by simpa using hA2
    have hA4:∀u∈A.toList,u.oneCell'=true:=fun u hu=>by have:=(Array.all_eq_true_iff_forall_mem.1 hA1) u (by simpa using hu);exact this
    rw[hA] at hbox⊢;have y2:=alz w2 Zm 33;have g2:Below w2.heap.size w2 ((w2.alloc (.cells Zm 33)).setRow w2.heap.size A):=bm ((aA _ _).alloc (ah _) _) (ah _) A;have e2:=setRow_heap (w2.alloc (.cells Zm 33)) w2.heap.size _ A _ _ y2;have n3:=hn2.bel g2;have hc3:=(hc2.small).bel g2;have own3:=n3.kb.own hrw.own hvX;have msg3:eq (fun g=>g<w2.heap.size∧¬X2 g∧u3.ownBlock≠some g) _ (Ms++[m]) (ys++[y]):=(hrw.msg.kept (w':=(w2.alloc (.cells Zm 33)).setRow w2.heap.size A) fun g hg hl=>⟨n3.kb.block g hg.1 hg.2.1,Nat.lt_of_lt_of_le hg.1 hn2.kb.size,fun q=>hg.2.1 (n3.xs g hg.1 q),hg.2.2⟩).app ⟨⟨hpl,hls.kept fun g hg hl=>⟨g2.block g hg.2.1,hg.2.1,hg.2.2,fun q=>hvP g q (hg.1 (hrw.own.lt g q).2)⟩⟩,trivial⟩;obtain⟨HB,E2,Y2,HA1,HA2,HA3,HA4,HAL,HID,HVP,HVX,HRL,HN2⟩:=CD (show _∧_∧_∧_∧_ from⟨hc3,own3,msg3,hn1.trans n3,(fun g hg q=>hvP g hg (hn2.ps g (hrw.own.lt g hg).2 q.1):∀g,u3.ownBlock=some g→¬(P2 g∧g<w2.heap.size))⟩) e2 y2 hA1 hA2 hA3 hA4 hAl hId2 hvP hvX hrw.own hn2;rw[am _ hr] at hans;obtain⟨HANS,HSZ⟩:=Cg hans (Nat.le_trans hn1.kb.size hn2.kb.size);clear hA hA1 hA2 hA3 hA4 hAl hId2 hvP hvX hrw hn1 hn2 hc2 hcn hls hpl y2 e2 g2 n3 hc3 own3 msg3 hr hans hId1
    go_upto_region 7 with(refine bh rfl 33 (.tmp 5) (.tmp 14) rfl w2.heap.size 33 Zm A (by rfl) (by rfl) Y2.out (by rw[HA2.out];rfl) (by rw[HA2.out];rfl) HA1.out ?_;generalize((w2.alloc (.cells Zm 33)).setRow w2.heap.size A)=w3 at HB E2⊢;clear Y2)
    obtain⟨h3,own3,msg3,n3,nP3⟩:=HB.out;have b4:=alb w3 A 33;obtain⟨X4,OWN4,HS3,HS23,B4⟩:=Cj (show(w3.alloc (.cells A 33)).heap[w3.heap.size]?=some (.cells A 33 (0,0)) from bC _ _ _ rfl) (ge own3 b4) n3.kb.size (show w2.heap.size≤w3.heap.size from Nat.le_of_lt (gl E2.out)) b4;clear h3 own3 msg3 n3 nP3 b4
    go_wp2_with (first
     |(refine bg rfl 33 (.tmp 5) rfl w2.heap.size 33 A (0,0) (by rfl) E2.out _ Tryz.underlying33 rfl (by rw[HA2.out];rfl) ?_)
     |(refine aB rfl fun K hK=>jS (v:=.slice (some ⟨w3.heap.size,0,none⟩) 1 1) (w':=w3.alloc (.cells A 33)) (uS hbox rfl rfl _) (hK _ _ ?_);clear hK K;generalize w3.alloc (.cells A 33)=w4 at X4 OWN4 B4⊢)
     |(at_builtin;refine aB rfl fun K hK=>?_;refine wp_append_lies w4 (.tmp 18) (.tmp 20) 22 rfl w.heap.size 33 i0 _ 28 368 Tryz.underlying22 hi0 hz0 hz1 hz2 rfl (by decide) u3 ys.length (cC Ms) rfl OWN4.out ⟨w3.heap.size,0,none⟩ 1 1 A.toList rfl HA3.out (World.news_of_block X4.out) HA4.out (by omega) (by unfold maxLen;omega) (by omega) (by have h1:=B4.out.size;have h2:=HS3.out;omega) _ rfl ?_;intro g cap w5 hown hgrow hat hlt5;refine hK _ _ ?_;clear hK K))
    obtain⟨h3,own3,msg3,n3,nP3⟩:=HB.out;have h34:=B4.out.size;have kb5:Kb (fun k=>u3.ownBlock=some k) w3 w5:=(Kb.of B4.out).grown hgrow fun k hk=>.inl hk
    have h5:=h3.other kb5 fun k _ hp e=>nP3 k e hp
    have n5:Nx P X w (fun k=>(P2 k∧k<w2.heap.size)∧k<w3.heap.size) (fun k=>X2 k∧k<w3.heap.size) w5:=⟨n3.kb.step kb5 fun k hk e=>absurd (own3.lt k e).1 (by omega),fun k hk q=>n3.xs k hk q.1,fun k hk q=>n3.ps k hk q.1.1⟩;have hgP:¬((P2 g∧g<w2.heap.size)∧g<w3.heap.size):=fun q=>by
     rcases hat with e|e
     ·exact nP3 g e q.1
     ·have:=q.2;omega
    have hgX:¬(X2 g∧g<w3.heap.size):=fun q=>hgP (by obtain⟨_,_,_,_,_,_,q2⟩:=h5;exact q2.b.xP g q)
    have msg5:eq (fun k=>k<w5.heap.size∧¬(X2 k∧k<w3.heap.size)∧k≠g) w5 (Ms++[m]) (ys++[y]):=msg3.kept fun k hk hl=>⟨kb5.block k hl fun e=>hk.2.2 e,Nat.lt_of_lt_of_le hl kb5.size,fun q=>hk.2.1 q.1,fun e=>by
     rcases hat with e2|e2
     ·exact hk.2.2 (e▸e2)
     ·omega⟩
    have kd:=b9 _ _ C s2 w5 h5;obtain⟨OWN5,MSG5,N5,HG⟩:=Ci hown msg5 n5 (show _∧_ from⟨hgP,hgX⟩);clear h3 own3 msg3 n3 nP3 h34 kb5 h5 n5 hgP hgX msg5 hown hgrow hat HB E2 X4 OWN4 B4;refine ag kd ?_;rintro e w6 ⟨rfl,P6,X6,h6,n6⟩;have hgl:=(OWN5.out.lt g rfl).2;have own6:w6.ownsRow w.heap.size 33 28 (.slice (some ⟨g,0,none⟩) (ys.length+1) cap) (ys++[y]).length (cC (Ms++[m])):=by
     rw[HAL.out,bd];exact n6.kb.own OWN5.out fun k hk=>by cases hk;exact HG.out.2
    have REL:bZ I NX P X C w ANS (.slice (some ⟨g,0,none⟩) (ys.length+1) cap) (.int .i64 ((j+1:Nat):Int)) w6:=
     ⟨j+1,{s2 with cur:=none},ys++[y],Ms++[m],P6,X6,by omega,rfl,by rw[bd,hjl];rfl,h6,N5.out.trans n6,HID.out,⟨own6,MSG5.out.kept fun k hk hl=>⟨n6.kb.block k hk.1 hk.2.1,Nat.lt_of_lt_of_le hk.1 n6.kb.size,fun q=>hk.2.1 (n6.xs k hk.1 q),fun e=>hk.2.2 (by cases e;rfl)⟩⟩,fun k hk=>by cases hk;exact fun q=>HG.out.1 (n6.ps g hgl q),by rw[←HANS.out];simp⟩
    have HR:=hid REL;clear REL own6 kd h6 n6 hgl OWN5 MSG5 N5 HG
    go_wp2_with fail
    go_roundw
    case rel=>have q:=HR.out;rw[hjl] at q;exact q
    case measure=>simp[RowKit.intOf];omega
  ·obtain rfl:j=400:=by omega
   have g1:decide (((400:Nat):Int)<400)=false:=an (by omega);have FIN:PR (.returned u3) wr:=by
    rw[←HPR.out,HA.out,←hans];refine⟨u3,Ms,P1,X1,rfl,hcn,hn1,?_,hvP⟩;rw[show(ab NX (400 -400) s1).1=[] from rfl,List.append_nil];exact hrw
   have HF:=hid FIN;clear FIN hans hrw hcn hn1
   go_wp2_with fail
   exact HF.out
theorem cb(b r:List UInt8)(h:(bt b).2.2=0):bt (b++r)=bt b:=by
 match b with
 |[]=>exact absurd h (by simp[bt])
 |[b0]=>
  by_cases h0:30<b0.toNat% 32
  ·simp[bt,h0] at h
  ·simp[bt,h0] at h
 |b0::b1::t=>
  unfold bt at h⊢;simp only[List.cons_append] at h⊢
  by_cases h0:30<b0.toNat% 32
  ·simp[h0] at h
  ·simp only[if_neg h0] at h⊢
   by_cases h1:b1.toNat<128
   ·simp only[if_pos h1]
   ·simp only[if_neg h1] at h⊢
    by_cases h2:b1.toNat -128<1∨4<b1.toNat -128
    ·simp only[if_pos h2]
    ·simp only[if_neg h2] at h⊢
     by_cases h3:t.length<b1.toNat -128
     ·simp[h3] at h
     ·have h4:¬(t++r).length<b1.toNat -128:=by simp;omega
      simp only[if_neg h3,if_neg h4,List.take_append_of_le_length (Nat.le_of_not_lt h3)]
theorem b8(b r:List UInt8)(h:(eA b).2=0):eA (b++r)=eA b:=by
 unfold eA at h⊢;rw[cb b r h]
def frB(y:Mg×Ls):List UInt8:=(cR y.1 y.2).1
structure Good (y:Mg×Ls):Prop where
 wr:(cR y.1 y.2).2=0
 pl:y.1.pl=y.1
 req:fC.contains y.1.op=true
 sil:gq y.1.op=false
 id0:y.1.id≠0
theorem ay:∀(B:List (Mg×Ls)) (n:Nat) (s:Cs),s.cl=false→s.inn=B.flatMap frB→s.ms.length≤16→(∀y∈B,Good y)→((s.ms++B).map (·.1.id)).Nodup→(∀y∈B,∀c,s.cur=some c→c.1≠y.1.id)→B.length<n→
  Cs.cut n s={s with ms:=(s.ms++B).take 16,inn:=((s.ms++B).drop 16).flatMap frB}
 |[],n,s,hcl,hin,hms,_,_,_,_=>by
  rw[ld _ _ hin,List.append_nil,List.take_of_length_le hms,List.drop_of_length_le hms];obtain⟨inn,ms,cur,out,cl⟩:=s;simp only[List.flatMap_nil] at hin
  simp[hin]
 |y::B,0,_,_,_,_,_,_,_,hn=>by simp at hn
 |y::B,n+1,s,hcl,hin,hms,hg,hnd,hcu,hn=>by
  obtain⟨inn,ms,cur,out,cl⟩:=s;simp only at hcl hin hms hcu hnd⊢;subst hcl hin;unfold Cs.cut
  by_cases h16:16≤ms.length
  ·rw[if_pos (.inr h16)]
   have hl:ms.length=16:=by omega
   rw[List.take_append_of_le_length (by omega),List.drop_append_of_le_length (by omega),List.take_of_length_le (by omega),List.drop_of_length_le (by omega)]
   rfl
  ·rw[if_neg (by rintro(q|q);cases q;exact h16 q)]
   have hy:=hg y (List.mem_cons_self ..);obtain⟨hv,_,hf,_⟩:=iC hy.wr;have hr:=fo hy.wr;rw[hy.pl,show(cR y.1 y.2).1=frB y from rfl] at hr;rw[show(cR y.1 y.2).1=frB y from rfl] at hf;have hfa:=b8 (frB y) (B.flatMap frB) (by rw[hf]);rw[hf] at hfa;have hsp:(y::B).flatMap frB=frB y++B.flatMap frB:=rfl;simp only[hsp,hfa];rw[if_neg (by rintro(q|q);cases q;have:=q.2;rw[bd] at this;omega),if_neg (by decide),List.take_left',List.drop_left',hr];rotate_left
   ·rfl
   ·rfl
   have hb:Cs.badB ⟨frB y++B.flatMap frB,ms,cur,out,false⟩ (y.1,y.2)=false:=by
    unfold Cs.badB Cs.has;simp only;rw[hy.req,hy.sil,aE hy.id0];have h1:(Cs.ids ⟨frB y++B.flatMap frB,ms,cur,out,false⟩).contains y.1.id=false:=by
     cases hc:(Cs.ids ⟨frB y++B.flatMap frB,ms,cur,out,false⟩).contains y.1.id with
     |false=>rfl
     |true=>
      exfalso
      have hm:y.1.id∈ms.map (·.1.id):=List.contains_iff_mem.1 hc;rw[List.map_append,List.nodup_append] at hnd;exact hnd.2.2 _ hm _ (by simp) rfl
    rw[h1];cases hq:cur with
    |none=>rfl
    |some c=>
     have:=hcu y (List.mem_cons_self ..) c hq
     simp[this]
   simp only;rw[hb];simp only[aW,if_false];have hc:Cs.comes ⟨B.flatMap frB,ms,cur,out,false⟩ (y.1,y.2)=⟨B.flatMap frB,ms++[y],cur,out,false⟩:=by
    have hs:=hy.sil;unfold gq at hs;simp only[Bool.or_eq_false_iff,beq_eq_false_iff_ne,ne_eq] at hs;unfold Cs.comes;rw[if_neg hs.1,if_neg hs.2]
   rw[hc,ay B n ⟨B.flatMap frB,ms++[y],cur,out,false⟩ rfl rfl (by simp;omega) (fun z hz=>hg z (List.mem_cons_of_mem _ hz)) (by simpa using hnd) (fun z hz=>hcu z (List.mem_cons_of_mem _ hz)) (by simp at hn;omega)]
   simp
def stA(cur:Option (Int×Int))(out:List UInt8)(B:List (Mg×Ls)):Cs:={ms:=B.take 16,inn:=(B.drop 16).flatMap frB,cur:=cur,out:=out}
theorem af:∀(B:List (Mg×Ls)),(∀y∈B,Good y)→B.length≤(B.flatMap frB).length∧(B.flatMap frB).length≤B.length*65536
 |[],_=>by simp
 |y::B,hg=>by
  have ih:=af B fun z hz=>hg z (List.mem_cons_of_mem _ hz)
  obtain⟨_,_,hf,hle⟩:=iC (hg y (List.mem_cons_self ..)).wr;have h1:1≤(frB y).length:=by
   have h2:=congrArg Prod.fst hf;have h3:=mh _ (by have:=congrArg Prod.snd hf;exact this);unfold eA at h2;simp only at h2;show 1≤(cR y.1 y.2).1.length
   omega
  have hle:(frB y).length≤65536:=hle;rw[show(y::B).flatMap frB=frB y++B.flatMap frB from rfl,bd,aG]
  omega
theorem cp{out:List UInt8}{B:List (Mg×Ls)}{y:Mg×Ls}(hg:∀z∈B,Good z)(hy:Good y)(hnd:((B++[y]).map (·.1.id)).Nodup):(stA none out B).feed (frB y)=stA none out (B++[y]):=by
 have hsp:(B.drop 16).flatMap frB++frB y=(B.drop 16++[y]).flatMap frB:=by simp[List.flatMap_append]
 have hall:B.take 16++(B.drop 16++[y])=B++[y]:=by rw[←List.append_assoc,List.take_append_drop]
 have hgd:∀z∈B.drop 16++[y],Good z:=fun z hz=>by
  rw[List.mem_append,List.mem_singleton] at hz;rcases hz with q|rfl
  ·exact hg z (List.mem_of_mem_drop q)
  ·exact hy
 unfold Cs.feed;rw[if_neg (by simp[stA])];show Cs.cut (((B.drop 16).flatMap frB).length+(frB y).length+1) ⟨(B.drop 16).flatMap frB++frB y,B.take 16,none,out,false⟩=_;rw[hsp];have hl:(B.drop 16++[y]).length≤((B.drop 16).flatMap frB).length+(frB y).length:=by rw[←bd,hsp];exact(af _ hgd).1
 rw[ay (B.drop 16++[y]) _ ⟨(B.drop 16++[y]).flatMap frB,B.take 16,none,out,false⟩ rfl rfl (by simp;omega) hgd (by rw[hall];exact hnd) (fun z hz c hc=>by cases hc) (by omega),hall]
 rfl
theorem cr{out:List UInt8}{r:List (Mg×Ls)}{y:Mg×Ls}(hg:∀z∈y::r,Good z)(hnd:((y::r).map (·.1.id)).Nodup):Cs.took (stA none out (y::r)) y (r.take 15)=stA (some (y.1.id,y.1.op)) out r:=by
 have hall:r.take 15++r.drop 15=r:=List.take_append_drop ..;have hgd:∀z∈r.drop 15,Good z:=fun z hz=>hg z (List.mem_cons_of_mem _ (List.mem_of_mem_drop hz))
 have hl:=(af _ hgd).1;have hnd:=List.nodup_cons.1 (by simpa using hnd:(y.1.id::r.map (·.1.id)).Nodup);unfold Cs.took;show Cs.cut (((r.drop 15).flatMap frB).length+1) ⟨(r.drop 15).flatMap frB,r.take 15,some (y.1.id,y.1.op),out,false⟩=_;rw[ay (r.drop 15) _ ⟨(r.drop 15).flatMap frB,r.take 15,some (y.1.id,y.1.op),out,false⟩ rfl rfl (by simp;omega) hgd (by rw[hall];exact hnd.2) (fun z hz c hc=>by
  cases hc;intro e;exact hnd.1 (List.mem_map.2 ⟨z,List.mem_of_mem_drop hz,e.symm⟩)) (by omega),hall]
 rfl
theorem bb(w:World)(g n j:Nat)(h:j≠g):(w.freeze ⟨g,0,none⟩ n).heap[j]?=w.heap[j]?:=by
 unfold World.freeze
 split
 ·rfl
 ·show(w.heap.modify g _)[j]?=_
  rw[Array.getElem?_modify,if_neg (Ne.symm h)]
theorem bs(w:World)(g n:Nat):(w.freeze ⟨g,0,none⟩ n).os=w.os∧(w.freeze ⟨g,0,none⟩ n).tape=w.tape∧(w.freeze ⟨g,0,none⟩ n).output=w.output∧(w.freeze ⟨g,0,none⟩ n).heap.size=w.heap.size:=by
 unfold World.freeze
 split
 ·exact⟨rfl,rfl,rfl,rfl⟩
 ·exact⟨rfl,rfl,rfl,by simp⟩
def cF(w:World)(v:Value)(w':World):Prop:=w'.os=w.os∧w'.tape=w.tape∧w'.output=w.output∧w.heap.size≤w'.heap.size∧∀j,j<w.heap.size→v.ownBlock≠some j→w'.heap[j]?=w.heap[j]?
theorem cc(C:Nat)(v:Value)(l:List UInt8)(w:World)(c5:w.cell? ⟨C,5,none⟩=some v)(hown:w.ownsRow 0 5 1 v l.length (bV l)):
  Calls Tryz.prog 41 #[.pointer (some ⟨C,4,none⟩)] w fun e w'=>e=.returned (.string ⟨l.toArray⟩)∧cF w v w':=by
 by_cases h0:l=[]
 ·subst h0
  have c5':w.drew.cell? ⟨C,5,none⟩=some v:=c5;have hUS:∀(p:Option Addr) (W:World),(Builtin.unsafeString_ #[117,3] 9 #[.pointer p,I0]).run Tryz.prog W=.ok (.string .empty) W:=fun p W=>Lib.run_unsafeString_none W _ _ _ p
  rcases hown.2 with⟨rfl,_⟩|⟨g,cap,cur,rfl,hbg,hg,hnc,hcm,hcs,htake⟩
  ·have hSD:(Builtin.unsafeSliceData_ #[77] 117 #[Sn]).run Tryz.prog w.drew=.ok (.pointer none) w.drew:=Lib.run_unsafeSliceData_nil _ _ _ _ _
   clear hown c5
   go_enter Tryz.func41,Tryz.ntmps41
   go_wp2
   go_region
   all_goals (go_wp2;go_ret;exact⟨rfl,rfl,rfl,rfl,ah _,fun _ _ _=>rfl⟩)
  ·by_cases hc:cap=0
   ·subst hc
    have hSD:(Builtin.unsafeSliceData_ #[77] 117 #[.slice (some ⟨g,0,none⟩) 0 0]).run Tryz.prog w.drew=.ok (.pointer (some ⟨w.drew.heap.size,0,none⟩)) (w.drew.alloc (.view ⟨g,0,none⟩ 5)):=
     Lib.run_unsafeSliceData_zero w.drew _ _ _ Tryz.underlying117 ⟨g,0,none⟩ 0 (5,cur.size) (by have hg':w.drew.heap[g]?=some (.cells cur 5 (0,0)):=hg;simp[World.shape?,hg'])
    have b1:Below w.heap.size w (w.drew.alloc (.view ⟨g,0,none⟩ 5)):=((aA w.heap.size w).drew).alloc (ah _) _;have c5a:=(b1.cell (bj c5)).trans c5;have c5b:(w.alloc (.view ⟨g,0,none⟩ 5)).cell? ⟨C,5,none⟩=some (.slice (some ⟨g,0,none⟩) 0 0):=c5a;have c5d:(w.alloc (.view ⟨g,0,none⟩ 5)).drew.cell? ⟨C,5,none⟩=some (.slice (some ⟨g,0,none⟩) 0 0):=c5a;have HB:=hid b1;clear hown c5 htake hcs hg b1
    go_enter Tryz.func41,Tryz.ntmps41
    go_wp2
    go_region
    all_goals (go_wp2;go_ret;exact⟨rfl,HB.out.os,HB.out.tape,HB.out.output,HB.out.size,fun j hj _=>HB.out.block j hj⟩)
   ·have hSD:(Builtin.unsafeSliceData_ #[77] 117 #[.slice (some ⟨g,0,none⟩) 0 cap]).run Tryz.prog w.drew=.ok (.pointer (some ⟨g,0,none⟩)) w.drew:=Lib.run_unsafeSliceData_row _ _ _ _ _ _ hc
    clear hown c5 htake hcs hg
    go_enter Tryz.func41,Tryz.ntmps41
    go_wp2
    go_region
    all_goals (go_wp2;go_ret;exact⟨rfl,rfl,rfl,rfl,ah _,fun _ _ _=>rfl⟩)
 ·have hl0:l.length≠0:=by simpa using h0
  obtain⟨g,cap,cur,rfl,hbg,hg,hnc,hcm,hcs,htake⟩:∃g cap cur,v=.slice (some ⟨g,0,none⟩) l.length cap∧0≤g∧w.heap[g]?=some (.cells cur 5 (0,0))∧l.length≤cap∧cap≤maxLen∧cur.size=cap*1∧cur.toList.take (l.length*1)=bV l:=by
   rcases hown.2 with⟨_,hz⟩|⟨g,cap,cur,hv,r⟩
   ·exact absurd hz hl0
   ·exact⟨g,cap,cur,hv,r⟩
  have c5':w.drew.cell? ⟨C,5,none⟩=some (.slice (some ⟨g,0,none⟩) l.length cap):=c5;have hSD:(Builtin.unsafeSliceData_ #[77] 117 #[.slice (some ⟨g,0,none⟩) l.length cap]).run Tryz.prog w.drew=.ok (.pointer (some ⟨g,0,none⟩)) w.drew:=
   Lib.run_unsafeSliceData_row _ _ _ _ _ _ (by omega)
  have hUS:(Builtin.unsafeString_ #[117,3] 9 #[.pointer (some ⟨g,0,none⟩),.int .i64 l.length]).run Tryz.prog w.drew=.ok (.string ⟨l.toArray⟩) (w.drew.freeze ⟨g,0,none⟩ l.length):=by
   refine Lib.run_unsafeString_row w.drew 117 3 9 5 Tryz.underlying117 Tryz.cCells g cur.size (by have hg':w.drew.heap[g]?=some (.cells cur 5 (0,0)):=hg;simp[World.shape?,hg']) l h0 (by omega) (by unfold maxLen at hcm;omega) ?_;intro j x hx;exact hown.cells (g:=g) rfl j (.int .u8 x.toNat) (by simp[bV,hx])
  obtain⟨f1,f2,f3,f4⟩:=bs w.drew g l.length;have HF:=hid (show cF w (.slice (some ⟨g,0,none⟩) l.length cap) (w.drew.freeze ⟨g,0,none⟩ l.length) from⟨f1,f2,f3,Nat.le_of_eq f4.symm,fun j _ hn=>bb w.drew g l.length j (fun e=>hn (by rw[e];rfl))⟩);clear htake hcs hg f1 f2 f3 f4 c5
  go_enter Tryz.func41,Tryz.ntmps41
  go_wp2
  go_region
  all_goals (go_wp2;go_ret;exact⟨rfl,HF.out⟩)
theorem cy(C:Nat)(w:World)(v p:Value)(c4:w.cell? ⟨C,4,none⟩=some p)(c5:w.cell? ⟨C,5,none⟩=some v)(z4:w.frozen? ⟨C,4,none⟩=false)(z5:w.frozen? ⟨C,5,none⟩=false):
  Calls Tryz.prog 42 #[.pointer (some ⟨C,4,none⟩)] w fun e w'=>e=.returned (.tuple #[])∧w'=(w.setCell ⟨C,4,none⟩ (.pointer none)).setCell ⟨C,5,none⟩ (Sn):=by
 go_enter Tryz.func42,Tryz.ntmps42
 go_wp2_with fail
 first
  |refine bodyPost_end (results_none rfl _ _ _) rfl ?_
  |refine aH (results_none rfl _ _ _) rfl ?_
 exact⟨rfl,rfl⟩
theorem ce(P X:Nat→Prop)(C:Nat)(s:Cs)(w:World)(h:dc P X C s w):
  Calls Tryz.prog 17 #[.pointer (some ⟨C,0,none⟩)] w fun e w'=>e=.returned (.string ⟨s.out.toArray⟩)∧em P X C w {s with out:=[]} w':=by
 obtain⟨wv,iv,cv,bp,bv,Ms,h⟩:=h;have ks:=cc C bv s.out w ((aq h.row 5).trans rfl) h.b.bw;have H:=hid h;clear h
 go_enter Tryz.func17,Tryz.ntmps17
 go_wp2_with fail
 refine ag ks ?_;rintro e w1 ⟨rfl,s1,s2,s3,s4,s50⟩;have h:=H.out;have hCl:=(gl h.row);have r1:=(s50 C hCl (fun q=>h.b.neC h.row (.inr (.inl q)) rfl)).trans h.row;have kr:=cy C w1 bv bp ((aq r1 4).trans rfl) ((aq r1 5).trans rfl) (aj r1 4) (aj r1 5);have FIN:em P X C w {s with out:=[]} ((w1.setCell ⟨C,4,none⟩ (.pointer none)).setCell ⟨C,5,none⟩ (Sn)):=by
  have r2:=cq (i:=4) (u:=.pointer none) r1;have r3:=cq (i:=5) (u:=Sn) r2;have hoth:∀j,j≠C→((w1.setCell ⟨C,4,none⟩ (.pointer none)).setCell ⟨C,5,none⟩ (Sn)).heap[j]?=w1.heap[j]?:=fun j hj=>(heap_setCell_other _ ⟨C,5,none⟩ j _ hj).trans (heap_setCell_other _ ⟨C,4,none⟩ j _ hj)
  have K:=h.b.parts (P':=P) (X':=X) (Y:=fun j=>bv.ownBlock=some j) (w':=(w1.setCell ⟨C,4,none⟩ (.pointer none)).setCell ⟨C,5,none⟩ (Sn)) h.row (fun j hj hn hp hl=>⟨(hoth j hj).trans (s50 j hl hn),hp,Iff.rfl⟩) h.b.xb;have k1:=K.own fun g hg q=>h.b.wb hg q
  have k2:=K.im fun g hg q=>h.b.bi q hg
  have hsz:((w1.setCell ⟨C,4,none⟩ (.pointer none)).setCell ⟨C,5,none⟩ (Sn)).heap.size=w1.heap.size:=by simp[World.setCell]
  refine⟨P,X,⟨wv,iv,cv,.pointer none,Sn,Ms,r3,k1.1,K.msg,k2.1,h.b.nd,K.cu,.inl rfl,World.ownsRow_nil _ _ _ _,h.b.xw,h.b.xi,(fun g hg=>by cases hg),h.b.xC,h.b.xP,fun g hg=>by rw[hsz];exact Nat.lt_of_lt_of_le (h.b.xl g hg) s4⟩,⟨s1,s2,s3,by rw[hsz];exact s4,fun j hj hn=>?_⟩,fun _ _ q=>q,fun _ _ q=>q⟩;exact(hoth j (fun e=>hn (e▸h.b.xC))).trans (s50 j hj fun q=>hn (h.b.xb j q))
 have HF:=hid FIN;clear FIN h r1 s1 s2 s3 s4 s50 ks H hCl
 go_wp2_with fail
 refine ag kr ?_;rintro e w2 ⟨rfl,hw2⟩;have HF2:Hid (em P X C w {s with out:=[]} w2):=by rw[hw2];exact HF
 clear kr hw2 HF
 go_wp2_with fail
 go_ret
 exact⟨rfl,HF2.out⟩
theorem cf{w:World}{m:Mg}{l:Ls}(h:MgM w m l):m.row.all (·.oneCell')=true:=by
 obtain⟨a1,c1,e1⟩:=h.filt.shape;obtain⟨a2,c2,e2,-,-⟩:=h.sel;obtain⟨a3,c3,e3,-,-⟩:=h.mods;obtain⟨a4,c4,e4,-,-⟩:=h.attrs;obtain⟨a5,c5,e5,-,-⟩:=h.ctl;exact Mg.one m ⟨by rw[e5];rfl,by rw[e1];rfl,by rw[e2];rfl,by rw[e3];rfl,by rw[e4];rfl⟩
def pl2(z:Mg×Ls):Mg×Ls:=(z.1.pl,z.2)
theorem bA{w:World}{B:Nat}{v:Value}{Zs:List (Mg×Ls)}(h:w.ownsRow B 33 28 v Zs.length (cC (Zs.map (·.1))))(hm:∀z∈Zs,MgM w z.1 z.2):ac w v Zs:=by
 rcases h.2 with⟨hv,h0⟩|⟨g,cap,cur,hv,_,_,hc,_⟩
 ·have:Zs=[]:=List.eq_nil_of_length_eq_zero h0
  subst this;exact⟨none,0,hv,ah _,fun q=>absurd rfl q⟩
 ·refine⟨some ⟨g,0,none⟩,cap,hv,hc,fun _=>⟨g,0,rfl,fun j z hz=>⟨fun i x hi=>?_,hm z (List.mem_of_getElem? hz)⟩⟩⟩
  have hil:i<28:=(List.getElem?_eq_some_iff.1 hi).1;have hj:(Zs.map (·.1))[j]?=some z.1:=by rw[List.getElem?_map,hz];rfl
  have hc:=h.cells (g:=g) (by rw[hv];rfl) (j*28+i) x (by rw[ie _ j i z.1 hj hil];exact hi);rw[show(⟨g,0,none⟩:Addr).add (j*28+i)=⟨g,0+j*28+i,none⟩ by simp[Addr.add_lit]] at hc;exact hc
theorem eq.zip{P:Nat→Prop}{w:World}:∀{ms:List Mg} {ys:List (Mg×Ls)},eq P w ms ys→∃Zs:List (Mg×Ls),Zs.length=ys.length∧Zs.map (·.1)=ms∧Zs.map pl2=ys∧∀z∈Zs,MgM w z.1 z.2
 |[],[],_=>⟨[],rfl,rfl,rfl,fun z hz=>by cases hz⟩
 |m::ms,y::ys,h=>by
  obtain⟨Zs,h1,h2,h3,h4⟩:=eq.zip h.2;refine⟨(m,y.2)::Zs,by simp[h1],by simp[h2],?_,fun z hz=>?_⟩
  ·rw[List.map_cons,h3]
   show(m.pl,y.2)::ys=y::ys;rw[h.1.1]
  ·rcases aY.1 hz with rfl|q
   ·exact h.1.2.mgm
   ·exact h4 z q
 |[],_::_,h=>h.elim
 |_::_,[],h=>h.elim
theorem Rw2.at{X:Nat→Prop}{B:Nat}{v:Value}{Ms:List Mg}{ys:List (Mg×Ls)}{w:World}(h:Rw2 X B v Ms ys w):∃Zs,ac w v Zs∧Zs.map pl2=ys:=by
 obtain⟨Zs,h1,h2,h3,h4⟩:=h.msg.zip;exact⟨Zs,bA (by rw[h1,h2];exact h.own) h4,h3⟩
theorem ar(m:Mg)(l:Ls):cR m.pl l=cR m l:=by
 unfold cR;rw[fM]
 rfl
def nxH(s:Cs):Option (Mg×Ls)×Cs:=match s.ms with
 |[]=>(none,s)
 |y::r=>(some y,s.took y r)
structure InH (out:List UInt8) (s:Cs) (B:List (Mg×Ls)):Prop where
 st:s=stA none out B
 good:∀z∈B,Good z
 ids:(B.map (·.1.id)).Nodup
 ext:∀z∈B,z.1.op≠23
 len:B.length≤60
theorem az{out:List UInt8}{s:Cs}(h:InH out s []):nxH s=(none,stA none out []):=by rw[h.st];rfl
theorem bc{out:List UInt8}{s:Cs}{y:Mg×Ls}{r:List (Mg×Ls)}(h:InH out s (y::r)):nxH s=(some y,stA (some (y.1.id,y.1.op)) out r):=by
 rw[h.st,←cr (out:=out) h.good h.ids]
 rfl
theorem InH.next{out:List UInt8}{s:Cs}{y:Mg×Ls}{r:List (Mg×Ls)}(h:InH out s (y::r)):InH out (stA none out r) r:=
 ⟨rfl,fun z hz=>h.good z (List.mem_cons_of_mem _ hz),(List.nodup_cons.1 (by simpa using h.ids:(y.1.id::r.map (·.1.id)).Nodup)).2,fun z hz=>h.ext z (List.mem_cons_of_mem _ hz),by have:=h.len;simp at this;omega⟩
theorem ck{out:List UInt8}:∀(B:List (Mg×Ls)) (n:Nat) (s:Cs),InH out s B→B.length<n→ab nxH n s=(B,stA none out [])
 |[],0,_,_,hn=>by simp at hn
 |[],n+1,s,h,_=>al n (az h)
 |_::_,0,_,_,hn=>by simp at hn
 |y::r,n+1,s,h,hn=>by
  rw[am n (bc h)];show(y::(ab nxH n (stA none out r)).1,(ab nxH n (stA none out r)).2)=_;rw[ck r n _ h.next (by simp at hn;omega)]
theorem bF{cur:Option (Int×Int)}{out:List UInt8}{B:List (Mg×Ls)}(hg:∀z∈B,Good z)(hl:B.length≤100):(stA cur out B).inn.length≤10000000:=by
 have h1:=(af (B.drop 16) fun z hz=>hg z (List.mem_of_mem_drop hz)).2;have h2:(B.drop 16).length≤100:=by simp;omega
 show((B.drop 16).flatMap frB).length≤_
 omega
theorem dl(w0:World)(P X:Nat→Prop)(C:Nat)(s:Cs)(out:List UInt8)(ho:out.length≤1099511627776)(w:World)(h:dc P X C s w)(hH:Hm w0 X w)(hI:∃B,InH out s B):
  Calls Tryz.prog 19 #[.pointer (some ⟨C,0,none⟩)] w (dd P X C w (nxH s)):=by
 obtain⟨B,hB⟩:=hI;cases B with
 |nil=>
  rw[az hB];have hs:=hB.st;subst hs;refine(CL P X C _ w h (.inr (.inr rfl))).mono ?_;rintro e w' ⟨rfl,hb⟩;exact⟨rfl,P,X,h.bel hb,(Nx.refl P X w).bel hb⟩
 |cons y r=>
  have hsil:=(hB.good y (List.mem_cons_self ..));have hno:gS y.1=false:=by unfold gS;rw[aE (hB.ext y (List.mem_cons_self ..)),Bool.false_and]
  have hs:=hB.st;have hms:s.ms=y::r.take 15:=by rw[hs];rfl
  refine(ko w0 P X C s y (r.take 15) w h hH (by rw[hs];rfl) (by rw[hs];rfl) hms hno (by rw[hs];have:=bF (cur:=none) (out:=out) hB.good (by have:=hB.len;omega);omega) (by rw[hms];simp;omega) (by rw[hs];exact ho)).mono ?_;intro e w' q;have hx:nxH s=(some y,s.took y (r.take 15)):=by unfold nxH;rw[hms]
  rw[hx];exact q
def aS(w:World)(C n:Nat)(v i:Value)(wr:World):Prop:=
 ∃(j:Nat) (Zs:List (Mg×Ls)) (P X:Nat→Prop),j≤n∧i=.int .i64 (j:Int)∧Zs.length≤j∧dc P X C (stA none [] (Zs.map pl2)) wr∧Hm w X wr∧(∀z∈Zs,MgM w z.1 z.2∧LsOk z.1 z.2)∧(∀y∈Zs.map pl2,Good y∧y.1.op≠23∧y.1.id≤(j:Int))∧((Zs.map pl2).map (·.1.id)).Nodup∧
  wr.ownsRow w.heap.size 33 28 v Zs.length (cC (Zs.map (·.1)))∧(∀g,v.ownBlock=some g→¬P g)
theorem aO(v:Value)(ys:List (Mg×Ls))(w:World)(hv:ac w v ys)(hk:∀y∈ys,LsOk y.1 y.2)(hE:Env w):
  Cr 6 #[v] w (.bool true):=by
 obtain⟨i0,hi0,hz0,hz1,hz2⟩:=info_parts Tryz.infoMessage;obtain⟨n,hn⟩:=nmm ys.length;obtain⟨av,cap,rfl⟩:∃a c,v=.slice a n c:=by obtain⟨a,c,h1,_⟩:=hv;exact⟨a,c,by rw[h1,hn]⟩
 obtain⟨HV,HK,HN⟩:=Ch hv hk hn;have bw:=aA w.heap.size w;clear hv hk hn
 go_enter Tryz.func6,Tryz.ntmps6
 by_cases h60:60<n
 ·have d60:decide ((n:Int)>60)=true:=aC (by omega)
  have ka:=lA w (hE)
  go_wp2_with fail
  refine ag ka ?_;rintro e wE ⟨rfl,hbE⟩;have bE:=cM bw hbE;clear ka hbE
  go_wp2_with fail
  go_ret
  exact⟨rfl,bE⟩
 ·have d60:decide ((n:Int)>60)=false:=an (by omega)
  obtain⟨HL,HEV⟩:=Cg (show n≤60 by omega) hE;have kn:=nM w;clear h60 hE bw
  go_wp2_with fail
  refine ag kn ?_;rintro e w1 ⟨rfl,h1,b1⟩;have m1:Hm w (Xc w.heap.size) w1:=⟨HEV.out,b1,fun g hg=>by rw[show g=_ from hg];exact ah _⟩;obtain⟨C,hC⟩:=nmm w.heap.size;have HREL:=hid (show aS w C n (Sn) (I0) w1 from⟨0,[],Xc C,Xc C,Nat.zero_le _,rfl,ah _,hC▸h1,hC▸m1,(fun z hz=>by cases hz),(fun z hz=>by cases hz),List.nodup_nil,World.ownsRow_nil _ _ _ _,fun g hg=>by cases hg⟩);have hCw:Hid (w.heap.size=C):=hid hC;clear kn h1 b1 m1 hC d60;rw[hCw.out]
  go_wp2_with fail
  go_loopw [4,5] (fun v i wr=>aS w C n v i wr) (fun _ i _=>n -(RowKit.intOf i).toNat)
  case atStart=>exact HREL.out
  case round=>
   obtain⟨j,Zs,P,X,hj,rfl,hzl,hcn,hhm,hzs,hgd,hnd,hown,hvP⟩:=hrel
   by_cases hlt:j<n
   ·have g1:decide ((j:Int)<(n:Int))=true:=aC (by omega)
    have hk1:(j:Int)<(n:Int):=by omega
    obtain⟨y,hy⟩:∃y,ys[j]?=some y:=⟨_,aM (by rw[HN.out];exact hlt)⟩;obtain⟨a0,q0,e0,_,hq⟩:=HV.out;obtain⟨g,o,ea,hqq⟩:=hq (by intro e;rw[e] at hy;cases hy)
    injection e0 with e1 e2 e3
    rw[ea] at e1;subst e1;obtain⟨hr0,hm0⟩:=hqq j y hy;have hbel:=hhm.bel;have hrng:wr.rangeAt g (o+j*28) y.1.row.toList:=fun i x hi=>(hbel.cell (bj (hr0 i x hi))).trans (hr0 i x hi)
    have hmr:MgM wr y.1 y.2:=hm0.below hbel;obtain⟨m,hm⟩:=nmm ({y.1 with id:=((j:Int)+1)}:Mg);have hmid:m.id=(j:Int)+1:=by rw[←hm]
    have hrow:y.1.row.setIfInBounds 0 (.int .i64 ((j:Int)+1))=m.row:=by rw[←hm];rfl
    have hkk:LsOk m y.2:=by rw[←hm];exact(HK.out y (List.mem_of_getElem? hy)).id7 _
    have hmm:MgM wr m y.2:=by rw[←hm];exact hmr.id7 _
    have hmw:MgM w m y.2:=by rw[←hm];exact hm0.id7 _
    obtain⟨D,hD⟩:=nmm y.1.row;have hD2:D.size=28:=by rw[←hD];rfl
    have hD3:D.all (·.oneCell')=true:=by rw[←hD];exact cf hmr
    have hD0:D[0]?=some (.int .i64 y.1.id):=by rw[←hD];rfl
    have HD0:=hid hD0;rw[hD] at hrng hrow;obtain⟨HD2,HD3,HRN,HTT,HC,HH,HS,HW,Y4⟩:=CE hD2 hD3 hrng (show _∧_∧_∧_∧_ from⟨hmid,hrow,hkk,hmm,hmw⟩) hcn hhm (show _∧_∧_∧_ from⟨hzl,hzs,hgd,hnd⟩) (show _∧_ from⟨hown,hvP⟩) (show(wr.alloc (.cells Zm 33)).heap[wr.heap.size]?=some (.cells Zm 33 (0,0)) from bC _ _ _ rfl);clear hD hD0 hD2 hD3 hrng hmid hrow hkk hmm hmw hcn hhm hzl hzs hgd hnd hown hvP hm hmr hr0 hm0 hbel hqq hq e2 e3 ea hy
    go_upto_region 9 with(first
     |(refine wpList_load_mid rfl 33 (.tmp 23) rfl g (o+j*28) (by rfl) D.toList _ HRN.out Tryz.underlying33 rfl (by rw[Array.length_toList,HD2.out];rfl) ?_;rw[Array.toArray_toList])
     |(refine bh rfl 33 (.tmp 6) (.tmp 24) rfl wr.heap.size 33 Zm D (by rfl) (by rfl) Y4.out (by rw[HD2.out];rfl) (by rw[HD2.out];rfl) HD3.out ?_;generalize hw5:((wr.alloc (.cells Zm 33)).setRow wr.heap.size D)=w5 at⊢))
    have y5:w5.heap[wr.heap.size]?=some (.cells D 33 (0,0)):=by rw[←hw5];exact setRow_heap _ wr.heap.size _ D _ _ Y4.out
    have b5:Below wr.heap.size wr w5:=by rw[←hw5];exact bm ((aA _ _).alloc (ah _) _) (ah _) D
    have z5:=aj y5 0;have c5:=(aq y5 0).trans HD0.out;have y6:=cq (i:=0) (u:=.int .i64 ((j:Int)+1)) y5;have b6:Below wr.heap.size wr (w5.setCell ⟨wr.heap.size,0,none⟩ (.int .i64 ((j:Int)+1))):=b5.setCell (ah _) _;rw[HTT.out.2.1] at y6;clear hw5 Y4 b5 HRN;have hwr:wrap64 ((j:Int)+1)=(j:Int)+1:=by have:=HL.out;unfold wrap64;omega
    go_upto_region 10 with fail
    rw[hwr];generalize hw6:w5.setCell ⟨wr.heap.size,0,none⟩ (.int .i64 ((j:Int)+1))=w6 at y6 b6⊢;clear z5 c5 y5 hw6 hwr;obtain⟨A,hA⟩:=nmm m.row;have hA2:A.size=28:=by rw[←hA];rfl
    have hA1:A[1]?=some (.int .i64 m.op):=by rw[←hA];rfl
    have hAo:A.all (·.oneCell')=true:=by rw[←hA];exact cf HTT.out.2.2.2.1
    have hbox:=uM m;have hAl:cC (Zs.map (·.1)++[m])=cC (Zs.map (·.1))++A.toList:=by rw[A8,←hA];simp[cC]
    have hA3:A.toList.length=1*28:=by simpa using hA2
    have hA4:∀u∈A.toList,u.oneCell'=true:=fun u hu=>by have:=(Array.all_eq_true_iff_forall_mem.1 hAo) u (by simpa using hu);exact this
    have kw:=fa m y.2 w6 (HTT.out.2.2.2.1.below b6) HTT.out.2.2.1 (HH.out.now.below b6);rw[hA] at y6 kw hbox;have hlen:=jM (m:=m) (l:=y.2);obtain⟨t,ht⟩:=nmm ((cR m y.2).1);obtain⟨cd,hcd⟩:=nmm ((cR m y.2).2);obtain⟨op,hop⟩:∃op,m.op=op:=⟨_,rfl⟩;rw[ht,hcd] at kw hlen;rw[hop] at hA1;obtain⟨HT,HLN,HA2,HA1,HA3,HA4,HAL,KW,Y6,B6⟩:=Cz (show _∧_∧_ from⟨ht,hcd,hop⟩) hlen hA2 hA1 hA3 hA4 hAl kw y6 b6;clear hA hA2 hA1 kw hlen ht hcd hop y6 b6 hA3 hA4 hAl hAo
    go_wp2_with (refine bg rfl 33 (.tmp 6) rfl wr.heap.size 33 A (0,0) (by rfl) Y6.out _ Tryz.underlying33 rfl (by rw[HA2.out];rfl) ?_)
    refine ag (show Calls _ _ _ _ _ from KW.out) ?_;rintro e w7 ⟨rfl,hb7⟩;have y7:=bk hb7 Y6.out;have q1:w7.cell? ⟨wr.heap.size,1,none⟩=some (.int .i64 op):=(aq y7 1).trans HA1.out;obtain⟨Y7,B7⟩:=Cg y7 (cM B6.out hb7);clear KW hb7 Y6 B6 y7;have hnxt:∀wx,Below wr.heap.size wr wx→aS w C n u4 (.int .i64 ((j+1:Nat):Int)) wx:=fun wx hb=>
     ⟨j+1,Zs,P,X,by omega,rfl,Nat.le_succ_of_le HS.out.1,HC.out.bel hb,HH.out.bels hb,HS.out.2.1,(fun y hy=>⟨(HS.out.2.2.1 y hy).1,(HS.out.2.2.1 y hy).2.1,by have:=(HS.out.2.2.1 y hy).2.2;omega⟩),HS.out.2.2.2,ge HW.out.1 hb,HW.out.2⟩
    have HNX:=hid hnxt;clear hnxt
    by_cases hc0:cd=0
    ·have ec:(cd==0)=true:=by rw[hc0];rfl
     have nc:(cd !=0)=false:=by rw[bne,ec];rfl
     have kr:=s8 op w7
     go_wp2_with fail
     refine ag kr ?_;rintro e w8 ⟨rfl,hb8⟩;have q1':=(hb8.cell (bj q1)).trans q1;obtain⟨B8,Y8⟩:=Cg (cM B7.out hb8) (bk hb8 Y7.out);clear kr hb8 q1 B7 Y7
     by_cases hr:gk op<0
     ·have dr:decide (gk op<0)=true:=aC hr
      go_wp2_with fail
      go_roundw
      case rel=>rw[show wrap64 ((j:Int)+1)=((j+1:Nat):Int) by have:=HL.out;unfold wrap64;omega];exact HNX.out _ B8.out
      case measure=>rw[show wrap64 ((j:Int)+1)=((j+1:Nat):Int) by have:=HL.out;unfold wrap64;omega];simp[RowKit.intOf];omega
     ·have dr:decide (gk op<0)=false:=an hr
      by_cases h23:op=23
      ·have e23:(op==23)=true:=by rw[h23];rfl
       go_wp2_with fail
       go_roundw
       case rel=>rw[show wrap64 ((j:Int)+1)=((j+1:Nat):Int) by have:=HL.out;unfold wrap64;omega];exact HNX.out _ B8.out
       case measure=>rw[show wrap64 ((j:Int)+1)=((j+1:Nat):Int) by have:=HL.out;unfold wrap64;omega];simp[RowKit.intOf];omega
      ·have e23:(op==23)=false:=aE h23
       have hgo:=Db (op:=op) (by omega);have hgood:Good (pl2 (m,y.2)):=⟨by show(cR m.pl y.2).2=0;rw[ar,HT.out.2.1];exact hc0,rfl,by show fC.contains m.op=true;rw[HT.out.2.2];exact hgo.1,by show gq m.op=false;rw[HT.out.2.2];exact hgo.2.1,by show m.id≠0;rw[HTT.out.1];omega⟩;have hfr:frB (pl2 (m,y.2))=t:=by show(cR m.pl y.2).1=t;rw[ar];exact HT.out.1
       have hnd':((Zs.map pl2++[pl2 (m,y.2)]).map (·.1.id)).Nodup:=by
        rw[List.map_append,List.nodup_append];refine⟨HS.out.2.2.2,by simp,fun a ha b hb=>?_⟩;obtain⟨z,hz,rfl⟩:=List.mem_map.1 ha;have h1:=(HS.out.2.2.1 z hz).2.2;have h2:b=m.id:=by simpa[pl2,Mg.pl] using hb
        rw[h2,HTT.out.1]
        omega
       have hfeed:(stA none [] (Zs.map pl2)).feed t=stA none [] (Zs.map pl2++[pl2 (m,y.2)]):=by rw[←hfr];exact cp (fun z hz=>(HS.out.2.2.1 z hz).1) hgood hnd'
       have h8:=HC.out.bel B8.out;have m8:=HH.out.bels B8.out;have hzl:(Zs.map pl2).length≤60:=by have:=HS.out.1;have:=HL.out;simp;omega
       have kf:=gF w _ _ _ (stA none [] (Zs.map pl2)) t w8 h8.small m8 (by have h1:=bF (cur:=none) (out:=[]) (B:=Zs.map pl2) (fun z hz=>(HS.out.2.2.1 z hz).1) (by omega);have:=HLN.out hc0;omega) (by show((Zs.map pl2).take 16).length≤16;simp;omega) (by show([]:List UInt8).length≤_;simp);rw[hfeed] at kf;obtain⟨M8,HND,OWN8,HB8,VP8,VX8,XM8⟩:=Ck m8 (show _∧_ from⟨hgood,hnd'⟩) (ge HW.out.1 B8.out) B8.out.size (show ∀g,u4.ownBlock=some g→¬(P g∧g<w8.heap.size) from fun g hg q=>HW.out.2 g hg q.1) (show ∀g,u4.ownBlock=some g→¬X g from fun g hg q=>HW.out.2 g hg (by obtain⟨_,_,_,_,_,_,q2⟩:=HC.out;exact q2.b.xP g q)) (show ¬X wr.heap.size from fun q=>by have:=HC.out.xl _ q;omega);clear h8 m8 hfeed hgo hgood hnd' hfr hzl hr B8
       go_wp2_with fail
       refine ag kf ?_;rintro e w9 ⟨rfl,P9,X9,h9,n9⟩;have m9:=M8.out.to n9;have own9:=n9.kb.own OWN8.out VX8.out;have y9:=n9.kb.at Y8.out XM8.out;have vp9:∀g,u4.ownBlock=some g→¬P9 g:=fun g hg q=>VP8.out g hg (n9.ps g (OWN8.out.lt g hg).2 q)
       have hwz:w.heap.size≤w9.heap.size:=m9.bel.size;obtain⟨H9,Y9⟩:=Cg (show _∧_∧_∧_ from⟨h9.small,m9,own9,vp9⟩) y9;have b4:=alb w9 A 33;obtain⟨X4,OWN4,B4,HWZ,HZL⟩:=Cj (show(w9.alloc (.cells A 33)).heap[w9.heap.size]?=some (.cells A 33 (0,0)) from bC _ _ _ rfl) (ge own9 b4) b4 hwz (show Zs.length≤60 by have:=HS.out.1;have:=HL.out;omega);clear kf h9 n9 m9 own9 y9 vp9 b4 hwz q1'
       go_wp2_with (first
        |(refine bg rfl 33 (.tmp 6) rfl wr.heap.size 33 A (0,0) (by rfl) Y9.out _ Tryz.underlying33 rfl (by rw[HA2.out];rfl) ?_)
        |(refine aB rfl fun K hK=>jS (v:=.slice (some ⟨w9.heap.size,0,none⟩) 1 1) (w':=w9.alloc (.cells A 33)) (uS hbox rfl rfl _) (hK _ _ ?_);clear hK K;generalize w9.alloc (.cells A 33)=w10 at X4 OWN4 B4⊢)
        |(at_builtin;refine aB rfl fun K hK=>?_;refine wp_append_lies w10 (.tmp 49) (.tmp 51) 22 rfl w.heap.size 33 i0 _ 28 368 Tryz.underlying22 hi0 hz0 hz1 hz2 rfl (by decide) u4 Zs.length (cC (Zs.map (·.1))) rfl OWN4.out ⟨w9.heap.size,0,none⟩ 1 1 A.toList rfl HA3.out (World.news_of_block X4.out) HA4.out (by omega) (by have:=HZL.out;unfold maxLen;omega) (by have:=HZL.out;omega) (by have h1:=B4.out.size;have h2:=HWZ.out;omega) _ rfl ?_;intro gN0 capN w11 hown hgrow hat hlt5;refine hK _ _ ?_;clear hK K))
       obtain⟨h9,m9,own9,vp9⟩:=H9.out;have h34:=B4.out.size;have kb5:Kb (fun k=>u4.ownBlock=some k) w9 w11:=(Kb.of B4.out).grown hgrow fun k hk=>.inl hk
       have h11:=h9.other kb5 fun k _ hp e=>vp9 k e hp.1
       have m11:Hm w (fun k=>X9 k∧k<w9.heap.size) w11:=⟨HEV.out,m9.bel.trans (kb5.below m9.bel.size fun k hk e=>absurd (own9.lt k e).1 (by omega)),fun g hg=>m9.xs g hg.1⟩;have vp11:¬((P9 gN0∧gN0<w9.heap.size)∧gN0<w9.heap.size):=fun q=>by
        rcases hat with e|e
        ·exact vp9 gN0 e q.1.1
        ·have:=q.2;omega
       have REL:aS w C n (.slice (some ⟨gN0,0,none⟩) (Zs.length+1) capN) (.int .i64 ((j+1:Nat):Int)) w11:=
        ⟨j+1,Zs++[(m,y.2)],_,_,by omega,rfl,by simp;exact HS.out.1,by rw[List.map_append];exact h11,m11,(fun z hz=>by
         rcases List.mem_append.1 hz with q|q
         ·exact HS.out.2.1 z q
         ·rw[List.mem_singleton] at q;rw[q];exact⟨HTT.out.2.2.2.2,HTT.out.2.2.1⟩),(fun z hz=>by
         rw[List.map_append] at hz;rcases List.mem_append.1 hz with q|q
         ·have:=HS.out.2.2.1 z q;exact⟨this.1,this.2.1,by have:=this.2.2;omega⟩
         ·have q:z=pl2 (m,y.2):=by simpa using q
          rw[q];exact⟨HND.out.1,by show m.op≠23;rw[HT.out.2.2];exact h23,by show m.id≤_;rw[HTT.out.1];omega⟩),by rw[List.map_append];exact HND.out.2,by rw[bd,List.map_append];show w11.ownsRow w.heap.size 33 28 _ (Zs.length+1) (cC (Zs.map (·.1)++[m]));rw[HAL.out];exact hown,fun k hk=>by cases hk;exact vp11⟩
       have HR:=hid REL;clear REL h9 m9 own9 vp9 h34 kb5 h11 m11 vp11 hown hgrow hat H9 Y9 X4 OWN4 B4
       go_wp2_with fail
       go_roundw
       case rel=>rw[show wrap64 ((j:Int)+1)=((j+1:Nat):Int) by have:=HL.out;unfold wrap64;omega];exact HR.out
       case measure=>rw[show wrap64 ((j:Int)+1)=((j+1:Nat):Int) by have:=HL.out;unfold wrap64;omega];simp[RowKit.intOf];omega
    ·have ec:(cd==0)=false:=aE hc0
     have nc:(cd !=0)=true:=by rw[bne,ec];rfl
     go_wp2_with fail
     go_roundw
     case rel=>rw[show wrap64 ((j:Int)+1)=((j+1:Nat):Int) by have:=HL.out;unfold wrap64;omega];exact HNX.out _ B7.out
     case measure=>rw[show wrap64 ((j:Int)+1)=((j+1:Nat):Int) by have:=HL.out;unfold wrap64;omega];simp[RowKit.intOf];omega
   ·obtain rfl:j=n:=by omega
    have g1:decide ((j:Int)<(j:Int))=false:=an (by omega);have hzl60:(Zs.map pl2).length≤60:=by have:=HL.out;simp;omega
    have hin:InH [] (stA none [] (Zs.map pl2)) (Zs.map pl2):=⟨rfl,fun z hz=>(hgd z hz).1,hnd,fun z hz=>(hgd z hz).2.1,hzl60⟩;have kd:=ca (fun s=>∃B,InH [] s B) nxH w P X C _ wr hcn hhm ⟨_,hin⟩ (fun P X s w' h hH hI=>dl w P X C s [] (by simp) w' h hH hI) (fun s y hI hy=>by
     obtain⟨B,hB⟩:=hI;cases B with
     |nil=>rw[az hB] at hy;cases hy
     |cons z r=>exact⟨r,by rw[bc hB];exact hB.next⟩)
    rw[ck _ 400 _ hin (by omega)] at kd;obtain⟨HZ,HM,OWN,VX,HZL⟩:=Cj hzs hhm hown (show ∀g,u4.ownBlock=some g→¬X g from fun g hg q=>hvP g hg (by obtain⟨_,_,_,_,_,_,q2⟩:=hcn;exact q2.b.xP g q)) hzl;clear hin hzl60 hzs hhm hown hvP hcn hgd hnd hzl
    go_wp2_with fail
    refine ag kd ?_;rintro e w2 ⟨v2,Ms2,P2,X2,rfl,h2,n2,hrw,-⟩;have own2:=n2.kb.own OWN.out VX.out;have m2:=HM.out.to n2;obtain⟨Zg,hZg,hZp⟩:=hrw.at;have hWt:ac w2 u4 Zs:=bA own2 fun z hz=>(HZ.out z hz).1.below m2.bel
    have ka:=lA w2 m2.now;obtain⟨H2,HZP⟩:=Cg (show _∧_∧_∧_ from⟨h2,m2,hZg,hWt⟩) hZp;clear kd h2 n2 hrw own2 m2 hZg hZp hWt OWN VX HM
    go_wp2_with fail
    refine ag ka ?_;rintro e w3 ⟨rfl,hb3⟩;obtain⟨h2,m2,hZg,hWt⟩:=H2.out;have h3:=h2.bel hb3;have kc:=iM _ _ _ _ w3 h3;have H3:=hid (show _∧_∧_∧_ from⟨h3,m2.bels hb3,hZg.below hb3,hWt.below hb3⟩);clear ka h2 m2 hZg hWt h3 hb3 H2
    go_wp2_with fail
    refine ag kc ?_;rintro e w4 ⟨rfl,hb4⟩;obtain⟨h3,m3,hZg,hWt⟩:=H3.out;have h4:=h3.bel hb4;have ks:=a9 v2 u4 Zg Zs w4 (hZg.below hb4) (hWt.below hb4) (by have:=HZL.out;have:=HL.out;omega) (fun z hz=>(HZ.out z hz).2) HZP.out;have H4:=hid (show _∧_ from⟨h4,m3.bels hb4⟩);clear kc h3 m3 hZg hWt h4 hb4 H3
    go_wp2_with fail
    refine ag ks ?_;rintro e w5 ⟨rfl,hb5⟩;obtain⟨h4,m4⟩:=H4.out;have h5:=h4.bel hb5;have kt:=ce _ _ _ _ w5 h5;have M5:=hid (m4.bels hb5);clear ks h4 m4 h5 hb5 H4
    go_wp2_with fail
    refine ag kt ?_;rintro e w6 ⟨rfl,P6,X6,h6,n6⟩;have BE:=hid (M5.out.to n6).bel;clear kt h6 n6 M5
    go_wp2_with fail
    go_ret
    exact⟨rfl,BE.out⟩
def buX(l:List (Mg×Ls)):Nat:=(l.map fun y=>buG y.1 y.2).sum
theorem cm{H:Type}{enc:TypeId×Value→H}{W:World}{base:Nat}{spare:Nat→Bool}{held:Bool}{fuel:Nat}{cs:List Value}{x:DataW H×List MemPlace}
  (h:DataW.trod enc Tryz.prog W base spare held fuel 22 cs=some x):∃v l,cs=[v]∧ac W v l∧buX l≤Rows.uptoBulk x.1∧∀y∈l,∀p∈y.2.filt,p.n≤9223372036854775807:=by
 rcases Go.Deep.open_slice Tryz.underlying22 h with⟨rfl,rfl⟩|⟨a,len,cap,m,n,D,Pl,rfl,hb,hl,hm,hmm,rfl,hx⟩
 ·exact⟨_,[],rfl,⟨none,0,rfl,ah _,fun h=>absurd rfl h⟩,by simp[buX],by simp⟩
 ·have hlm:len≤m:=by rw[hmm];split<;>omega
  have c28:Tryz.prog.cellsOf 33=28:=by kernel_rfl
  have each:∀i,∃q:Mg×Ls,i<len→(∀(k:Nat) (y:Value),q.1.row.toList[k]?=some y→W.cell? (a.add (i*28+k))=some y)∧MgM W q.1 q.2∧buG q.1 q.2≤Rows.uptoBulk (D i)∧∀p∈q.2.filt,p.n≤9223372036854775807:=by
   intro i
   by_cases hi:i<len
   ·obtain⟨cs',h1,h2⟩:=hx i (by omega)
    rw[c28] at h1;obtain⟨_,hlen,hcell⟩:=World.cells?_some h1;obtain⟨m',l',hc,q1,q2,q3⟩:=pu h2;refine⟨(m',l'),fun _=>⟨fun k y hk=>?_,q1,q2,q3⟩⟩;have hk28:k<28:=(List.getElem?_eq_some_iff.1 hk).1;have e0:=hcell k (by omega);rw[Go.Deep.add_add] at e0;have e1:cs'[k]?=some y:=by rw[hc];exact hk
    first|rw[e0,e1]|(rw[e0];have:=List.getElem?_eq_some_iff.1 e1;simp[this.2])
   ·exact⟨({},{}),fun h=>absurd h hi⟩
  let f:=fun i=>Classical.choose (each i)
  have hf:=fun i (hi:i<len)=>Classical.choose_spec (each i) hi
  have hlen:((List.range len).map fun i=>f i).length=len:=by simp
  refine⟨_,(List.range len).map fun i=>f i,rfl,⟨some a,cap,by rw[hlen],by rw[hlen];exact hl,fun h0=>?_⟩,?_,fun y hy=>?_⟩
  ·have hpos:0<len:=by
    rcases Nat.eq_zero_or_pos len with h|h
    ·subst h;exact absurd rfl h0
    ·exact h
   obtain⟨g,o,rfl⟩:=gi ((hf 0 hpos).1 0 _ rfl) (by simp);refine⟨g,o,rfl,fun j y hj=>?_⟩;have hjl:j<len:=by have:=(List.getElem?_eq_some_iff.1 hj).1;simpa using this
   rw[List.getElem?_map,List.getElem?_range hjl] at hj;cases hj;obtain⟨g1,g2,_⟩:=hf j hjl;refine⟨fun k y hk=>?_,g2⟩;have:=g1 k y hk;rw[Addr.add_lit,←Nat.add_assoc] at this;exact this
  ·have:=Cn D (fun i=>buG (f i).1 (f i).2) len (fun i hi=>(hf i hi).2.2.1)
   simp only[Rows.uptoBulk,buX,List.map_map];simp only[Function.comp_def] at this⊢
   omega
  ·obtain⟨i,hi,rfl⟩:=List.mem_map.1 hy
   exact(hf i (List.mem_range.1 hi)).2.2.2
theorem cz{l:List (Mg×Ls)}(h:buX l≤1048576)(hn:∀y∈l,∀p∈y.2.filt,p.n≤9223372036854775807):∀y∈l,LsOk y.1 y.2:=fun y hy=>
 tq (by have:=gz (fun y:Mg×Ls=>buG y.1 y.2) l y hy;unfold buX at h;omega) (hn y hy)
end Go.Proofs.YthpcpdplcicfoaaGreatDoor
