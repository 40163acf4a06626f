/- MsC, MsD, MsF, MsG, MsJ, MsK, MsS, MsT, CnA, PlainDn, PlainFlt, ElA, OcA, OcB. -/
import Derived.Deep.CutRange
import Derived.Deep.CutBlock
import Derived.ChangeKeysEq
import Derived.Lib.IndexLaws
import Derived.Lib.Split
import Derived.Lib.ValidLaws
import Derived.Test.YtfhghdcbofbceaaGreatDoorX3
namespace Go.Proofs.YtfhghdcbofbceaaGreatDoor
open Go.RowKit Go.Lib
open Go.Lib
set_option maxRecDepth 100000
set_option maxHeartbeats 16000000
theorem pA(po:Nat)(w:World):
  CallsD Tryz.prog 115 #[.pointer (some ⟨po,0,none⟩)] .returning w fun e u' w'=>e=.returned (.tuple #[])∧u'=.returning∧w'=w:=by
 refine callsD_of_wpS Tryz.func115 rfl fun c₀ cs hu=>?_
 apply wpS_seq;apply wpS_region
 simp[wpOpsS,go_sem,recoverD,hu,Tryz.ntmps115,Exit.thenS]
 refine wpS_of_wp ?_;simp only[Array.replicate,List.replicate,List.setIfInBounds_toArray,List.set]
 go_wp2
 cases c₀
 simp_all [bodyPostS,results,Tryz.results115]
theorem xB(op:Int)(b:Nat)(zs:List Int)(w:World)(hl:zs.length≤1000)(hc:∀j,j<zs.length→w.cell? ⟨b,0+j,none⟩=some (.int .i64 (zs.getD j 0))):
  Calls Tryz.prog 52 #[.int .i64 op,.slice (some ⟨b,0,none⟩) zs.length zs.length] w fun e w'=>e=.returned (.bool (zs.contains op))∧w'=w:=by
 have k:=Tryz.slices_Contains_int b 0 zs.length zs.length zs op w (ah _) (by omega) hc;rw[List.take_of_length_le (ah _)] at k;obtain⟨R,hR⟩:=nmm (zs.contains op);rw[hR] at k⊢;clear hR hc
 go_enter Tryz.func52,Tryz.ntmps52
 go_wp2_with fail
 refine ag k ?_;rintro e w1 ⟨rfl,rfl⟩
 go_wp2_with fail
 go_ret
 exact⟨rfl,rfl⟩
theorem pB(n most:Int)(h0:0≤n)(h1:n≤most)(w:World):Calls Tryz.prog 44 #[.int .i64 n,.int .i64 most] w fun e w'=>e=.returned (.bool true)∧w'=w:=by
 have g1:decide ((0:Int)≤n)=true:=aC h0;have g2:decide (n≤most)=true:=aC h1
 go_enter Tryz.func44,Tryz.ntmps44
 go_wp2_with fail
 go_ret
 exact⟨rfl,rfl⟩
def ez:List Int:=[1,5,7,9,11,13,15,24]
theorem yF(op:Int)(w:World):Cr 73 #[.int .i64 op] w (.bool (ez.contains op)):=by
 have a1:=alz w #[.int .i64 1,.int .i64 5,.int .i64 7,.int .i64 9,.int .i64 11,.int .i64 13,.int .i64 15,.int .i64 24] 3;have b1:=alb w #[.int .i64 1,.int .i64 5,.int .i64 7,.int .i64 9,.int .i64 11,.int .i64 13,.int .i64 15,.int .i64 24] 3;have kc:=xB op w.heap.size [1,5,7,9,11,13,15,24] (w.alloc (.cells #[.int .i64 1,.int .i64 5,.int .i64 7,.int .i64 9,.int .i64 11,.int .i64 13,.int .i64 15,.int .i64 24] 3)) (by simp) (fun j hj=>by
  have h2:j<8:=hj;have hcases:j=0∨j=1∨j=2∨j=3∨j=4∨j=5∨j=6∨j=7:=by omega
  rcases hcases with rfl|rfl|rfl|rfl|rfl|rfl|rfl|rfl
  ·exact(aq a1 0).trans rfl
  ·exact(aq a1 1).trans rfl
  ·exact(aq a1 2).trans rfl
  ·exact(aq a1 3).trans rfl
  ·exact(aq a1 4).trans rfl
  ·exact(aq a1 5).trans rfl
  ·exact(aq a1 6).trans rfl
  ·exact(aq a1 7).trans rfl)
 obtain⟨R,hR⟩:=nmm (([1,5,7,9,11,13,15,24]:List Int).contains op);rw[show ez.contains op=R from hR];rw[hR] at kc;clear hR a1
 go_enter Tryz.func73,Tryz.ntmps73
 go_wp2_with fail
 generalize w.alloc (.cells #[.int .i64 1,.int .i64 5,.int .i64 7,.int .i64 9,.int .i64 11,.int .i64 13,.int .i64 15,.int .i64 24] 3)=w1 at b1 kc⊢;refine ag kc ?_;rintro e w2 ⟨rfl,rfl⟩
 go_wp2_with fail
 go_ret
 exact⟨rfl,b1⟩
def fC:List Int:=[0,2,3,6,8,10,12,14,16,23]
theorem D2(op:Int)(w:World):Cr 24 #[.int .i64 op] w (.bool (fC.contains op)):=by
 have a1:=alz w #[I0,.int .i64 2,.int .i64 3,.int .i64 6,.int .i64 8,.int .i64 10,.int .i64 12,.int .i64 14,.int .i64 16,.int .i64 23] 3;have b1:=alb w #[I0,.int .i64 2,.int .i64 3,.int .i64 6,.int .i64 8,.int .i64 10,.int .i64 12,.int .i64 14,.int .i64 16,.int .i64 23] 3;have kc:=xB op w.heap.size [0,2,3,6,8,10,12,14,16,23] (w.alloc (.cells #[I0,.int .i64 2,.int .i64 3,.int .i64 6,.int .i64 8,.int .i64 10,.int .i64 12,.int .i64 14,.int .i64 16,.int .i64 23] 3)) (by simp) (fun j hj=>by
  have h2:j<10:=hj;have hcases:j=0∨j=1∨j=2∨j=3∨j=4∨j=5∨j=6∨j=7∨j=8∨j=9:=by omega
  rcases hcases with rfl|rfl|rfl|rfl|rfl|rfl|rfl|rfl|rfl|rfl
  ·exact(aq a1 0).trans rfl
  ·exact(aq a1 1).trans rfl
  ·exact(aq a1 2).trans rfl
  ·exact(aq a1 3).trans rfl
  ·exact(aq a1 4).trans rfl
  ·exact(aq a1 5).trans rfl
  ·exact(aq a1 6).trans rfl
  ·exact(aq a1 7).trans rfl
  ·exact(aq a1 8).trans rfl
  ·exact(aq a1 9).trans rfl)
 obtain⟨R,hR⟩:=nmm (([0,2,3,6,8,10,12,14,16,23]:List Int).contains op);rw[show fC.contains op=R from hR];rw[hR] at kc;clear hR a1
 go_enter Tryz.func24,Tryz.ntmps24
 go_wp2_with fail
 generalize w.alloc (.cells #[I0,.int .i64 2,.int .i64 3,.int .i64 6,.int .i64 8,.int .i64 10,.int .i64 12,.int .i64 14,.int .i64 16,.int .i64 23] 3)=w1 at b1 kc⊢;refine ag kc ?_;rintro e w2 ⟨rfl,rfl⟩
 go_wp2_with fail
 go_ret
 exact⟨rfl,b1⟩
def gk(op:Int):Int:=if !fC.contains op||op==2||op==16 then -1 else if op==3 then 5 else op+1
theorem s8(op:Int)(w:World):Cr 7 #[.int .i64 op] w (.int .i64 (gk op)):=by
 have kc:=D2 op w;rcases Bool.eq_false_or_eq_true (fC.contains op) with hc|hc
 ·have hm:op∈fC:=by simpa using hc
  rw[hc] at kc;simp only[fC,aY,aZ,or_false] at hm;rcases hm with rfl|rfl|rfl|rfl|rfl|rfl|rfl|rfl|rfl|rfl
  all_goals
   go_enter Tryz.func7,Tryz.ntmps7
   go_wp2_with fail
   refine ag kc ?_;rintro e w2 ⟨rfl,b1⟩
   go_wp2_with fail
   go_ret
   exact⟨rfl,b1⟩
 ·have hr:gk op=-1:=by unfold gk;rw[hc];rfl
  rw[hr];rw[hc] at kc;clear hc hr
  go_enter Tryz.func7,Tryz.ntmps7
  go_wp2_with fail
  refine ag kc ?_;rintro e w2 ⟨rfl,b1⟩
  go_wp2_with fail
  go_ret
  exact⟨rfl,b1⟩
structure Mg where
 id:Int:=0
 op:Int:=0
 dn:List UInt8:=[]
 ver:Int:=0
 sasl:Bool:=false
 secret:List UInt8:=[]
 scope:Int:=0
 deref:Int:=0
 size:Int:=0
 time:Int:=0
 types:Bool:=false
 filt:Value:=Sn
 sel:Value:=Sn
 mods:Value:=Sn
 attrs:Value:=Sn
 newRdn:List UInt8:=[]
 newSup:List UInt8:=[]
 delOld:Bool:=false
 hasSup:Bool:=false
 typ:List UInt8:=[]
 value:List UInt8:=[]
 oid:List UInt8:=[]
 has:Bool:=false
 target:Int:=0
 code:Int:=0
 matched:List UInt8:=[]
 text:List UInt8:=[]
 ctl:Value:=Sn
def Mg.row(m:Mg):Array Value:=#[.int .i64 m.id,.int .i64 m.op,.string ⟨m.dn.toArray⟩,.int .i64 m.ver,.bool m.sasl,.string ⟨m.secret.toArray⟩,.int .i64 m.scope,.int .i64 m.deref,.int .i64 m.size,.int .i64 m.time,.bool m.types,m.filt,m.sel,m.mods,m.attrs,.string ⟨m.newRdn.toArray⟩,.string ⟨m.newSup.toArray⟩,.bool m.delOld,.bool m.hasSup,.string ⟨m.typ.toArray⟩,.string ⟨m.value.toArray⟩,.string ⟨m.oid.toArray⟩,.bool m.has,.int .i64 m.target,.int .i64 m.code,.string ⟨m.matched.toArray⟩,.string ⟨m.text.toArray⟩,m.ctl]
def Mg.pv(m:Mg):Array Value:=#[.iface 3 (.int .i64 m.ver),.iface 9 (.string ⟨m.dn.toArray⟩),.iface 4 (.bool m.sasl),.iface 9 (.string ⟨m.secret.toArray⟩),.iface 3 (.int .i64 m.scope),.iface 3 (.int .i64 m.deref),.iface 3 (.int .i64 m.size),.iface 3 (.int .i64 m.time),.iface 4 (.bool m.types),.iface 114 (.agg #[.string ⟨m.newRdn.toArray⟩,.string ⟨m.newSup.toArray⟩,.string ⟨m.typ.toArray⟩]),.iface 115 (.agg #[.bool m.delOld,.bool m.hasSup]),.iface 116 (.agg #[.string ⟨m.value.toArray⟩,.string ⟨m.oid.toArray⟩]),.iface 4 (.bool m.has),.iface 3 (.int .i64 m.target),.iface 3 (.int .i64 m.code),.iface 116 (.agg #[.string ⟨m.matched.toArray⟩,.string ⟨m.text.toArray⟩])]
theorem lK(m:Mg)(w:World):Cr 45 #[.agg m.row] w (.agg m.pv):=by
 generalize hA:m.row=A;have HA:=hid hA;clear hA;obtain⟨P,hP⟩:=nmm m.pv;have hP1:(#[.iface 3 (.int .i64 m.ver),.iface 9 (.string ⟨m.dn.toArray⟩),.iface 4 (.bool m.sasl),.iface 9 (.string ⟨m.secret.toArray⟩),.iface 3 (.int .i64 m.scope),.iface 3 (.int .i64 m.deref),.iface 3 (.int .i64 m.size),.iface 3 (.int .i64 m.time),.iface 4 (.bool m.types),.iface 114 (.agg #[.string ⟨m.newRdn.toArray⟩,.string ⟨m.newSup.toArray⟩,.string ⟨m.typ.toArray⟩]),.iface 115 (.agg #[.bool m.delOld,.bool m.hasSup]),.iface 116 (.agg #[.string ⟨m.value.toArray⟩,.string ⟨m.oid.toArray⟩]),.iface 4 (.bool m.has),.iface 3 (.int .i64 m.target),.iface 3 (.int .i64 m.code),.iface 116 (.agg #[.string ⟨m.matched.toArray⟩,.string ⟨m.text.toArray⟩])]:Array Value)=P:=hP;have hP2:P.size=16:=by rw[←hP];rfl
 have hP3:P.all (·.oneCell')=true:=by rw[←hP];simp[Mg.pv,Value.oneCell']
 rw[hP];obtain⟨HP1,HP2,HP3⟩:=Ch hP1 hP2 hP3;clear hP hP1 hP2 hP3;have b1:Bw w ((w.alloc (.cells A 32)).alloc (.cells #[.nilIface,.nilIface,.nilIface,.nilIface,.nilIface,.nilIface,.nilIface,.nilIface,.nilIface,.nilIface,.nilIface,.nilIface,.nilIface,.nilIface,.nilIface,.nilIface] 79)):=((aA _ _).alloc (ah _) _).alloc (by simp) _;have m1:Hc ((w.alloc (.cells A 32)).alloc (.cells #[.nilIface,.nilIface,.nilIface,.nilIface,.nilIface,.nilIface,.nilIface,.nilIface,.nilIface,.nilIface,.nilIface,.nilIface,.nilIface,.nilIface,.nilIface,.nilIface] 79)) w.heap.size A 32:=(alloc_old _ _ _ (by simp)).trans (fb _ _ _ rfl);have t1:((w.alloc (.cells A 32)).alloc (.cells #[.nilIface,.nilIface,.nilIface,.nilIface,.nilIface,.nilIface,.nilIface,.nilIface,.nilIface,.nilIface,.nilIface,.nilIface,.nilIface,.nilIface,.nilIface,.nilIface] 79)).heap[w.heap.size+1]?=some (.cells #[.nilIface,.nilIface,.nilIface,.nilIface,.nilIface,.nilIface,.nilIface,.nilIface,.nilIface,.nilIface,.nilIface,.nilIface,.nilIface,.nilIface,.nilIface,.nilIface] 79 (0,0)):=fb _ _ _ (by simp)
 go_enter Tryz.func45,Tryz.ntmps45
 refine wp_seq ?_;refine aQ ?_
 iterate 2 (refine aB rfl (kkn ?_))
 generalize((w.alloc (.cells A 32)).alloc (.cells #[.nilIface,.nilIface,.nilIface,.nilIface,.nilIface,.nilIface,.nilIface,.nilIface,.nilIface,.nilIface,.nilIface,.nilIface,.nilIface,.nilIface,.nilIface,.nilIface] 79))=w1 at b1 m1 t1⊢;have q3:w1.cell? ⟨w.heap.size,3,none⟩=some (.int .i64 m.ver):=(aq m1 3).trans (by rw[←HA.out];rfl);have q2:w1.cell? ⟨w.heap.size,2,none⟩=some (.string ⟨m.dn.toArray⟩):=(aq m1 2).trans (by rw[←HA.out];rfl);have q4:w1.cell? ⟨w.heap.size,4,none⟩=some (.bool m.sasl):=(aq m1 4).trans (by rw[←HA.out];rfl);have q5:w1.cell? ⟨w.heap.size,5,none⟩=some (.string ⟨m.secret.toArray⟩):=(aq m1 5).trans (by rw[←HA.out];rfl);have q6:w1.cell? ⟨w.heap.size,6,none⟩=some (.int .i64 m.scope):=(aq m1 6).trans (by rw[←HA.out];rfl);have q7:w1.cell? ⟨w.heap.size,7,none⟩=some (.int .i64 m.deref):=(aq m1 7).trans (by rw[←HA.out];rfl);have q8:w1.cell? ⟨w.heap.size,8,none⟩=some (.int .i64 m.size):=(aq m1 8).trans (by rw[←HA.out];rfl);have q9:w1.cell? ⟨w.heap.size,9,none⟩=some (.int .i64 m.time):=(aq m1 9).trans (by rw[←HA.out];rfl);have q10:w1.cell? ⟨w.heap.size,10,none⟩=some (.bool m.types):=(aq m1 10).trans (by rw[←HA.out];rfl);have q15:w1.cell? ⟨w.heap.size,15,none⟩=some (.string ⟨m.newRdn.toArray⟩):=(aq m1 15).trans (by rw[←HA.out];rfl);have q16:w1.cell? ⟨w.heap.size,16,none⟩=some (.string ⟨m.newSup.toArray⟩):=(aq m1 16).trans (by rw[←HA.out];rfl);have q19:w1.cell? ⟨w.heap.size,19,none⟩=some (.string ⟨m.typ.toArray⟩):=(aq m1 19).trans (by rw[←HA.out];rfl);have q17:w1.cell? ⟨w.heap.size,17,none⟩=some (.bool m.delOld):=(aq m1 17).trans (by rw[←HA.out];rfl);have q18:w1.cell? ⟨w.heap.size,18,none⟩=some (.bool m.hasSup):=(aq m1 18).trans (by rw[←HA.out];rfl);have q20:w1.cell? ⟨w.heap.size,20,none⟩=some (.string ⟨m.value.toArray⟩):=(aq m1 20).trans (by rw[←HA.out];rfl);have q21:w1.cell? ⟨w.heap.size,21,none⟩=some (.string ⟨m.oid.toArray⟩):=(aq m1 21).trans (by rw[←HA.out];rfl);have q22:w1.cell? ⟨w.heap.size,22,none⟩=some (.bool m.has):=(aq m1 22).trans (by rw[←HA.out];rfl);have q23:w1.cell? ⟨w.heap.size,23,none⟩=some (.int .i64 m.target):=(aq m1 23).trans (by rw[←HA.out];rfl);have q24:w1.cell? ⟨w.heap.size,24,none⟩=some (.int .i64 m.code):=(aq m1 24).trans (by rw[←HA.out];rfl);have q25:w1.cell? ⟨w.heap.size,25,none⟩=some (.string ⟨m.matched.toArray⟩):=(aq m1 25).trans (by rw[←HA.out];rfl);have q26:w1.cell? ⟨w.heap.size,26,none⟩=some (.string ⟨m.text.toArray⟩):=(aq m1 26).trans (by rw[←HA.out];rfl);clear m1
 go_upto_region 1 with fail
 refine aQ ?_
 iterate 62 (refine aB rfl (kkn ?_))
 clear q3 q2 q4 q5 q6 q7 q8 q9 q10 q15 q16 q19 q17 q18 q20 q21 q22 q23 q24 q25 q26;refine aB rfl fun K hK=>?_
 go_simp;rw[HP1.out];refine hK _ _ ?_;clear hK K
 have b2:=xo b1 (g:=w.heap.size+1) (by omega) P;have t2:=setRow_heap w1 (w.heap.size+1) _ P _ _ t1;refine bh rfl 79 (.tmp 2) (.tmp 65) rfl (w.heap.size+1) 79 _ P (by rfl) (by rfl) t1 (by rw[HP2.out];rfl) (by rw[HP2.out];rfl) HP3.out ?_;generalize w1.setRow (w.heap.size+1) P=w2 at b2 t2⊢;clear b1 t1;go_simp
 go_wp2_with fail
 refine aH (v:=.agg P) ?_ rfl ⟨rfl,b2⟩;have hr:=aJ (P:=Tryz.prog) w2 (w.heap.size+1) 79 79 P (0,0) (.array 16 20) t2 (show Tryz.prog.underlying 79=_ from by rfl) (by rfl) (by rw[HP2.out];rfl)
 simp[results,Tryz.f45]
 exact hr
section
variable {P:Program} (w:World)
theorem mP(d:Nat)(e:TypeId)(c:Nat)(xs:Array Value):∀is:List Nat,(∀i,i∈is→∃x,(part e xs (i*c)).run P w=.ok x w∧(Op.equalIn d e x x).run P w=.ok true w)→(Op.eqItems d e c xs xs is).run P w=.ok true w
 |[],_=>by simp[Op.eqItems]
 |i::is,h=>by
  obtain⟨x,h1,h2⟩:=h i (by simp);have ih:=mP d e c xs is (fun j hj=>h j (List.mem_cons_of_mem _ hj))
  simp[Op.eqItems,h1,h2,ih]
theorem tD(d:Nat){t tx:TypeId}{v:Value}{ms:Array (String×TypeId)}{i:TypeInfo}(hu:P.underlying t=some (.interface ms))(hi:P.info? tx=some i)(hc:i.comparable=true)(h:(Op.equalIn d tx v v).run P w=.ok true w):
  (Op.equalIn (d+1) t (.iface tx v) (.iface tx v)).run P w=.ok true w:=by
 simp[Op.equalIn,run_underlying hu,typeInfo,hi,hc,h]
theorem cA{e:TypeId}{xs:Array Value}{off:Nat}{v:Value}{k:TypeDesc}(hu:P.underlying e=some k)(hk:(match k with| .struct _| .array _ _=>false|_=>true)=true)(hx:xs[off]?=some v):(part e xs off).run P w=.ok v w:=by
 cases k<;>simp at hk<;>simp[part,isAgg,run_underlying hu,hx]
end
theorem bX(t:TypeId)(ht:t=3∨t=9∨t=4∨t=114∨t=116∨t=115):∃i,Tryz.prog.info? t=some i∧i.comparable=true:=by
 rcases ht with rfl|rfl|rfl|rfl|rfl|rfl
 all_goals exact⟨_,rfl,rfl⟩
theorem oz(args:Array Value)(w:World):(callFunc 77 args).run Tryz.prog w=.ok (.enter 77 args) w:=by go_simp
theorem sp(N:Nat)(hN:jw N)(A:Array Value)(hsz:A.size=28)(el:El)(hs:SmE el)(hz:bK el≤N)(w:World)
  (hval:∀w',Bw w w'→Calls Tryz.prog 22 #[.agg A] w' fun e w''=>e=.returned (.bool true)∧Bw w' w'')
  (hel:∀w',Bw w w'→Calls Tryz.prog 23 #[.agg A] w' fun e w''=>(∃u,e=.returned (.agg (elA el u))∧bf (fun g=>w'.heap.size≤g) w'' u el.kids)∧Bw w' w''):
  Cr 6 #[.agg A] w (.tuple #[.string ⟨(dD el).1.toArray⟩,.int .i64 (dD el).2]):=by
 obtain⟨B,hB⟩:=nmm ((dD el).1.toArray);obtain⟨c,hc⟩:=nmm ((dD el).2);have kb:=fun(u:Value) (w:World) (h:bf (fun _=>True) w u el.kids)=>pf N hN el hs hz u w h
 rw[hB,hc] at kb⊢;obtain⟨KB,HZ⟩:=Cg kb hsz;clear kb hB hc hs hz hsz;have b1:=alb w A 32;have m1:=alz w A 32;obtain⟨HV,HE⟩:=Cg hval hel;clear hval hel
 go_enter Tryz.func6,Tryz.ntmps6
 go_upto_region 1 with fail
 generalize w.alloc (.cells A 32)=w1 at b1 m1⊢;have kv:=HV.out w1 b1
 go_wp2_with (refine ldM (.tmp 1) m1 HZ.out ?_)
 refine ag kv ?_;rintro e w2 ⟨rfl,hb⟩;have m2:=bkk hb m1;have b2:=btt b1 hb;clear kv HV hb m1 b1;have ke:=HE.out w2 b2
 go_wp2_with (refine ldM (.tmp 1) m2 HZ.out ?_)
 refine ag ke ?_;rintro e w3 ⟨⟨u,rfl,hu⟩,hb⟩;have b3:=btt b2 hb;clear ke HE hb m2 b2;have kb:=KB.out u w3 (hu.mono fun _ _ _=>trivial);clear KB hu
 go_wp2_with fail
 refine ag kb ?_;rintro e w4 ⟨rfl,hb⟩;have b4:=btt b3 hb;clear kb hb b3
 go_wp2_with fail
 refine aH (v:=.tuple #[.string ⟨B⟩,.int .i64 c]) ?_ rfl ⟨rfl,b4⟩
 simp[results,Tryz.f6]
theorem qW(b:Nat)(A:Array Value)(dn:List UInt8)(w:World)(hb:Hc w b A 32)(h2:A[2]?=some (.string ⟨dn.toArray⟩)):
  Cr 84 #[.pointer (some ⟨b,0,none⟩)] w (.agg (elA (.mk 0 4 false dn []) (Sn))):=by
 have b1:=alb w Ze 40;have t1:=alz w Ze 40;have m1:=bkk b1 hb;have q2:=(aq m1 2).trans h2;have ks:=bz dn (w.alloc (.cells Ze 40));clear hb h2 m1
 go_enter Tryz.func84,Tryz.ntmps84
 go_wp2_with fail
 generalize w.alloc (.cells Ze 40)=w1 at b1 t1 q2 ks⊢;refine ag ks ?_;rintro e w2 ⟨rfl,hb2⟩;have t2:=bkk hb2 t1;have b2:=btt b1 hb2;clear ks q2 t1 b1 hb2;obtain⟨E,hE⟩:=nmm (elA (.mk 0 4 false dn []) (Sn));have hE1:E.all (·.oneCell')=true:=by rw[←hE];simp[elA,Value.oneCell']
 have hE2:E.size=5:=by rw[←hE];rfl
 rw[hE];have b3:=xo b2 (g:=w.heap.size) (ah _) E;have t3:=setRow_heap w2 w.heap.size _ E _ _ t2;obtain⟨HE,HE1,HE2⟩:=Ch hE hE1 hE2;clear hE hE1 hE2
 go_wp2_with (refine stE (.tmp 1) (.tmp 4) E t2 HE2.out HE1.out ?_)
 refine aH (v:=.agg E) ?_ rfl ⟨by rw[HE.out],b3⟩;have hr:=rlE t3 HE2.out
 simp[results,Tryz.f84]
 exact hr
theorem Cd(args:Array Value)(w:World):(callFunc 84 args).run Tryz.prog w=.ok (.enter 84 args) w:=by go_simp
def Fe(c:UInt8):Bool:=(decide (97≤c.toNat)&&decide (c.toNat≤122))||(decide (65≤c.toNat)&&decide (c.toNat≤90))
def eN(c:UInt8):Bool:=decide (48≤c.toNat)&&decide (c.toNat≤57)
def jz(c:UInt8):Bool:=Fe c||eN c||c==45||c==46
def mQ(n:List UInt8):Bool:=!n.isEmpty&&!(decide (1<n.length)&&n.getD 0 0==48)&&n.all eN
def sq(s:List UInt8):Bool:=(split s [46]).all mQ&&decide (1<(split s [46]).length)
def gr(s:List UInt8):Bool:=
 if s=[]∨64<s.length then false
 else if Fe (s.getD 0 0) then s.all (fun c=>jz c&&c !=46)
 else sq s
structure Fl where
 op:Int
 n:Int
 typ:List UInt8
 value:List UInt8
 init:List UInt8
 final:List UInt8
 any:List (List UInt8)
def bU(p:Fl):Bool:=
 if p.op=0∨p.op=1∨p.op=2 then decide (p.typ=[])&&decide (p.value=[])&&decide (p.init=[])&&decide (p.final=[])&&decide (p.any=[])&&decide (0≤p.n)&&(decide (p.op≠2)||decide (p.n=1))
 else if p.op=3∨p.op=5∨p.op=6∨p.op=8 then decide (p.n=0)&&decide (p.init=[])&&decide (p.final=[])&&decide (p.any=[])&&gr p.typ
 else if p.op=4 then !(decide (p.init=[])&&decide (p.final=[])&&decide (p.any=[]))&&!p.any.contains []&&decide (p.n=0)&&decide (p.value=[])&&gr p.typ
 else if p.op=7 then decide (p.n=0)&&decide (p.value=[])&&decide (p.init=[])&&decide (p.final=[])&&decide (p.any=[])&&gr p.typ
 else false
def fg(g:List Fl→Option (List Fl)):Nat→List Fl→Option (List Fl)
 |0,f=>some f
 |n+1,f=>match g f with
  |none=>none
  |some r=>fg g n r
def bG:Nat→List Fl→Option (List Fl)
 |0,_=>none
 |_+1,[]=>none
 |k+1,p::f=>if bU p then fg (bG k) p.n.toNat f else none
def dz(f:List Fl):Bool:=decide (f.length≤100)&&(match bG 20 f with|some []=>true|_=>false)
def cj(s:List UInt8):El:=.mk 0 4 false s []
def bL(p:Fl):List El:=
 (if p.init=[] then[] else[.mk 2 0 false p.init []])++p.any.map (fun s=>.mk 2 1 false s [])++(if p.final=[] then[] else[.mk 2 2 false p.final []])
def er(p:Fl):El:=
 if p.op=7 then .mk 2 7 false p.typ [] else if p.op=4 then .mk 2 4 true [] [cj p.typ,.mk 0 16 true [] (bL p)] else .mk 2 p.op true [] [cj p.typ,cj p.value]
def cT(g:List Fl→El×List Fl):Nat→List Fl→List El×List Fl
 |0,f=>([],f)
 |n+1,f=>((g f).1::(cT g n (g f).2).1,(cT g n (g f).2).2)
def cD:Nat→List Fl→El×List Fl
 |0,f=>(.mk 0 0 false [] [],f)
 |_+1,[]=>(.mk 0 0 false [] [],[])
 |k+1,p::f=>if p.op=0∨p.op=1∨p.op=2 then(.mk 2 p.op true [] (cT (cD k) p.n.toNat f).1,(cT (cD k) p.n.toNat f).2) else(er p,f)
theorem iQ{p:Fl}(h:bU p=true)(h2:¬(p.op=0∨p.op=1∨p.op=2)):p.n=0:=by
 unfold bU at h;rw[if_neg h2] at h
 by_cases h3:p.op=3∨p.op=5∨p.op=6∨p.op=8
 ·rw[if_pos h3] at h;simp only[aI,aT] at h;exact h.1.1.1.1
 ·rw[if_neg h3] at h
  by_cases h4:p.op=4
  ·rw[if_pos h4] at h;simp only[aI,aT] at h;exact h.1.1.2
  ·rw[if_neg h4] at h
   by_cases h5:p.op=7
   ·rw[if_pos h5] at h;simp only[aI,aT] at h;exact h.1.1.1.1.1
   ·rw[if_neg h5] at h;cases h
theorem mR{g:List Fl→Option (List Fl)}{e:List Fl→El×List Fl}(hg:∀f r,g f=some r→(e f).2=r):∀(n:Nat) (f r:List Fl),fg g n f=some r→(cT e n f).2=r
 |0,f,r,h=>by simp[fg] at h;simp[cT,h]
 |n+1,f,r,h=>by
  unfold fg at h;unfold cT;cases hf:g f with
  |none=>rw[hf] at h;cases h
  |some r'=>
   rw[hf] at h;rw[hg f r' hf];exact mR hg n r' r h
theorem mA:∀(k:Nat) (f r:List Fl),bG k f=some r→(cD k f).2=r
 |0,_,_,h=>by cases h
 |k+1,[],_,h=>by cases h
 |k+1,p::f,r,h=>by
  unfold bG at h;unfold cD
  by_cases h0:bU p=true
  ·rw[if_pos h0] at h
   by_cases h1:p.op=0∨p.op=1∨p.op=2
   ·rw[if_pos h1]
    exact mR (mA k) _ _ _ h
   ·rw[if_neg h1]
    rw[iQ h0 h1] at h
    simpa[fg] using h
  ·rw[if_neg h0] at h;cases h
theorem lL{g:List Fl→Option (List Fl)}(hg:∀f r,g f=some r→r<:+f):∀(n:Nat) (f r:List Fl),fg g n f=some r→r<:+f
 |0,f,r,h=>by simp[fg] at h;rw[h];exact List.suffix_refl _
 |n+1,f,r,h=>by
  unfold fg at h;cases hf:g f with
  |none=>rw[hf] at h;cases h
  |some r'=>
   rw[hf] at h;exact(lL hg n r' r h).trans (hg f r' hf)
theorem fR:∀(k:Nat) (f r:List Fl),bG k f=some r→r<:+f
 |0,_,_,h=>by cases h
 |k+1,[],_,h=>by cases h
 |k+1,p::f,r,h=>by
  unfold bG at h
  split at h
  ·exact(lL (fR k) _ _ _ h).trans (List.suffix_cons _ _)
  ·cases h
theorem Cv{g:List Fl→Option (List Fl)}(hg:∀f r,g f=some r→r.length<f.length):∀(n:Nat) (f r:List Fl),fg g n f=some r→n+r.length≤f.length
 |0,f,r,h=>by simp[fg] at h;simp[h]
 |n+1,f,r,h=>by
  unfold fg at h;cases hf:g f with
  |none=>rw[hf] at h;cases h
  |some r'=>
   rw[hf] at h;have h1:=hg f r' hf;have h2:=Cv hg n r' r h
   omega
theorem gt:∀(k:Nat) (f r:List Fl),bG k f=some r→r.length<f.length
 |0,_,_,h=>by cases h
 |k+1,[],_,h=>by cases h
 |k+1,p::f,r,h=>by
  unfold bG at h
  split at h
  ·have:=Cv (gt k) _ _ _ h
   simp only[aG]
   omega
  ·cases h
def Fl.ok(p:Fl):Prop:=p.typ.length≤100000000∧p.value.length≤100000000∧p.init.length≤100000000∧p.final.length≤100000000∧p.any.length≤100000000∧∀s∈p.any,s.length≤100000000
theorem wP:∀(a b:List El),SmL a→SmL b→SmL (a++b)
 |[],b,_,hb=>hb
 |e::r,b,ha,hb=>by simp only[SmL] at ha;simp only[List.cons_append,SmL];exact⟨ha.1,wP r b ha.2 hb⟩
theorem qX:∀l:List (List UInt8),(∀s∈l,s.length≤100000000)→SmL (l.map (fun s=>El.mk 2 1 false s []))
 |[],_=>by simp[SmL]
 |s::r,h=>by
  simp only[List.map_cons,SmL,SmE];exact⟨⟨by have:=h s (by simp);omega,by simp,trivial⟩,qX r (fun x hx=>h x (by simp[hx]))⟩
theorem jq(p:Fl)(h:p.ok):SmL (bL p):=by
 obtain⟨h1,h2,h3,h4,h5,h6⟩:=h;unfold bL;refine wP _ _ (wP _ _ ?_ (qX p.any h6)) ?_
 ·split
  ·trivial
  ·simp[SmL,SmE];omega
 ·split
  ·trivial
  ·simp[SmL,SmE];omega
theorem iR(p:Fl)(h:p.ok):(bL p).length≤1000000000:=by
 have h5:=h.2.2.2.2.1;unfold bL
 split<;>split<;>simp<;>omega
theorem tu(p:Fl)(h:p.ok):SmE (er p):=by
 have hp:=jq p h;have hl:=iR p h;obtain⟨h1,h2,h3,h4,h5,h6⟩:=h;unfold er
 split
 ·simp[SmE,SmL];omega
 ·split
  ·simp only[SmE,SmL,cj]
   simp
   exact⟨by omega,hl,hp⟩
  ·simp only[SmE,SmL,cj]
   simp
   omega
theorem yN{e:List Fl→El×List Fl}:∀(n:Nat) (f:List Fl),(cT e n f).1.length=n
 |0,f=>rfl
 |n+1,f=>by simp[cT,yN n]
theorem kT{g:List Fl→Option (List Fl)}{e:List Fl→El×List Fl}(hg:∀f r,g f=some r→(e f).2=r∧r<:+f)(he:∀f r,(∀p∈f,p.ok)→f.length≤100→g f=some r→SmE (e f).1):
  ∀(n:Nat) (f r:List Fl),(∀p∈f,p.ok)→f.length≤100→fg g n f=some r→SmL (cT e n f).1
 |0,f,r,_,_,_=>by simp[cT,SmL]
 |n+1,f,r,hk,hl,h=>by
  unfold fg at h;unfold cT;cases hf:g f with
  |none=>rw[hf] at h;cases h
  |some r'=>
   rw[hf] at h;obtain⟨h1,h2⟩:=hg f r' hf;simp only[SmL];rw[h1];exact⟨he f r' hk hl hf,kT hg he n r' r (fun p hp=>hk p (h2.subset hp)) (by have:=h2.length_le;omega) h⟩
theorem jr:∀(k:Nat) (f r:List Fl),(∀p∈f,p.ok)→f.length≤100→bG k f=some r→SmE (cD k f).1
 |0,_,_,_,_,h=>by cases h
 |k+1,[],_,_,_,h=>by cases h
 |k+1,p::f,r,hk,hl,h=>by
  have hlen:=gt (k+1) _ _ h;unfold bG at h;unfold cD
  by_cases h0:bU p=true
  ·rw[if_pos h0] at h
   by_cases h1:p.op=0∨p.op=1∨p.op=2
   ·rw[if_pos h1]
    have h2:=Cv (gt k) _ _ _ h;simp only[aG] at hl;have hs:=kT (fun f r hf=>⟨mA k f r hf,fR k f r hf⟩) (jr k) p.n.toNat f r (fun q hq=>hk q (by simp[hq])) (by omega) h;simp only[SmE,yN];exact⟨by simp,by omega,hs⟩
   ·rw[if_neg h1]
    exact tu p (hk p (by simp))
  ·rw[if_neg h0] at h;cases h
def bJ(B:Nat)(w:World)(v:Value)(l:List El):Prop:=
 ∃us:List Value,us.length=l.length∧w.ownsRow B 40 5 v l.length (cx l us)∧
  ∀(j:Nat) (e:El) (u:Value),l[j]?=some e→us[j]?=some u→bf (fun g=>v.ownBlock≠some g) w u e.kids
theorem bJ.nil(B:Nat)(w:World):bJ B w (Sn) []:=⟨[],rfl,⟨rfl,.inl ⟨rfl,rfl⟩⟩,fun j e u h=>by simp at h⟩
theorem bJ.shape{B:Nat}{w:World}{v:Value}{l:List El}(h:bJ B w v l):∃a c,v=.slice a l.length c:=by
 obtain⟨us,_,ho,_⟩:=h;exact gf ho
theorem bJ.kids{B:Nat}{w:World}{v:Value}{l:List El}(h:bJ B w v l):bf (fun _=>True) w v l:=by
 obtain⟨us,hu,ho,hk⟩:=h;exact jI ho hu (fun j e u q1 q2=>(hk j e u q1 q2).mono fun _ _ _=>trivial) (fun _ _=>trivial)
theorem bJ.lt{B:Nat}{w:World}{v:Value}{l:List El}(h:bJ B w v l){g:Nat}(hg:v.ownBlock=some g):B≤g∧g<w.heap.size:=by
 obtain⟨us,_,ho,_⟩:=h;exact ho.lt g hg
theorem bJ.keep{B:Nat}{w w':World}{v:Value}{l:List El}(h:bJ B w v l)(hk:∀j,j<w.heap.size→w'.heap[j]?=w.heap[j]?):bJ B w' v l:=by
 obtain⟨us,hu,ho,hkk⟩:=h;refine⟨us,hu,⟨ho.1,?_⟩,fun j e u q1 q2=>(hkk j e u q1 q2).kept fun g hg hl=>⟨hk g hl,hg⟩⟩;rcases ho.2 with h0|⟨g,cap,cur,hv,hb,hg,rest⟩
 ·exact .inl h0
 ·exact .inr ⟨g,cap,cur,hv,hb,(hk g (gl hg)).trans hg,rest⟩
theorem bJ.below{B:Nat}{w w':World}{v:Value}{l:List El}(h:bJ B w v l)(hb:Bw w w'):bJ B w' v l:=h.keep fun j hj=>hb.block j hj
theorem bJ.mono{B B':Nat}{w:World}{v:Value}{l:List El}(h:bJ B w v l)(hB:B'≤B):bJ B' w v l:=by
 obtain⟨us,hu,ho,hkk⟩:=h;exact⟨us,hu,Cb ho hB,hkk⟩
theorem bJ.flat{B g:Nat}{w:World}{l:List El}{us:List Value}{cs:Array Value}(hb:Hc w g cs 40)(hcs:cs.toList=cx l us)(hl:us.length=l.length)(hB:B≤g)(hn:l.length≤1000000000)
  (hk:∀(j:Nat) (e:El) (u:Value),l[j]?=some e→us[j]?=some u→bf (fun g'=>g'≠g) w u e.kids):bJ B w (.slice (some ⟨g,0,none⟩) l.length l.length) l:=by
 have hfl:=iY l us hl;refine⟨us,hl,⟨by rw[hfl],.inr ⟨g,l.length,cs,rfl,hB,hb,ah _,by unfold maxLen;omega,by rw[←Array.length_toList,hcs,hfl],by rw[hcs,←hfl,List.take_length]⟩⟩,fun j e u q1 q2=>(hk j e u q1 q2).mono fun g' hg' _ h=>hg' ?_⟩;have:g=g':=by simpa[Value.ownBlock] using h
 exact this.symm
theorem sr{B H g cap:Nat}{w w':World}{v:Value}{l us:List Value}{ls:List El}{e:El}{u:Value}(hl:l=cx ls us)(hu:us.length=ls.length)(_:w.ownsRow B 40 5 v ls.length l)
  (hk:∀(j:Nat) (e:El) (u:Value),ls[j]?=some e→us[j]?=some u→bf (fun g=>v.ownBlock≠some g) w u e.kids) (hke:bf (fun g=>v.ownBlock≠some g) w u e.kids)
  (ho:w'.ownsRow B 40 5 (.slice (some ⟨g,0,none⟩) (ls.length+1) cap) (ls.length+1) (l++[.int .i64 e.cls,.int .i64 e.tag,.bool e.cons,.string ⟨e.bytes.toArray⟩,u]))
  (hg:w.grownBy w' v.ownBlock) (hat:v.ownBlock=some g∨g=H) (hH:w.heap.size=H):bJ B w' (.slice (some ⟨g,0,none⟩) (ls.length+1) cap) (ls++[e]):=by
 have hkeep:∀(u:Value) (ks:List El),bf (fun g=>v.ownBlock≠some g) w u ks→bf (fun g'=>(.slice (some ⟨g,0,none⟩) (ls.length+1) cap:Value).ownBlock≠some g') w' u ks:=by
  intro u ks q;refine q.kept fun g' hg' hl'=>⟨hg.block g' hl' (fun h=>hg' h.symm),fun h=>?_⟩
  have hgg:g=g':=by simpa[Value.ownBlock] using h
  rcases hat with h1|h1
  ·exact hg' (hgg▸h1)
  ·omega
 have hlen:(ls++[e]).length=ls.length+1:=by simp
 refine⟨us++[u],by simp[hu],?_,fun j x y q1 q2=>?_⟩
 ·rw[EM _ _ _ _ hu,←hl,hlen]
  exact ho
 ·by_cases hj:j<ls.length
  ·rw[List.getElem?_append_left hj] at q1
   rw[List.getElem?_append_left (by omega)] at q2;exact hkeep _ _ (hk j x y q1 q2)
  ·have hj':j=ls.length:=by
    have:=(List.getElem?_eq_some_iff.1 q1).1
    simp at this
    omega
   subst hj';rw[List.getElem?_append_right (ah _)] at q1;rw[List.getElem?_append_right (by omega)] at q2
   simp[hu] at q1 q2
   subst q1;subst q2;exact hkeep _ _ hke
theorem jt{w:World}{o:Oper}{a:Act}{K:Act→World→Prop}{Q:Exit→Act→World→Prop}(s x:Operand)(ho:o.op=.call {callee:=.builtin .append,args:=#[s,x],argTypes:=#[38,38]})
  (B:Nat) (v:Value) (ls:List El) (hs:a.eval s=v) (hown:bJ B w v ls) (e:El) (au:Option Addr) (n cu b:Nat) (hx:a.eval x=.slice (some ⟨b,0,none⟩) 1 1) (hb:Hc w b (elA e (.slice au n cu)) 40)
  (hke:bf (fun g=>v.ownBlock≠some g) w (.slice au n cu) e.kids) (hl:ls.length≤1000000000) (hB:B≤w.heap.size)
  (h:∀a' c' w',bJ B w' (.slice a' (ls.length+1) c') (ls++[e])→w.grownBy w' v.ownBlock→K (a.put o.dst (.slice a' (ls.length+1) c')) w'):Oper.wp Tryz.prog o a w K Q:=by
 obtain⟨i0,hi0,hz0,hz1,hz2⟩:=info_parts Tryz.infoElement;obtain⟨us,hu,hown',hk⟩:=hown;refine wp_append_lies w s x 38 ho B 40 i0 _ 5 64 Tryz.underlying38 hi0 hz0 hz1 hz2 rfl (by decide) v ls.length (cx ls us) hs hown' ⟨b,0,none⟩ 1 1 [.int .i64 e.cls,.int .i64 e.tag,.bool e.cons,.string ⟨e.bytes.toArray⟩,.slice au n cu] hx rfl (World.news_of_block hb) (by simp[Value.oneCell']) (by decide) (by unfold maxLen;omega) (by omega) hB _ rfl ?_;intro g cap w' q1 q2 q3 _;exact h _ _ _ (sr rfl hu hown' hk hke q1 q2 q3 rfl) q2
theorem bO{w:World}{ops:Array Oper}{rest:List Oper}{o:Oper}{a:Act}{Q:Exit→Act→World→Prop}(hgd:o.guard=none)(s x:Operand)(ho:o.op=.call {callee:=.builtin .append,args:=#[s,x],argTypes:=#[38,38]})
  (B:Nat) (v:Value) (ls:List El) (hs:a.eval s=v) (hown:bJ B w v ls) (e:El) (au:Option Addr) (n cu b:Nat) (hx:a.eval x=.slice (some ⟨b,0,none⟩) 1 1) (hb:Hc w b (elA e (.slice au n cu)) 40)
  (hke:bf (fun g=>v.ownBlock≠some g) w (.slice au n cu) e.kids) (hl:ls.length≤1000000000) (hB:B≤w.heap.size)
  (h:∀a' c' w',bJ B w' (.slice a' (ls.length+1) c') (ls++[e])→w.grownBy w' v.ownBlock→wpList Tryz.prog ops Q rest (a.put o.dst (.slice a' (ls.length+1) c')) w'):wpList Tryz.prog ops Q (o::rest) a w:=
 aB hgd fun _ hK=>jt s x ho B v ls hs hown e au n cu b hx hb hke hl hB fun a' c' w' h1 h2=>hK _ _ (h a' c' w' h1 h2)
theorem vF(v:Nat)(hv:v<256)(w:World):
  Cr 91 #[.int .i64 (v:Int),.int .i64 1] w (.tuple #[.string ⟨#[UInt8.ofNat v]⟩,I0]):=by
 obtain⟨i0,hi0,hz0,hz1,hz2⟩:=info_parts Tryz.infoByte;have g0:decide ((v:Int)<0)=false:=an (by omega);have g0':(v:Int)/256=0:=by omega
 have g1:((v:Int)/256 !=0)=false:=by rw[g0'];rfl
 clear g0' hv;have g2:(v:Int)>>>(8:Nat)=(v:Int)/256:=by rw[Int.shiftRight_eq_div_pow];rfl
 go_enter Tryz.func91,Tryz.ntmps91
 go_wp2_with (refine wpList_make_full _ rfl (.tmp 25) (.tmp 25) 58 rfl w.heap.size 5 i0 (.int .u8 0) 1 Tryz.underlying58 hi0 hz0 hz1 .i64 .i64 1 1 1 rfl rfl rfl rfl (by rw[hz2];omega) (by unfold maxLen;omega) (ah _) ?_;intro w2 ho2 hg2)
 have hmc:(madeCells (Value.int .u8 0).cells (1*1)).toList=[.int .u8 0]:=by kernel_rfl
 rw[hmc] at ho2;clear hmc;have hb2:Bw w w2:=(aA w.heap.size w).grown hg2 (ah _) (fun b hb=>by cases hb);obtain⟨c0,z0⟩:=cJ (i:=0) (x:=.int .u8 0) ho2 rfl;have ho3:=dH (i:=0) (x:=.int .u8 ((v:Int)% 256)) ho2 (by simp);have hcv:=eI (P:=Tryz.prog) _ 58 9 5 w.heap.size _ [UInt8.ofNat v] Tryz.underlying58 Tryz.underlying5 Tryz.underlying9 (by rw[show bV [UInt8.ofNat v]=[.int .u8 ((v:Int)% 256)] by simp[bV,UInt8.toNat_ofNat']];exact ho3);clear ho2 ho3 hg2 hi0 hz0 hz1 hz2;refine wp_loop_rounds 2 ?_;rw[rounds_succ]
 go_wp2_with fail
 rw[rounds_succ]
 go_wp2_with fail
 refine aH (v:=.tuple #[.string ⟨#[UInt8.ofNat v]⟩,I0]) ?_ rfl ⟨rfl,(hb2.setCell (p:=⟨w.heap.size,0,none⟩) (ah _) _)⟩
 simp[results,Tryz.f91]
theorem vG(v:Nat)(hv:v<65536)(w:World):
  Cr 91 #[.int .i64 (v:Int),.int .i64 2] w (.tuple #[.string ⟨#[UInt8.ofNat (v/256),UInt8.ofNat v]⟩,I0]):=by
 obtain⟨i0,hi0,hz0,hz1,hz2⟩:=info_parts Tryz.infoByte;have g0:decide ((v:Int)<0)=false:=an (by omega);have g0':(v:Int)/65536=0:=by omega
 have g1:((v:Int)/65536 !=0)=false:=by rw[g0'];rfl
 clear g0' hv;have g2:(v:Int)>>>(16:Nat)=(v:Int)/65536:=by rw[Int.shiftRight_eq_div_pow];rfl
 go_enter Tryz.func91,Tryz.ntmps91
 go_wp2_with (refine wpList_make_full _ rfl (.tmp 25) (.tmp 25) 58 rfl w.heap.size 5 i0 (.int .u8 0) 1 Tryz.underlying58 hi0 hz0 hz1 .i64 .i64 2 2 2 rfl rfl rfl rfl (by rw[hz2];omega) (by unfold maxLen;omega) (ah _) ?_;intro w2 ho2 hg2)
 have hmc:(madeCells (Value.int .u8 0).cells (2*1)).toList=[.int .u8 0,.int .u8 0]:=by kernel_rfl
 rw[hmc] at ho2;clear hmc;have hb2:Bw w w2:=(aA w.heap.size w).grown hg2 (ah _) (fun b hb=>by cases hb);obtain⟨c0,z0⟩:=cJ (i:=1) (x:=.int .u8 0) ho2 rfl;have ho3:=dH (i:=1) (x:=.int .u8 ((v:Int)% 256)) ho2 (by simp);obtain⟨c1,z1⟩:=cJ (i:=0) (x:=.int .u8 0) ho3 rfl;have ho4:=dH (i:=0) (x:=.int .u8 ((v:Int)/256% 256)) ho3 (by simp);have hcv:=eI (P:=Tryz.prog) _ 58 9 5 w.heap.size _ [UInt8.ofNat (v/256),UInt8.ofNat v] Tryz.underlying58 Tryz.underlying5 Tryz.underlying9 (by rw[show bV [UInt8.ofNat (v/256),UInt8.ofNat v]=[.int .u8 ((v:Int)/256% 256),.int .u8 ((v:Int)% 256)] by simp[bV,UInt8.toNat_ofNat']];exact ho4);clear ho2 ho3 ho4 hg2 hi0 hz0 hz1 hz2;refine wp_loop_rounds 3 ?_;rw[rounds_succ]
 go_wp2_with fail
 rw[rounds_succ]
 go_wp2_with fail
 rw[rounds_succ]
 go_wp2_with fail
 refine aH (v:=.tuple #[.string ⟨#[UInt8.ofNat (v/256),UInt8.ofNat v]⟩,I0]) ?_ rfl ⟨rfl,((hb2.setCell (p:=⟨w.heap.size,1,none⟩) (ah _) _).setCell (p:=⟨w.heap.size,0,none⟩) (ah _) _)⟩
 simp[results,Tryz.f91]
theorem vH(v:Nat)(hv:v<16777216)(w:World):
  Cr 91 #[.int .i64 (v:Int),.int .i64 3] w (.tuple #[.string ⟨#[UInt8.ofNat (v/65536),UInt8.ofNat (v/256),UInt8.ofNat v]⟩,I0]):=by
 obtain⟨i0,hi0,hz0,hz1,hz2⟩:=info_parts Tryz.infoByte;have g0:decide ((v:Int)<0)=false:=an (by omega);have g0':(v:Int)/16777216=0:=by omega
 have g1:((v:Int)/16777216 !=0)=false:=by rw[g0'];rfl
 clear g0' hv;have g2:(v:Int)>>>(24:Nat)=(v:Int)/16777216:=by rw[Int.shiftRight_eq_div_pow];rfl
 go_enter Tryz.func91,Tryz.ntmps91
 go_wp2_with (refine wpList_make_full _ rfl (.tmp 25) (.tmp 25) 58 rfl w.heap.size 5 i0 (.int .u8 0) 1 Tryz.underlying58 hi0 hz0 hz1 .i64 .i64 3 3 3 rfl rfl rfl rfl (by rw[hz2];omega) (by unfold maxLen;omega) (ah _) ?_;intro w2 ho2 hg2)
 have hmc:(madeCells (Value.int .u8 0).cells (3*1)).toList=[.int .u8 0,.int .u8 0,.int .u8 0]:=by kernel_rfl
 rw[hmc] at ho2;clear hmc;have hb2:Bw w w2:=(aA w.heap.size w).grown hg2 (ah _) (fun b hb=>by cases hb);obtain⟨c0,z0⟩:=cJ (i:=2) (x:=.int .u8 0) ho2 rfl;have ho3:=dH (i:=2) (x:=.int .u8 ((v:Int)% 256)) ho2 (by simp);obtain⟨c1,z1⟩:=cJ (i:=1) (x:=.int .u8 0) ho3 rfl;have ho4:=dH (i:=1) (x:=.int .u8 ((v:Int)/256% 256)) ho3 (by simp);obtain⟨c2,z2⟩:=cJ (i:=0) (x:=.int .u8 0) ho4 rfl;have ho5:=dH (i:=0) (x:=.int .u8 ((v:Int)/65536% 256)) ho4 (by simp);have hcv:=eI (P:=Tryz.prog) _ 58 9 5 w.heap.size _ [UInt8.ofNat (v/65536),UInt8.ofNat (v/256),UInt8.ofNat v] Tryz.underlying58 Tryz.underlying5 Tryz.underlying9 (by rw[show bV [UInt8.ofNat (v/65536),UInt8.ofNat (v/256),UInt8.ofNat v]=[.int .u8 ((v:Int)/65536% 256),.int .u8 ((v:Int)/256% 256),.int .u8 ((v:Int)% 256)] by simp[bV,UInt8.toNat_ofNat']];exact ho5);clear ho2 ho3 ho4 ho5 hg2 hi0 hz0 hz1 hz2;refine wp_loop_rounds 4 ?_;rw[rounds_succ]
 go_wp2_with fail
 rw[rounds_succ]
 go_wp2_with fail
 rw[rounds_succ]
 go_wp2_with fail
 rw[rounds_succ]
 go_wp2_with fail
 refine aH (v:=.tuple #[.string ⟨#[UInt8.ofNat (v/65536),UInt8.ofNat (v/256),UInt8.ofNat v]⟩,I0]) ?_ rfl ⟨rfl,(((hb2.setCell (p:=⟨w.heap.size,2,none⟩) (ah _) _).setCell (p:=⟨w.heap.size,1,none⟩) (ah _) _).setCell (p:=⟨w.heap.size,0,none⟩) (ah _) _)⟩
 simp[results,Tryz.f91]
theorem Bh(n:Nat)(h1:128≤n)(h2:n<256)(w:World):Cr 53 #[.int .i64 (n:Int)] w (.string ⟨(cV n).toArray⟩):=by
 have hl:(⟨(cV n).toArray⟩:ByteArray)=⟨#[129]⟩++⟨#[UInt8.ofNat n]⟩:=by
  unfold cV;rw[if_neg (by omega)];rw[if_pos (by omega)]
  rfl
 rw[hl];have g1:decide ((n:Int)<128)=false:=an (by omega);have t1':(n:Int)/256=0:=by omega
 have t1:((n:Int)/256 !=0)=false:=by rw[t1'];rfl
 clear t1';have kp:=vF n h2 w;clear hl h1 h2
 go_enter Tryz.func53,Tryz.ntmps53
 go_wp2_with fail
 refine wp_loop_rounds 1 ?_;rw[rounds_succ]
 go_wp2_with fail
 refine ag kp ?_;rintro e w2 ⟨rfl,b2⟩;clear kp;have hcv:(convert 58 9 (.slice (some ⟨w2.heap.size,0,none⟩) 1 1)).run Tryz.prog (w2.alloc (.cells #[.int .u8 129] 5))=.ok (.string ⟨#[129]⟩) (w2.alloc (.cells #[.int .u8 129] 5)):=
  eU _ _ _ 5 _ 1 [129] Tryz.underlying58 Tryz.underlying5 Tryz.underlying9 (by rw[show bV [129]=[.int .u8 129] by rfl];exact World.news_of_block (fb _ _ _ rfl))
 have b3:Bw w (w2.alloc (.cells #[.int .u8 129] 5)):=b2.alloc b2.size _
 go_wp2_with fail
 go_ret
 exact⟨rfl,b3⟩
theorem Bi(n:Nat)(h1:256≤n)(h2:n<65536)(w:World):Cr 53 #[.int .i64 (n:Int)] w (.string ⟨(cV n).toArray⟩):=by
 have hl:(⟨(cV n).toArray⟩:ByteArray)=⟨#[130]⟩++⟨#[UInt8.ofNat (n/256),UInt8.ofNat n]⟩:=by
  unfold cV;rw[if_neg (by omega)];rw[if_neg (by omega)];rw[if_pos (by omega)]
  rfl
 rw[hl];have g1:decide ((n:Int)<128)=false:=an (by omega);have t1':¬(n:Int)/256=0:=by omega
 have t1:((n:Int)/256 !=0)=true:=by simpa using t1'
 have t2':(n:Int)/65536=0:=by omega
 have t2:((n:Int)/65536 !=0)=false:=by rw[t2'];rfl
 clear t1' t2';have kp:=vG n h2 w;clear hl h1 h2
 go_enter Tryz.func53,Tryz.ntmps53
 go_wp2_with fail
 refine wp_loop_rounds 2 ?_;rw[rounds_succ]
 go_wp2_with fail
 rw[rounds_succ]
 go_wp2_with fail
 refine ag kp ?_;rintro e w2 ⟨rfl,b2⟩;clear kp;have hcv:(convert 58 9 (.slice (some ⟨w2.heap.size,0,none⟩) 1 1)).run Tryz.prog (w2.alloc (.cells #[.int .u8 130] 5))=.ok (.string ⟨#[130]⟩) (w2.alloc (.cells #[.int .u8 130] 5)):=
  eU _ _ _ 5 _ 1 [130] Tryz.underlying58 Tryz.underlying5 Tryz.underlying9 (by rw[show bV [130]=[.int .u8 130] by rfl];exact World.news_of_block (fb _ _ _ rfl))
 have b3:Bw w (w2.alloc (.cells #[.int .u8 130] 5)):=b2.alloc b2.size _
 go_wp2_with fail
 go_ret
 exact⟨rfl,b3⟩
theorem sv(n:Nat)(h1:65536≤n)(h2:n<16777216)(w:World):Cr 53 #[.int .i64 (n:Int)] w (.string ⟨(cV n).toArray⟩):=by
 have hl:(⟨(cV n).toArray⟩:ByteArray)=⟨#[131]⟩++⟨#[UInt8.ofNat (n/65536),UInt8.ofNat (n/256),UInt8.ofNat n]⟩:=by
  unfold cV;rw[if_neg (by omega)];rw[if_neg (by omega)];rw[if_neg (by omega)]
  rfl
 rw[hl];have g1:decide ((n:Int)<128)=false:=an (by omega);have t1':¬(n:Int)/256=0:=by omega
 have t1:((n:Int)/256 !=0)=true:=by simpa using t1'
 have t2':¬(n:Int)/65536=0:=by omega
 have t2:((n:Int)/65536 !=0)=true:=by simpa using t2'
 have t3':(n:Int)/16777216=0:=by omega
 have t3:((n:Int)/16777216 !=0)=false:=by rw[t3'];rfl
 clear t1' t2' t3';have kp:=vH n h2 w;clear hl h1 h2
 go_enter Tryz.func53,Tryz.ntmps53
 go_wp2_with fail
 refine wp_loop_rounds 3 ?_;rw[rounds_succ]
 go_wp2_with fail
 rw[rounds_succ]
 go_wp2_with fail
 rw[rounds_succ]
 go_wp2_with fail
 refine ag kp ?_;rintro e w2 ⟨rfl,b2⟩;clear kp;have hcv:(convert 58 9 (.slice (some ⟨w2.heap.size,0,none⟩) 1 1)).run Tryz.prog (w2.alloc (.cells #[.int .u8 131] 5))=.ok (.string ⟨#[131]⟩) (w2.alloc (.cells #[.int .u8 131] 5)):=
  eU _ _ _ 5 _ 1 [131] Tryz.underlying58 Tryz.underlying5 Tryz.underlying9 (by rw[show bV [131]=[.int .u8 131] by rfl];exact World.news_of_block (fb _ _ _ rfl))
 have b3:Bw w (w2.alloc (.cells #[.int .u8 131] 5)):=b2.alloc b2.size _
 go_wp2_with fail
 go_ret
 exact⟨rfl,b3⟩
theorem pC:jw 65537:=by
 intro n hn w
 by_cases h1:n<128
 ·exact Ef n (by omega) w
 ·by_cases h2:n<256
  ·exact Bh n (by omega) h2 w
  ·by_cases h3:n<65536
   ·exact Bi n (by omega) h3 w
   ·exact sv n (by omega) (by omega) w
def sgB(v:Nat):List UInt8:=
 if v<128 then[UInt8.ofNat v] else if v<32768 then[UInt8.ofNat (v/256),UInt8.ofNat v] else if v<8388608 then[UInt8.ofNat (v/65536),UInt8.ofNat (v/256),UInt8.ofNat v] else[UInt8.ofNat (v/16777216),UInt8.ofNat (v/65536),UInt8.ofNat (v/256),UInt8.ofNat v]
theorem nT(v:Nat)(hlo:128≤v)(hv:v<32768)(w:World):
  Cr 34 #[.int .i64 (v:Int)] w (.string ⟨#[UInt8.ofNat (v/256),UInt8.ofNat v]⟩):=by
 obtain⟨i0,hi0,hz0,hz1,hz2⟩:=info_parts Tryz.infoByte;have u0:(v:Int)% 18446744073709551616=(v:Int):=by omega
 have n1:((v:Int) !=wrap64 ((v:Int)*72057594037927936)/72057594037927936)=true:=by
  unfold wrap64;simp only[bne_iff_ne,ne_eq];omega
 have n2:((v:Int) !=wrap64 ((v:Int)*281474976710656)/281474976710656)=false:=by
  unfold wrap64;simp only[bne_eq_false_iff_eq];omega
 go_enter Tryz.func34,Tryz.ntmps34
 go_wp2_with fail
 refine wp_loop_rounds 2 ?_;rw[rounds_succ]
 go_wp2_with (refine wpList_make_full _ rfl (.tmp 23) (.tmp 23) 58 rfl w.heap.size 5 i0 (.int .u8 0) 1 Tryz.underlying58 hi0 hz0 hz1 .i64 .i64 2 2 2 rfl rfl rfl rfl (by rw[hz2];omega) (by unfold maxLen;omega) (ah _) ?_;intro w2 ho2 hg2)
 rw[rounds_succ]
 go_wp2_with (refine wpList_make_full _ rfl (.tmp 23) (.tmp 23) 58 rfl w.heap.size 5 i0 (.int .u8 0) 1 Tryz.underlying58 hi0 hz0 hz1 .i64 .i64 2 2 2 rfl rfl rfl rfl (by rw[hz2];omega) (by unfold maxLen;omega) (ah _) ?_;intro w2 ho2 hg2)
 clear hlo hv;have hmc:(madeCells (Value.int .u8 0).cells (2*1)).toList=[.int .u8 0,.int .u8 0]:=by kernel_rfl
 rw[hmc] at ho2;clear hmc;have hb2:Bw w w2:=(aA w.heap.size w).grown hg2 (ah _) (fun b hb=>by cases hb);obtain⟨c0,z0⟩:=cJ (i:=1) (x:=.int .u8 0) ho2 rfl;have ho3:=dH (i:=1) (x:=.int .u8 ((v:Int)% 256)) ho2 (by simp);obtain⟨c1,z1⟩:=cJ (i:=0) (x:=.int .u8 0) ho3 rfl;have ho4:=dH (i:=0) (x:=.int .u8 ((v:Int)/256% 256)) ho3 (by simp);have hcv:=eI (P:=Tryz.prog) _ 58 9 5 w.heap.size _ [UInt8.ofNat (v/256),UInt8.ofNat v] Tryz.underlying58 Tryz.underlying5 Tryz.underlying9 (by rw[show bV [UInt8.ofNat (v/256),UInt8.ofNat v]=[.int .u8 ((v:Int)/256% 256),.int .u8 ((v:Int)% 256)] by simp[bV,UInt8.toNat_ofNat']];exact ho4);clear ho2 ho3 ho4 hg2 hi0 hz0 hz1 hz2;refine wp_loop_rounds 3 ?_;rw[rounds_succ]
 go_wp2_with fail
 rw[rounds_succ]
 go_wp2_with fail
 rw[rounds_succ]
 go_wp2_with fail
 go_ret
 exact⟨rfl,((hb2.setCell (p:=⟨w.heap.size,1,none⟩) (ah _) _).setCell (p:=⟨w.heap.size,0,none⟩) (ah _) _)⟩
theorem nU(v:Nat)(hlo:32768≤v)(hv:v<8388608)(w:World):
  Cr 34 #[.int .i64 (v:Int)] w (.string ⟨#[UInt8.ofNat (v/65536),UInt8.ofNat (v/256),UInt8.ofNat v]⟩):=by
 obtain⟨i0,hi0,hz0,hz1,hz2⟩:=info_parts Tryz.infoByte;have u0:(v:Int)% 18446744073709551616=(v:Int):=by omega
 have n1:((v:Int) !=wrap64 ((v:Int)*72057594037927936)/72057594037927936)=true:=by
  unfold wrap64;simp only[bne_iff_ne,ne_eq];omega
 have n2:((v:Int) !=wrap64 ((v:Int)*281474976710656)/281474976710656)=true:=by
  unfold wrap64;simp only[bne_iff_ne,ne_eq];omega
 have n3:((v:Int) !=wrap64 ((v:Int)*1099511627776)/1099511627776)=false:=by
  unfold wrap64;simp only[bne_eq_false_iff_eq];omega
 go_enter Tryz.func34,Tryz.ntmps34
 go_wp2_with fail
 refine wp_loop_rounds 3 ?_;rw[rounds_succ]
 go_wp2_with (refine wpList_make_full _ rfl (.tmp 23) (.tmp 23) 58 rfl w.heap.size 5 i0 (.int .u8 0) 1 Tryz.underlying58 hi0 hz0 hz1 .i64 .i64 3 3 3 rfl rfl rfl rfl (by rw[hz2];omega) (by unfold maxLen;omega) (ah _) ?_;intro w2 ho2 hg2)
 rw[rounds_succ]
 go_wp2_with (refine wpList_make_full _ rfl (.tmp 23) (.tmp 23) 58 rfl w.heap.size 5 i0 (.int .u8 0) 1 Tryz.underlying58 hi0 hz0 hz1 .i64 .i64 3 3 3 rfl rfl rfl rfl (by rw[hz2];omega) (by unfold maxLen;omega) (ah _) ?_;intro w2 ho2 hg2)
 rw[rounds_succ]
 go_wp2_with (refine wpList_make_full _ rfl (.tmp 23) (.tmp 23) 58 rfl w.heap.size 5 i0 (.int .u8 0) 1 Tryz.underlying58 hi0 hz0 hz1 .i64 .i64 3 3 3 rfl rfl rfl rfl (by rw[hz2];omega) (by unfold maxLen;omega) (ah _) ?_;intro w2 ho2 hg2)
 clear hlo hv;have hmc:(madeCells (Value.int .u8 0).cells (3*1)).toList=[.int .u8 0,.int .u8 0,.int .u8 0]:=by kernel_rfl
 rw[hmc] at ho2;clear hmc;have hb2:Bw w w2:=(aA w.heap.size w).grown hg2 (ah _) (fun b hb=>by cases hb);obtain⟨c0,z0⟩:=cJ (i:=2) (x:=.int .u8 0) ho2 rfl;have ho3:=dH (i:=2) (x:=.int .u8 ((v:Int)% 256)) ho2 (by simp);obtain⟨c1,z1⟩:=cJ (i:=1) (x:=.int .u8 0) ho3 rfl;have ho4:=dH (i:=1) (x:=.int .u8 ((v:Int)/256% 256)) ho3 (by simp);obtain⟨c2,z2⟩:=cJ (i:=0) (x:=.int .u8 0) ho4 rfl;have ho5:=dH (i:=0) (x:=.int .u8 ((v:Int)/65536% 256)) ho4 (by simp);have hcv:=eI (P:=Tryz.prog) _ 58 9 5 w.heap.size _ [UInt8.ofNat (v/65536),UInt8.ofNat (v/256),UInt8.ofNat v] Tryz.underlying58 Tryz.underlying5 Tryz.underlying9 (by rw[show bV [UInt8.ofNat (v/65536),UInt8.ofNat (v/256),UInt8.ofNat v]=[.int .u8 ((v:Int)/65536% 256),.int .u8 ((v:Int)/256% 256),.int .u8 ((v:Int)% 256)] by simp[bV,UInt8.toNat_ofNat']];exact ho5);clear ho2 ho3 ho4 ho5 hg2 hi0 hz0 hz1 hz2;refine wp_loop_rounds 4 ?_;rw[rounds_succ]
 go_wp2_with fail
 rw[rounds_succ]
 go_wp2_with fail
 rw[rounds_succ]
 go_wp2_with fail
 rw[rounds_succ]
 go_wp2_with fail
 go_ret
 exact⟨rfl,(((hb2.setCell (p:=⟨w.heap.size,2,none⟩) (ah _) _).setCell (p:=⟨w.heap.size,1,none⟩) (ah _) _).setCell (p:=⟨w.heap.size,0,none⟩) (ah _) _)⟩
theorem nV(v:Nat)(hlo:8388608≤v)(hv:v<2147483648)(w:World):
  Cr 34 #[.int .i64 (v:Int)] w (.string ⟨#[UInt8.ofNat (v/16777216),UInt8.ofNat (v/65536),UInt8.ofNat (v/256),UInt8.ofNat v]⟩):=by
 obtain⟨i0,hi0,hz0,hz1,hz2⟩:=info_parts Tryz.infoByte;have u0:(v:Int)% 18446744073709551616=(v:Int):=by omega
 have n1:((v:Int) !=wrap64 ((v:Int)*72057594037927936)/72057594037927936)=true:=by
  unfold wrap64;simp only[bne_iff_ne,ne_eq];omega
 have n2:((v:Int) !=wrap64 ((v:Int)*281474976710656)/281474976710656)=true:=by
  unfold wrap64;simp only[bne_iff_ne,ne_eq];omega
 have n3:((v:Int) !=wrap64 ((v:Int)*1099511627776)/1099511627776)=true:=by
  unfold wrap64;simp only[bne_iff_ne,ne_eq];omega
 have n4:((v:Int) !=wrap64 ((v:Int)*4294967296)/4294967296)=false:=by
  unfold wrap64;simp only[bne_eq_false_iff_eq];omega
 go_enter Tryz.func34,Tryz.ntmps34
 go_wp2_with fail
 refine wp_loop_rounds 4 ?_;rw[rounds_succ]
 go_wp2_with (refine wpList_make_full _ rfl (.tmp 23) (.tmp 23) 58 rfl w.heap.size 5 i0 (.int .u8 0) 1 Tryz.underlying58 hi0 hz0 hz1 .i64 .i64 4 4 4 rfl rfl rfl rfl (by rw[hz2];omega) (by unfold maxLen;omega) (ah _) ?_;intro w2 ho2 hg2)
 rw[rounds_succ]
 go_wp2_with (refine wpList_make_full _ rfl (.tmp 23) (.tmp 23) 58 rfl w.heap.size 5 i0 (.int .u8 0) 1 Tryz.underlying58 hi0 hz0 hz1 .i64 .i64 4 4 4 rfl rfl rfl rfl (by rw[hz2];omega) (by unfold maxLen;omega) (ah _) ?_;intro w2 ho2 hg2)
 rw[rounds_succ]
 go_wp2_with (refine wpList_make_full _ rfl (.tmp 23) (.tmp 23) 58 rfl w.heap.size 5 i0 (.int .u8 0) 1 Tryz.underlying58 hi0 hz0 hz1 .i64 .i64 4 4 4 rfl rfl rfl rfl (by rw[hz2];omega) (by unfold maxLen;omega) (ah _) ?_;intro w2 ho2 hg2)
 rw[rounds_succ]
 go_wp2_with (refine wpList_make_full _ rfl (.tmp 23) (.tmp 23) 58 rfl w.heap.size 5 i0 (.int .u8 0) 1 Tryz.underlying58 hi0 hz0 hz1 .i64 .i64 4 4 4 rfl rfl rfl rfl (by rw[hz2];omega) (by unfold maxLen;omega) (ah _) ?_;intro w2 ho2 hg2)
 clear hlo hv;have hmc:(madeCells (Value.int .u8 0).cells (4*1)).toList=[.int .u8 0,.int .u8 0,.int .u8 0,.int .u8 0]:=by kernel_rfl
 rw[hmc] at ho2;clear hmc;have hb2:Bw w w2:=(aA w.heap.size w).grown hg2 (ah _) (fun b hb=>by cases hb);obtain⟨c0,z0⟩:=cJ (i:=3) (x:=.int .u8 0) ho2 rfl;have ho3:=dH (i:=3) (x:=.int .u8 ((v:Int)% 256)) ho2 (by simp);obtain⟨c1,z1⟩:=cJ (i:=2) (x:=.int .u8 0) ho3 rfl;have ho4:=dH (i:=2) (x:=.int .u8 ((v:Int)/256% 256)) ho3 (by simp);obtain⟨c2,z2⟩:=cJ (i:=1) (x:=.int .u8 0) ho4 rfl;have ho5:=dH (i:=1) (x:=.int .u8 ((v:Int)/65536% 256)) ho4 (by simp);obtain⟨c3,z3⟩:=cJ (i:=0) (x:=.int .u8 0) ho5 rfl;have ho6:=dH (i:=0) (x:=.int .u8 ((v:Int)/16777216% 256)) ho5 (by simp);have hcv:=eI (P:=Tryz.prog) _ 58 9 5 w.heap.size _ [UInt8.ofNat (v/16777216),UInt8.ofNat (v/65536),UInt8.ofNat (v/256),UInt8.ofNat v] Tryz.underlying58 Tryz.underlying5 Tryz.underlying9 (by rw[show bV [UInt8.ofNat (v/16777216),UInt8.ofNat (v/65536),UInt8.ofNat (v/256),UInt8.ofNat v]=[.int .u8 ((v:Int)/16777216% 256),.int .u8 ((v:Int)/65536% 256),.int .u8 ((v:Int)/256% 256),.int .u8 ((v:Int)% 256)] by simp[bV,UInt8.toNat_ofNat']];exact ho6);clear ho2 ho3 ho4 ho5 ho6 hg2 hi0 hz0 hz1 hz2;refine wp_loop_rounds 5 ?_;rw[rounds_succ]
 go_wp2_with fail
 rw[rounds_succ]
 go_wp2_with fail
 rw[rounds_succ]
 go_wp2_with fail
 rw[rounds_succ]
 go_wp2_with fail
 rw[rounds_succ]
 go_wp2_with fail
 go_ret
 exact⟨rfl,((((hb2.setCell (p:=⟨w.heap.size,3,none⟩) (ah _) _).setCell (p:=⟨w.heap.size,2,none⟩) (ah _) _).setCell (p:=⟨w.heap.size,1,none⟩) (ah _) _).setCell (p:=⟨w.heap.size,0,none⟩) (ah _) _)⟩
theorem lV(v:Nat)(hv:v≤2147483647)(w:World):
  Cr 34 #[.int .i64 (v:Int)] w (.string ⟨(sgB v).toArray⟩):=by
 unfold sgB
 split
 ·exact gZ v (by omega) w
 ·split
  ·exact nT v (by omega) (by omega) w
  ·split
   ·exact nU v (by omega) (by omega) w
   ·exact nV v (by omega) (by omega) w
theorem eg(v:Nat):1≤(sgB v).length∧(sgB v).length≤4:=by
 unfold sgB
 repeat' split
 all_goals simp
theorem eO(t:Int)(v:Nat)(hv:v≤2147483647)(w:World):
  Cr 10 #[.int .i64 t,.int .i64 (v:Int)] w (.agg (elA (.mk 0 t false (sgB v) []) (.slice none 0 0))):=by
 have hb:=alb w Ze 40;have hr:=alz w Ze 40;have k:=lV v hv (w.alloc (.cells Ze 40));obtain⟨bs,hbs⟩:=nmm (sgB v);rw[hbs] at k⊢;clear hbs
 go_enter Tryz.func10,Tryz.ntmps10
 go_wp2_with fail
 refine ag k ?_;rintro e w1 ⟨rfl,hb1⟩;have hr1:=bkk hb1 hr;have hbb:=btt hb hb1;have k2:=i9 t bs w1;clear k hr hb hb1
 go_wp2_with fail
 refine ag k2 ?_;rintro e w2 ⟨rfl,hb2⟩;have hr2:=bkk hb2 hr1;have hb3:=btt hbb hb2;clear hr1 hb2 hbb k2;have hq:=setRow_heap w2 w.heap.size _ #[I0,.int .i64 t,Bf,.string ⟨bs.toArray⟩,.slice none 0 0] _ _ hr2;have hb4:=xo hb3 (g:=w.heap.size) (ah _) #[I0,.int .i64 t,Bf,.string ⟨bs.toArray⟩,.slice none 0 0]
 go_wp2_with (refine stE (.tmp 4) (.tmp 8) #[I0,.int .i64 t,Bf,.string ⟨bs.toArray⟩,.slice none 0 0] hr2 rfl (by simp[Value.oneCell']) ?_)
 all_goals refine aH (v:=.agg #[I0,.int .i64 t,Bf,.string ⟨bs.toArray⟩,.slice none 0 0]) ?_ rfl ⟨rfl,hb4⟩
 all_goals have hr:=rlE hq rfl
 all_goals simp[results,Tryz.f10]
 all_goals exact hr
end Go.Proofs.YtfhghdcbofbceaaGreatDoor
