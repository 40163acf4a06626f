/- MsQ, ElC, ElD, MsR, ElE. -/
import Derived.Deep.Cut
import Derived.Test.YthjaiigijbjloaaGreatDoorW4
namespace Go.Proofs.YthjaiigijbjloaaGreatDoor
open Go.RowKit Go.Lib
set_option maxRecDepth 100000
set_option maxHeartbeats 16000000
structure OpM (x:OpX) (w0:World):Prop where
 cdn:w0.cell? ⟨x.M,2,none⟩=some (.string ⟨x.dn.toArray⟩)
 cvm:w0.cell? ⟨x.M,13,none⟩=some x.vm
 cva:w0.cell? ⟨x.M,14,none⟩=some x.va
 ctyp:w0.cell? ⟨x.M,19,none⟩=some (.string ⟨x.typ.toArray⟩)
 cval:w0.cell? ⟨x.M,20,none⟩=some (.string ⟨x.value.toArray⟩)
 mods:∀w',Below w0.heap.size w0 w'→Calls Tryz.prog 121 #[x.vm] w' fun e w''=>(∃v,e=.returned v∧ti x.lm v w'')∧Below w'.heap.size w' w''
 attrs:∀w',Below w0.heap.size w0 w'→Calls Tryz.prog 122 #[x.va] w' fun e w''=>(∃v,e=.returned v∧ti x.la v w'')∧Below w'.heap.size w' w''
 styp:x.typ.length≤1000000000
 sval:x.value.length≤1000000000
theorem py{P:Program}{o:Oper}{a:Act}{w w':World}{K:Act→World→Prop}{Q:Exit→Act→World→Prop}(hr:(execOp a.eval o).run P w=.ok .skip w')(h:K (a.put o.dst undef) w'):Oper.wp P o a w K Q:=by
 unfold Oper.wp;rw[hr];exact h
theorem nQ{P:Program}{ρ:Operand→Value}{o:Oper}{t:TypeId}{m k y:Operand}{mv kv v:Value}{w w':World}(h:o.op=.insert t m k y)(hm:ρ m=mv)(hk:ρ k=kv)(hv:ρ y=v)(hr:(Instr.mapUpdate t mv kv v).run P w=.ok () w'):(execOp ρ o).run P w=.ok .skip w':=by
 obtain⟨dst,op,ty,pos,after,guard⟩:=o;simp only at h;subst h;subst hm;subst hk;subst hv;go_simp
theorem mO{ρ:Operand→Value}{o:Oper}{w:World}(h:o.op=.makeMap 148 none):(execOp ρ o).run Tryz.prog w=.ok (.value (.map (some w.heap.size))) (w.alloc (.map #[] 0)):=by
 obtain⟨dst,op,ty,pos,after,guard⟩:=o;simp only at h;subst h;have hmm:∀(t:TypeId) (w:World),(Instr.makeMap t none).run Tryz.prog w=.ok (.map (some w.heap.size)) (w.alloc (.map #[] 0)):=fun _ _=>rfl
 go_simp
theorem f9{e1 e2:El}{a1 a2:Option Addr}{n1 n2 c1 c2:Nat}{w:World}(h1:bf (fun _=>True) w (.slice a1 n1 c1) e1.kids)(h2:bf (fun _=>True) w (.slice a2 n2 c2) e2.kids):
  bf (fun _=>True) (w.alloc (.cells #[.int .i64 e1.cls,.int .i64 e1.tag,.bool e1.cons,.string ⟨e1.bytes.toArray⟩,.slice a1 n1 c1,.int .i64 e2.cls,.int .i64 e2.tag,.bool e2.cons,.string ⟨e2.bytes.toArray⟩,.slice a2 n2 c2] 45)) (.slice (some ⟨w.heap.size,0,none⟩) 2 2) [e1,e2]:=by
 have hb:=alb w #[.int .i64 e1.cls,.int .i64 e1.tag,.bool e1.cons,.string ⟨e1.bytes.toArray⟩,.slice a1 n1 c1,.int .i64 e2.cls,.int .i64 e2.tag,.bool e2.cons,.string ⟨e2.bytes.toArray⟩,.slice a2 n2 c2] 45;refine ic (l:=[e1,e2]) (us:=[.slice a1 n1 c1,.slice a2 n2 c2]) (bi _ _ _ rfl) (by simp[cx]) rfl (fun j e u hj hu=>?_) trivial;have h3:j=0∨j=1:=by have h9:=(List.getElem?_eq_some_iff.1 hj).1;simp at h9;omega
 rcases h3 with rfl|rfl
 ·simp at hj hu;subst hj;subst hu;exact h1.below hb
 ·simp at hj hu;subst hj;subst hu;exact h2.below hb
theorem ga(s:List UInt8)(w:World):bf (fun _=>True) w (Sn) (El.kids (.mk 0 4 false s [])):=bf.nil _ _
section
variable {x:OpX} {E:Value} {w0:World} {ops:Array Oper} {o:Oper} {listed:Array Bool} {a:Act} {w:World} {Q:Exit→Act→World→Prop} {K:Act→World→Prop}
theorem OpC.hi'{i:Nat}(c:OpC x E w0 ops i o listed a w):listed.getD i false=false:=by
 have h:=c.hi;rcases Nat.lt_or_ge i listed.size with h'|h'
 ·simp[h'] at h⊢;exact h
 ·simp[Array.getElem?_eq_none h'] at h
theorem ee{i:Nat}{k:Int}{y:Operand}{val:Value}(c:OpC x E w0 ops i o listed a w)(hop:o.op=.insert 148 (.tmp 7) (.const (.int .i64 k)) y)(hd:o.dst=none)(hL:(i,k)∈opL)(hW:(i,0)∈opW)(hy:a.eval y=val)(hval:opV x i val w)(hT:∀v w,opG x i v w)
  (hK:HKt x E w0 o listed a w K i):Oper.wp Tryz.prog o a w K Q:=by
 obtain⟨h1,h2,h3,h4,h5,h7,h6⟩:=c.hB;have hc0:=c.came hW;obtain⟨r,hr7,hrw,hm⟩:=h6 hc0;have hinj:∀p∈opL,p.2=k→p.1=i:=by
  have:∀p∈opL,∀q∈opL,p.2=q.2→p.1=q.1:=by decide
  exact fun p hp e=>this p hp (i,k) hL e
 have hdist:∀p∈opL,p.1=i→p.2=k:=by
  have:∀p∈opL,∀q∈opL,p.1=q.1→p.2=q.2:=by decide
  exact fun p hp e=>this p hp (i,k) hL e
 obtain⟨w',hrun,hm',hsz,hoth,e1,e2,e3,hH⟩:=kJ (P:=Tryz.prog) 148 3 127 i k val (by kernel_rfl) (by kernel_rfl) hm hL hinj hdist c.hi' (fun i v w w' q=>jn x i v w w' q) hval;refine py (nQ hop (bu hr7) rfl hy hrun) (hK undef w' (hT _ _) ⟨hH,fun r' hr'=>?_⟩ ?_)
 ·by_cases hrr:r'=r
  ·exfalso
   subst hrr;obtain⟨es,cl,hb,_,q3⟩:=hr';obtain⟨es',cl',hb',q2',_⟩:=hm;rw[hb] at hb';cases hb';obtain⟨z,hz,hzk⟩:=q3 (i,k) hL rfl;obtain⟨p,hp,hpl,hpk,_⟩:=q2' z hz;rw[hzk] at hpk
   injection hpk with _ hpk
   have:=hinj p hp hpk.symm;simp only at hpl;rw[this,c.hi'] at hpl;cases hpl
  ·exact hr'.keep (hoth r' hrr) (fun j v q=>jn x j v _ _ hH q) (fun _ _=>rfl)
 ·rw[hd]
  have hil:i<listed.size:=by
   rw[c.hsz];exact(gl c.ho)
  have hl:∀j,(listed.setIfInBounds i true).getD j false=if j=i then true else listed.getD j false:=by
   intro j
   by_cases hj:j=i
   ·subst hj;simp[hil]
   ·simp[hj,Ne.symm hj]
  refine⟨h1,h2,h3,h4,⟨e1.trans h5.os,e2.trans h5.tape,e3.trans h5.output,by have:=h5.size;omega,fun j hj=>(hoth j (by omega)).trans (h5.block j hj)⟩,fun p hp _=>?_,fun _=>⟨r,hr7,hrw,hm'.keep rfl (fun _ _ q=>q) (fun p _=>hl p.1)⟩⟩;rw[hl]
  split
  ·rfl
  ·exact hc0
theorem vu(_m:OpM x w0)(c:OpC x E w0 ops 0 o listed a w)(hK:HKt x E w0 o listed a w K 0):Oper.wp Tryz.prog o a w K Q:=by
 obtain⟨q1,q2⟩:=aP (aD (bx c.htab c.ho));obtain⟨h1,h2,h3,h4,h5,h7,h6⟩:=c.hB;have hb:Below w.heap.size w (w.alloc (.map #[] 0)):=(ar _ _).alloc (ah _) _;refine jS (mO q1.symm) (hK _ _ trivial (jo x hb) ?_);rw[←q2];have hil:0<listed.size:=by
  rw[c.hsz];exact(gl c.ho)
 have hno:∀p∈opL,listed.getD p.1 false=false:=by
  intro p hp;cases hq:listed.getD p.1 false with
  |false=>rfl
  |true=>have:=h7 p hp hq;rw[c.hi'] at this;cases this
 have hp0:∀p∈opL,p.1≠0:=by decide
 have hne:∀p∈opL,(listed.setIfInBounds 0 true).getD p.1 false=false:=by
  intro p hp;have q:=hno p hp
  simp[Ne.symm (hp0 p hp)] at q⊢
  exact q
 have hs7:7<a.tmps.size:=by rw[c.hn];decide
 refine⟨?_,?_,?_,h4,(btt h5 hb),fun p hp q=>?_,fun _=>⟨w.heap.size,?_,h5.size,#[],0,bi _ _ _ rfl,?_,fun p hp q=>?_⟩⟩
 ·show(a.tmps.setIfInBounds 7 _)[1]?=_
  simp[h1]
 ·show(a.tmps.setIfInBounds 7 _)[2]?=_
  simp[h2]
 ·show(a.tmps.setIfInBounds 7 _)[3]?=_
  simp[h3]
 ·rw[hne p hp] at q;cases q
 ·show(a.tmps.setIfInBounds 7 _)[7]?=_
  simp[hs7]
 ·intro z hz;simp at hz
 ·have:=hne p hp
  simp only at q;rw[this] at q;cases q
theorem vv(_m:OpM x w0)(c:OpC x E w0 ops 1 o listed a w)(hK:HKt x E w0 o listed a w K 1):Oper.wp Tryz.prog o a w K Q:=by
 obtain⟨q1,q2⟩:=aP (aD (bx c.htab c.ho));exact c.value q2.symm (by decide) (by decide) (rr q1.symm (bu c.hB.1)) (ar _ _) rfl hK
theorem vw(_m:OpM x w0)(c:OpC x E w0 ops 2 o listed a w)(hK:HKt x E w0 o listed a w K 2):Oper.wp Tryz.prog o a w K Q:=by
 obtain⟨q1,q2⟩:=aP (aD (bx c.htab c.ho));obtain⟨v1,p1,g1⟩:=c.dep (j:=1) (d:=8) (by decide) rfl;exact ee c q1.symm q2.symm (by decide) (by decide) (bu p1) g1 (fun _ _=>trivial) hK
theorem vx(_m:OpM x w0)(c:OpC x E w0 ops 3 o listed a w)(hK:HKt x E w0 o listed a w K 3):Oper.wp Tryz.prog o a w K Q:=by
 obtain⟨q1,q2⟩:=aP (aD (bx c.htab c.ho));exact ee c q1.symm q2.symm (by decide) (by decide) rfl rfl (fun _ _=>trivial) hK
theorem vy(_m:OpM x w0)(c:OpC x E w0 ops 4 o listed a w)(hK:HKt x E w0 o listed a w K 4):Oper.wp Tryz.prog o a w K Q:=by
 obtain⟨q1,q2⟩:=aP (aD (bx c.htab c.ho));exact c.value q2.symm (by decide) (by decide) (rr q1.symm (bu c.hB.1)) (ar _ _) rfl hK
theorem vA(_m:OpM x w0)(c:OpC x E w0 ops 5 o listed a w)(hK:HKt x E w0 o listed a w K 5):Oper.wp Tryz.prog o a w K Q:=by
 obtain⟨q1,q2⟩:=aP (aD (bx c.htab c.ho));obtain⟨v1,p1,g1⟩:=c.dep (j:=4) (d:=9) (by decide) rfl;exact ee c q1.symm q2.symm (by decide) (by decide) (bu p1) g1 (fun _ _=>trivial) hK
theorem vB(_m:OpM x w0)(c:OpC x E w0 ops 6 o listed a w)(hK:HKt x E w0 o listed a w K 6):Oper.wp Tryz.prog o a w K Q:=by
 obtain⟨q1,q2⟩:=aP (aD (bx c.htab c.ho));exact c.value q2.symm (by decide) (by decide) (gj q1.symm (bu c.hB.2.2.1)) (ar _ _) rfl hK
theorem vC(_m:OpM x w0)(c:OpC x E w0 ops 7 o listed a w)(hK:HKt x E w0 o listed a w K 7):Oper.wp Tryz.prog o a w K Q:=by
 obtain⟨q1,q2⟩:=aP (aD (bx c.htab c.ho));exact c.value q2.symm (by decide) (by decide) (qx (by decide) q1.symm (bu c.hB.1)) (ar _ _) rfl hK
theorem vD(m:OpM x w0)(c:OpC x E w0 ops 8 o listed a w)(hK:HKt x E w0 o listed a w K 8):Oper.wp Tryz.prog o a w K Q:=by
 obtain⟨q1,q2⟩:=aP (aD (bx c.htab c.ho));obtain⟨v1,p1,g1⟩:=c.dep (j:=7) (d:=11) (by decide) rfl;have g1:v1=.pointer (some ⟨x.M,2,none⟩):=g1;subst g1;have hc:=(c.hB.2.2.2.2.1.cell (bj m.cdn)).trans m.cdn;exact c.value q2.symm (by decide) (by decide) (ry (by decide) q1.symm (bu p1) hc) (ar _ _) rfl hK
theorem vE(_m:OpM x w0)(c:OpC x E w0 ops 9 o listed a w)(hK:HKt x E w0 o listed a w K 9):Oper.wp Tryz.prog o a w K Q:=by
 obtain⟨q1,q2⟩:=aP (aD (bx c.htab c.ho));obtain⟨v1,p1,g1⟩:=c.dep (j:=8) (d:=12) (by decide) rfl;have g1:v1=.string ⟨x.dn.toArray⟩:=g1;subst g1;exact c.enter q2.symm (by decide) (by decide) (dg q1.symm rfl (bu p1) (fun args=>cI _ (by decide) args w)) ((bz x.dn w).mono fun e w' h=>⟨⟨_,h.1,rfl⟩,h.2⟩) hK
theorem tR(_m:OpM x w0)(c:OpC x E w0 ops 10 o listed a w)(hK:HKt x E w0 o listed a w K 10):Oper.wp Tryz.prog o a w K Q:=by
 obtain⟨q1,q2⟩:=aP (aD (bx c.htab c.ho));exact c.value q2.symm (by decide) (by decide) (qx (by decide) q1.symm (bu c.hB.1)) (ar _ _) rfl hK
theorem tS(m:OpM x w0)(c:OpC x E w0 ops 11 o listed a w)(hK:HKt x E w0 o listed a w K 11):Oper.wp Tryz.prog o a w K Q:=by
 obtain⟨q1,q2⟩:=aP (aD (bx c.htab c.ho));obtain⟨v1,p1,g1⟩:=c.dep (j:=10) (d:=14) (by decide) rfl;have g1:v1=.pointer (some ⟨x.M,13,none⟩):=g1;subst g1;have hc:=(c.hB.2.2.2.2.1.cell (bj m.cvm)).trans m.cvm;exact c.value q2.symm (by decide) (by decide) (ry (by decide) q1.symm (bu p1) hc) (ar _ _) rfl hK
theorem tT(m:OpM x w0)(c:OpC x E w0 ops 12 o listed a w)(hK:HKt x E w0 o listed a w K 12):Oper.wp Tryz.prog o a w K Q:=by
 obtain⟨q1,q2⟩:=aP (aD (bx c.htab c.ho));obtain⟨v1,p1,g1⟩:=c.dep (j:=11) (d:=15) (by decide) rfl;have g1:v1=x.vm:=g1;subst g1;exact c.enter q2.symm (by decide) (by decide) (dg q1.symm rfl (bu p1) (fun args=>cI _ (by decide) args w)) (m.mods w c.hB.2.2.2.2.1) hK
theorem tU(_m:OpM x w0)(c:OpC x E w0 ops 13 o listed a w)(hK:HKt x E w0 o listed a w K 13):Oper.wp Tryz.prog o a w K Q:=by
 obtain⟨q1,q2⟩:=aP (aD (bx c.htab c.ho));obtain⟨v1,p1,g1⟩:=c.dep (j:=9) (d:=13) (by decide) rfl;obtain⟨v2,p2,g2⟩:=c.dep (j:=12) (d:=16) (by decide) rfl;have g1:v1=.agg (elA (.mk 0 4 false x.dn []) (Sn)):=g1;subst g1;obtain⟨u2,e2,k2⟩:ti x.lm v2 w:=g2;obtain⟨b2,l2,s2⟩:=k2.shape;subst s2;subst e2;exact c.value q2.symm (by decide) (by decide) (fZ q1.symm (bu p1) (bu p2)) ((ar _ _).alloc (ah _) _) (f9 (ga _ w) k2) hK
theorem tV(_m:OpM x w0)(c:OpC x E w0 ops 14 o listed a w)(hK:HKt x E w0 o listed a w K 14):Oper.wp Tryz.prog o a w K Q:=by
 obtain⟨q1,q2⟩:=aP (aD (bx c.htab c.ho));obtain⟨v1,p1,g1⟩:=c.dep (j:=6) (d:=10) (by decide) rfl;have g1:v1=.func (.func 114) #[] #[]:=g1;subst g1;obtain⟨v2,p2,g2⟩:=c.dep (j:=13) (d:=17) (by decide) rfl;have g2:bf (fun _=>True) w v2 [(.mk 0 4 false x.dn []),.mk 0 16 true [] x.lm]:=g2;have hs:∃a n c,v2=.slice a n c:=by
  obtain⟨b,n,s⟩:=g2.shape;exact⟨_,_,_,s⟩
 refine c.enter q2.symm (by decide) (by decide) (dg q1.symm (bu p1) (bu p2) (fun args=>cI _ (by decide) args w)) ((gK v2 w hs).mono ?_) hK;rintro e w' ⟨⟨b,rfl,hc⟩,hb⟩;exact⟨⟨_,rfl,b,v2,rfl,hc,g2.below hb⟩,hb⟩
theorem tW(_m:OpM x w0)(c:OpC x E w0 ops 15 o listed a w)(hK:HKt x E w0 o listed a w K 15):Oper.wp Tryz.prog o a w K Q:=by
 obtain⟨q1,q2⟩:=aP (aD (bx c.htab c.ho));obtain⟨v1,p1,g1⟩:=c.dep (j:=14) (d:=18) (by decide) rfl;exact ee c q1.symm q2.symm (by decide) (by decide) (bu p1) g1 (fun _ _=>trivial) hK
theorem tX(_m:OpM x w0)(c:OpC x E w0 ops 16 o listed a w)(hK:HKt x E w0 o listed a w K 16):Oper.wp Tryz.prog o a w K Q:=by
 obtain⟨q1,q2⟩:=aP (aD (bx c.htab c.ho));exact c.value q2.symm (by decide) (by decide) (gj q1.symm (bu c.hB.2.2.1)) (ar _ _) rfl hK
theorem tY(_m:OpM x w0)(c:OpC x E w0 ops 17 o listed a w)(hK:HKt x E w0 o listed a w K 17):Oper.wp Tryz.prog o a w K Q:=by
 obtain⟨q1,q2⟩:=aP (aD (bx c.htab c.ho));exact c.value q2.symm (by decide) (by decide) (qx (by decide) q1.symm (bu c.hB.1)) (ar _ _) rfl hK
theorem tZ(m:OpM x w0)(c:OpC x E w0 ops 18 o listed a w)(hK:HKt x E w0 o listed a w K 18):Oper.wp Tryz.prog o a w K Q:=by
 obtain⟨q1,q2⟩:=aP (aD (bx c.htab c.ho));obtain⟨v1,p1,g1⟩:=c.dep (j:=17) (d:=20) (by decide) rfl;have g1:v1=.pointer (some ⟨x.M,2,none⟩):=g1;subst g1;have hc:=(c.hB.2.2.2.2.1.cell (bj m.cdn)).trans m.cdn;exact c.value q2.symm (by decide) (by decide) (ry (by decide) q1.symm (bu p1) hc) (ar _ _) rfl hK
theorem BO(_m:OpM x w0)(c:OpC x E w0 ops 19 o listed a w)(hK:HKt x E w0 o listed a w K 19):Oper.wp Tryz.prog o a w K Q:=by
 obtain⟨q1,q2⟩:=aP (aD (bx c.htab c.ho));obtain⟨v1,p1,g1⟩:=c.dep (j:=18) (d:=21) (by decide) rfl;have g1:v1=.string ⟨x.dn.toArray⟩:=g1;subst g1;exact c.enter q2.symm (by decide) (by decide) (dg q1.symm rfl (bu p1) (fun args=>cI _ (by decide) args w)) ((bz x.dn w).mono fun e w' h=>⟨⟨_,h.1,rfl⟩,h.2⟩) hK
theorem BQ(_m:OpM x w0)(c:OpC x E w0 ops 20 o listed a w)(hK:HKt x E w0 o listed a w K 20):Oper.wp Tryz.prog o a w K Q:=by
 obtain⟨q1,q2⟩:=aP (aD (bx c.htab c.ho));exact c.value q2.symm (by decide) (by decide) (qx (by decide) q1.symm (bu c.hB.1)) (ar _ _) rfl hK
theorem ud(m:OpM x w0)(c:OpC x E w0 ops 21 o listed a w)(hK:HKt x E w0 o listed a w K 21):Oper.wp Tryz.prog o a w K Q:=by
 obtain⟨q1,q2⟩:=aP (aD (bx c.htab c.ho));obtain⟨v1,p1,g1⟩:=c.dep (j:=20) (d:=23) (by decide) rfl;have g1:v1=.pointer (some ⟨x.M,14,none⟩):=g1;subst g1;have hc:=(c.hB.2.2.2.2.1.cell (bj m.cva)).trans m.cva;exact c.value q2.symm (by decide) (by decide) (ry (by decide) q1.symm (bu p1) hc) (ar _ _) rfl hK
theorem ue(m:OpM x w0)(c:OpC x E w0 ops 22 o listed a w)(hK:HKt x E w0 o listed a w K 22):Oper.wp Tryz.prog o a w K Q:=by
 obtain⟨q1,q2⟩:=aP (aD (bx c.htab c.ho));obtain⟨v1,p1,g1⟩:=c.dep (j:=21) (d:=24) (by decide) rfl;have g1:v1=x.va:=g1;subst g1;exact c.enter q2.symm (by decide) (by decide) (dg q1.symm rfl (bu p1) (fun args=>cI _ (by decide) args w)) (m.attrs w c.hB.2.2.2.2.1) hK
theorem ug(_m:OpM x w0)(c:OpC x E w0 ops 23 o listed a w)(hK:HKt x E w0 o listed a w K 23):Oper.wp Tryz.prog o a w K Q:=by
 obtain⟨q1,q2⟩:=aP (aD (bx c.htab c.ho));obtain⟨v1,p1,g1⟩:=c.dep (j:=19) (d:=22) (by decide) rfl;obtain⟨v2,p2,g2⟩:=c.dep (j:=22) (d:=25) (by decide) rfl;have g1:v1=.agg (elA (.mk 0 4 false x.dn []) (Sn)):=g1;subst g1;obtain⟨u2,e2,k2⟩:ti x.la v2 w:=g2;obtain⟨b2,l2,s2⟩:=k2.shape;subst s2;subst e2;exact c.value q2.symm (by decide) (by decide) (fZ q1.symm (bu p1) (bu p2)) ((ar _ _).alloc (ah _) _) (f9 (ga _ w) k2) hK
theorem uh(_m:OpM x w0)(c:OpC x E w0 ops 24 o listed a w)(hK:HKt x E w0 o listed a w K 24):Oper.wp Tryz.prog o a w K Q:=by
 obtain⟨q1,q2⟩:=aP (aD (bx c.htab c.ho));obtain⟨v1,p1,g1⟩:=c.dep (j:=16) (d:=19) (by decide) rfl;have g1:v1=.func (.func 114) #[] #[]:=g1;subst g1;obtain⟨v2,p2,g2⟩:=c.dep (j:=23) (d:=26) (by decide) rfl;have g2:bf (fun _=>True) w v2 [(.mk 0 4 false x.dn []),.mk 0 16 true [] x.la]:=g2;have hs:∃a n c,v2=.slice a n c:=by
  obtain⟨b,n,s⟩:=g2.shape;exact⟨_,_,_,s⟩
 refine c.enter q2.symm (by decide) (by decide) (dg q1.symm (bu p1) (bu p2) (fun args=>cI _ (by decide) args w)) ((gK v2 w hs).mono ?_) hK;rintro e w' ⟨⟨b,rfl,hc⟩,hb⟩;exact⟨⟨_,rfl,b,v2,rfl,hc,g2.below hb⟩,hb⟩
theorem ui(_m:OpM x w0)(c:OpC x E w0 ops 25 o listed a w)(hK:HKt x E w0 o listed a w K 25):Oper.wp Tryz.prog o a w K Q:=by
 obtain⟨q1,q2⟩:=aP (aD (bx c.htab c.ho));obtain⟨v1,p1,g1⟩:=c.dep (j:=24) (d:=27) (by decide) rfl;exact ee c q1.symm q2.symm (by decide) (by decide) (bu p1) g1 (fun _ _=>trivial) hK
theorem uj(_m:OpM x w0)(c:OpC x E w0 ops 26 o listed a w)(hK:HKt x E w0 o listed a w K 26):Oper.wp Tryz.prog o a w K Q:=by
 obtain⟨q1,q2⟩:=aP (aD (bx c.htab c.ho));exact c.value q2.symm (by decide) (by decide) (gj q1.symm (bu c.hB.2.2.1)) (ar _ _) rfl hK
theorem uk(_m:OpM x w0)(c:OpC x E w0 ops 27 o listed a w)(hK:HKt x E w0 o listed a w K 27):Oper.wp Tryz.prog o a w K Q:=by
 obtain⟨q1,q2⟩:=aP (aD (bx c.htab c.ho));exact c.value q2.symm (by decide) (by decide) (qx (by decide) q1.symm (bu c.hB.1)) (ar _ _) rfl hK
theorem ul(m:OpM x w0)(c:OpC x E w0 ops 28 o listed a w)(hK:HKt x E w0 o listed a w K 28):Oper.wp Tryz.prog o a w K Q:=by
 obtain⟨q1,q2⟩:=aP (aD (bx c.htab c.ho));obtain⟨v1,p1,g1⟩:=c.dep (j:=27) (d:=29) (by decide) rfl;have g1:v1=.pointer (some ⟨x.M,2,none⟩):=g1;subst g1;have hc:=(c.hB.2.2.2.2.1.cell (bj m.cdn)).trans m.cdn;exact c.value q2.symm (by decide) (by decide) (ry (by decide) q1.symm (bu p1) hc) (ar _ _) rfl hK
theorem um(_m:OpM x w0)(c:OpC x E w0 ops 29 o listed a w)(hK:HKt x E w0 o listed a w K 29):Oper.wp Tryz.prog o a w K Q:=by
 obtain⟨q1,q2⟩:=aP (aD (bx c.htab c.ho));obtain⟨v1,p1,g1⟩:=c.dep (j:=28) (d:=30) (by decide) rfl;have g1:v1=.string ⟨x.dn.toArray⟩:=g1;subst g1;exact c.enter q2.symm (by decide) (by decide) (dg q1.symm rfl (bu p1) (fun args=>cI _ (by decide) args w)) ((bz x.dn w).mono fun e w' h=>⟨⟨_,h.1,rfl⟩,h.2⟩) hK
theorem un(_m:OpM x w0)(c:OpC x E w0 ops 30 o listed a w)(hK:HKt x E w0 o listed a w K 30):Oper.wp Tryz.prog o a w K Q:=by
 obtain⟨q1,q2⟩:=aP (aD (bx c.htab c.ho));exact c.value q2.symm (by decide) (by decide) (qx (by decide) q1.symm (bu c.hB.1)) (ar _ _) rfl hK
theorem uq(m:OpM x w0)(c:OpC x E w0 ops 31 o listed a w)(hK:HKt x E w0 o listed a w K 31):Oper.wp Tryz.prog o a w K Q:=by
 obtain⟨q1,q2⟩:=aP (aD (bx c.htab c.ho));obtain⟨v1,p1,g1⟩:=c.dep (j:=30) (d:=32) (by decide) rfl;have g1:v1=.pointer (some ⟨x.M,14,none⟩):=g1;subst g1;have hc:=(c.hB.2.2.2.2.1.cell (bj m.cva)).trans m.cva;exact c.value q2.symm (by decide) (by decide) (ry (by decide) q1.symm (bu p1) hc) (ar _ _) rfl hK
theorem ur(m:OpM x w0)(c:OpC x E w0 ops 32 o listed a w)(hK:HKt x E w0 o listed a w K 32):Oper.wp Tryz.prog o a w K Q:=by
 obtain⟨q1,q2⟩:=aP (aD (bx c.htab c.ho));obtain⟨v1,p1,g1⟩:=c.dep (j:=31) (d:=33) (by decide) rfl;have g1:v1=x.va:=g1;subst g1;exact c.enter q2.symm (by decide) (by decide) (dg q1.symm rfl (bu p1) (fun args=>cI _ (by decide) args w)) (m.attrs w c.hB.2.2.2.2.1) hK
theorem ut(_m:OpM x w0)(c:OpC x E w0 ops 33 o listed a w)(hK:HKt x E w0 o listed a w K 33):Oper.wp Tryz.prog o a w K Q:=by
 obtain⟨q1,q2⟩:=aP (aD (bx c.htab c.ho));obtain⟨v1,p1,g1⟩:=c.dep (j:=29) (d:=31) (by decide) rfl;obtain⟨v2,p2,g2⟩:=c.dep (j:=32) (d:=34) (by decide) rfl;have g1:v1=.agg (elA (.mk 0 4 false x.dn []) (Sn)):=g1;subst g1;obtain⟨u2,e2,k2⟩:ti x.la v2 w:=g2;obtain⟨b2,l2,s2⟩:=k2.shape;subst s2;subst e2;exact c.value q2.symm (by decide) (by decide) (fZ q1.symm (bu p1) (bu p2)) ((ar _ _).alloc (ah _) _) (f9 (ga _ w) k2) hK
theorem uv(_m:OpM x w0)(c:OpC x E w0 ops 34 o listed a w)(hK:HKt x E w0 o listed a w K 34):Oper.wp Tryz.prog o a w K Q:=by
 obtain⟨q1,q2⟩:=aP (aD (bx c.htab c.ho));obtain⟨v1,p1,g1⟩:=c.dep (j:=26) (d:=28) (by decide) rfl;have g1:v1=.func (.func 114) #[] #[]:=g1;subst g1;obtain⟨v2,p2,g2⟩:=c.dep (j:=33) (d:=35) (by decide) rfl;have g2:bf (fun _=>True) w v2 [(.mk 0 4 false x.dn []),.mk 0 16 true [] x.la]:=g2;have hs:∃a n c,v2=.slice a n c:=by
  obtain⟨b,n,s⟩:=g2.shape;exact⟨_,_,_,s⟩
 refine c.enter q2.symm (by decide) (by decide) (dg q1.symm (bu p1) (bu p2) (fun args=>cI _ (by decide) args w)) ((gK v2 w hs).mono ?_) hK;rintro e w' ⟨⟨b,rfl,hc⟩,hb⟩;exact⟨⟨_,rfl,b,v2,rfl,hc,g2.below hb⟩,hb⟩
theorem uw(_m:OpM x w0)(c:OpC x E w0 ops 35 o listed a w)(hK:HKt x E w0 o listed a w K 35):Oper.wp Tryz.prog o a w K Q:=by
 obtain⟨q1,q2⟩:=aP (aD (bx c.htab c.ho));obtain⟨v1,p1,g1⟩:=c.dep (j:=34) (d:=36) (by decide) rfl;exact ee c q1.symm q2.symm (by decide) (by decide) (bu p1) g1 (fun _ _=>trivial) hK
theorem ux(_m:OpM x w0)(c:OpC x E w0 ops 36 o listed a w)(hK:HKt x E w0 o listed a w K 36):Oper.wp Tryz.prog o a w K Q:=by
 obtain⟨q1,q2⟩:=aP (aD (bx c.htab c.ho));exact c.value q2.symm (by decide) (by decide) (rr q1.symm (bu c.hB.1)) (ar _ _) rfl hK
theorem uy(_m:OpM x w0)(c:OpC x E w0 ops 37 o listed a w)(hK:HKt x E w0 o listed a w K 37):Oper.wp Tryz.prog o a w K Q:=by
 obtain⟨q1,q2⟩:=aP (aD (bx c.htab c.ho));obtain⟨v1,p1,g1⟩:=c.dep (j:=36) (d:=37) (by decide) rfl;exact ee c q1.symm q2.symm (by decide) (by decide) (bu p1) g1 (fun _ _=>trivial) hK
theorem uz(_m:OpM x w0)(c:OpC x E w0 ops 38 o listed a w)(hK:HKt x E w0 o listed a w K 38):Oper.wp Tryz.prog o a w K Q:=by
 obtain⟨q1,q2⟩:=aP (aD (bx c.htab c.ho));exact c.value q2.symm (by decide) (by decide) (rr q1.symm (bu c.hB.1)) (ar _ _) rfl hK
theorem BR(_m:OpM x w0)(c:OpC x E w0 ops 39 o listed a w)(hK:HKt x E w0 o listed a w K 39):Oper.wp Tryz.prog o a w K Q:=by
 obtain⟨q1,q2⟩:=aP (aD (bx c.htab c.ho));obtain⟨v1,p1,g1⟩:=c.dep (j:=38) (d:=38) (by decide) rfl;exact ee c q1.symm q2.symm (by decide) (by decide) (bu p1) g1 (fun _ _=>trivial) hK
theorem uB(_m:OpM x w0)(c:OpC x E w0 ops 40 o listed a w)(hK:HKt x E w0 o listed a w K 40):Oper.wp Tryz.prog o a w K Q:=by
 obtain⟨q1,q2⟩:=aP (aD (bx c.htab c.ho));exact c.value q2.symm (by decide) (by decide) (gj q1.symm (bu c.hB.2.2.1)) (ar _ _) rfl hK
theorem BS(_m:OpM x w0)(c:OpC x E w0 ops 41 o listed a w)(hK:HKt x E w0 o listed a w K 41):Oper.wp Tryz.prog o a w K Q:=by
 obtain⟨q1,q2⟩:=aP (aD (bx c.htab c.ho));exact c.value q2.symm (by decide) (by decide) (qx (by decide) q1.symm (bu c.hB.1)) (ar _ _) rfl hK
theorem uD(m:OpM x w0)(c:OpC x E w0 ops 42 o listed a w)(hK:HKt x E w0 o listed a w K 42):Oper.wp Tryz.prog o a w K Q:=by
 obtain⟨q1,q2⟩:=aP (aD (bx c.htab c.ho));obtain⟨v1,p1,g1⟩:=c.dep (j:=41) (d:=40) (by decide) rfl;have g1:v1=.pointer (some ⟨x.M,2,none⟩):=g1;subst g1;have hc:=(c.hB.2.2.2.2.1.cell (bj m.cdn)).trans m.cdn;exact c.value q2.symm (by decide) (by decide) (ry (by decide) q1.symm (bu p1) hc) (ar _ _) rfl hK
theorem uE(_m:OpM x w0)(c:OpC x E w0 ops 43 o listed a w)(hK:HKt x E w0 o listed a w K 43):Oper.wp Tryz.prog o a w K Q:=by
 obtain⟨q1,q2⟩:=aP (aD (bx c.htab c.ho));obtain⟨v1,p1,g1⟩:=c.dep (j:=42) (d:=41) (by decide) rfl;have g1:v1=.string ⟨x.dn.toArray⟩:=g1;subst g1;exact c.enter q2.symm (by decide) (by decide) (dg q1.symm rfl (bu p1) (fun args=>cI _ (by decide) args w)) ((bz x.dn w).mono fun e w' h=>⟨⟨_,h.1,rfl⟩,h.2⟩) hK
theorem uG(_m:OpM x w0)(c:OpC x E w0 ops 44 o listed a w)(hK:HKt x E w0 o listed a w K 44):Oper.wp Tryz.prog o a w K Q:=by
 obtain⟨q1,q2⟩:=aP (aD (bx c.htab c.ho));exact c.value q2.symm (by decide) (by decide) (qx (by decide) q1.symm (bu c.hB.1)) (ar _ _) rfl hK
theorem uH(m:OpM x w0)(c:OpC x E w0 ops 45 o listed a w)(hK:HKt x E w0 o listed a w K 45):Oper.wp Tryz.prog o a w K Q:=by
 obtain⟨q1,q2⟩:=aP (aD (bx c.htab c.ho));obtain⟨v1,p1,g1⟩:=c.dep (j:=44) (d:=43) (by decide) rfl;have g1:v1=.pointer (some ⟨x.M,19,none⟩):=g1;subst g1;have hc:=(c.hB.2.2.2.2.1.cell (bj m.ctyp)).trans m.ctyp;exact c.value q2.symm (by decide) (by decide) (ry (by decide) q1.symm (bu p1) hc) (ar _ _) rfl hK
theorem uI(_m:OpM x w0)(c:OpC x E w0 ops 46 o listed a w)(hK:HKt x E w0 o listed a w K 46):Oper.wp Tryz.prog o a w K Q:=by
 obtain⟨q1,q2⟩:=aP (aD (bx c.htab c.ho));obtain⟨v1,p1,g1⟩:=c.dep (j:=45) (d:=44) (by decide) rfl;have g1:v1=.string ⟨x.typ.toArray⟩:=g1;subst g1;exact c.enter q2.symm (by decide) (by decide) (dg q1.symm rfl (bu p1) (fun args=>cI _ (by decide) args w)) ((bz x.typ w).mono fun e w' h=>⟨⟨_,h.1,rfl⟩,h.2⟩) hK
theorem uJ(_m:OpM x w0)(c:OpC x E w0 ops 47 o listed a w)(hK:HKt x E w0 o listed a w K 47):Oper.wp Tryz.prog o a w K Q:=by
 obtain⟨q1,q2⟩:=aP (aD (bx c.htab c.ho));exact c.value q2.symm (by decide) (by decide) (qx (by decide) q1.symm (bu c.hB.1)) (ar _ _) rfl hK
theorem uK(m:OpM x w0)(c:OpC x E w0 ops 48 o listed a w)(hK:HKt x E w0 o listed a w K 48):Oper.wp Tryz.prog o a w K Q:=by
 obtain⟨q1,q2⟩:=aP (aD (bx c.htab c.ho));obtain⟨v1,p1,g1⟩:=c.dep (j:=47) (d:=46) (by decide) rfl;have g1:v1=.pointer (some ⟨x.M,20,none⟩):=g1;subst g1;have hc:=(c.hB.2.2.2.2.1.cell (bj m.cval)).trans m.cval;exact c.value q2.symm (by decide) (by decide) (ry (by decide) q1.symm (bu p1) hc) (ar _ _) rfl hK
theorem uL(_m:OpM x w0)(c:OpC x E w0 ops 49 o listed a w)(hK:HKt x E w0 o listed a w K 49):Oper.wp Tryz.prog o a w K Q:=by
 obtain⟨q1,q2⟩:=aP (aD (bx c.htab c.ho));obtain⟨v1,p1,g1⟩:=c.dep (j:=48) (d:=47) (by decide) rfl;have g1:v1=.string ⟨x.value.toArray⟩:=g1;subst g1;exact c.enter q2.symm (by decide) (by decide) (dg q1.symm rfl (bu p1) (fun args=>cI _ (by decide) args w)) ((bz x.value w).mono fun e w' h=>⟨⟨_,h.1,rfl⟩,h.2⟩) hK
theorem BT(_m:OpM x w0)(c:OpC x E w0 ops 50 o listed a w)(hK:HKt x E w0 o listed a w K 50):Oper.wp Tryz.prog o a w K Q:=by
 obtain⟨q1,q2⟩:=aP (aD (bx c.htab c.ho));obtain⟨v1,p1,g1⟩:=c.dep (j:=46) (d:=45) (by decide) rfl;obtain⟨v2,p2,g2⟩:=c.dep (j:=49) (d:=48) (by decide) rfl;have g1:v1=.agg (elA (.mk 0 4 false x.typ []) (Sn)):=g1;subst g1;have g2:v2=.agg (elA (.mk 0 4 false x.value []) (Sn)):=g2;subst g2;exact c.value q2.symm (by decide) (by decide) (fZ q1.symm (bu p1) (bu p2)) ((ar _ _).alloc (ah _) _) (f9 (ga _ w) (ga _ w)) hK
theorem uN(m:OpM x w0)(c:OpC x E w0 ops 51 o listed a w)(hK:HKt x E w0 o listed a w K 51):Oper.wp Tryz.prog o a w K Q:=by
 obtain⟨q1,q2⟩:=aP (aD (bx c.htab c.ho));obtain⟨v1,p1,g1⟩:=c.dep (j:=50) (d:=49) (by decide) rfl;have g1:bf (fun _=>True) w v1 [(.mk 0 4 false x.typ []),(.mk 0 4 false x.value [])]:=g1;refine c.enter q2.symm (by decide) (by decide) (dg q1.symm rfl (bu p1) (fun args=>cI _ (by decide) args w)) ((cH _ v1 w g1 (by simp[SmL,SmE];exact⟨m.styp,m.sval⟩) (by simp)).mono ?_) hK;rintro e w' ⟨⟨u,rfl,hu⟩,hb⟩;exact⟨⟨_,rfl,u,rfl,hu.mono fun _ _ _=>trivial⟩,hb⟩
theorem uO(_m:OpM x w0)(c:OpC x E w0 ops 52 o listed a w)(hK:HKt x E w0 o listed a w K 52):Oper.wp Tryz.prog o a w K Q:=by
 obtain⟨q1,q2⟩:=aP (aD (bx c.htab c.ho));obtain⟨v1,p1,g1⟩:=c.dep (j:=43) (d:=42) (by decide) rfl;obtain⟨v2,p2,g2⟩:=c.dep (j:=51) (d:=50) (by decide) rfl;have g1:v1=.agg (elA (.mk 0 4 false x.dn []) (Sn)):=g1;subst g1;obtain⟨u2,e2,k2⟩:ti [(.mk 0 4 false x.typ []),(.mk 0 4 false x.value [])] v2 w:=g2;obtain⟨b2,l2,s2⟩:=k2.shape;subst s2;subst e2;exact c.value q2.symm (by decide) (by decide) (fZ q1.symm (bu p1) (bu p2)) ((ar _ _).alloc (ah _) _) (f9 (ga _ w) k2) hK
theorem uP(_m:OpM x w0)(c:OpC x E w0 ops 53 o listed a w)(hK:HKt x E w0 o listed a w K 53):Oper.wp Tryz.prog o a w K Q:=by
 obtain⟨q1,q2⟩:=aP (aD (bx c.htab c.ho));obtain⟨v1,p1,g1⟩:=c.dep (j:=40) (d:=39) (by decide) rfl;have g1:v1=.func (.func 114) #[] #[]:=g1;subst g1;obtain⟨v2,p2,g2⟩:=c.dep (j:=52) (d:=51) (by decide) rfl;have g2:bf (fun _=>True) w v2 [(.mk 0 4 false x.dn []),.mk 0 16 true [] [(.mk 0 4 false x.typ []),(.mk 0 4 false x.value [])]]:=g2;have hs:∃a n c,v2=.slice a n c:=by
  obtain⟨b,n,s⟩:=g2.shape;exact⟨_,_,_,s⟩
 refine c.enter q2.symm (by decide) (by decide) (dg q1.symm (bu p1) (bu p2) (fun args=>cI _ (by decide) args w)) ((gK v2 w hs).mono ?_) hK;rintro e w' ⟨⟨b,rfl,hc⟩,hb⟩;exact⟨⟨_,rfl,b,v2,rfl,hc,g2.below hb⟩,hb⟩
theorem uQ(_m:OpM x w0)(c:OpC x E w0 ops 54 o listed a w)(hK:HKt x E w0 o listed a w K 54):Oper.wp Tryz.prog o a w K Q:=by
 obtain⟨q1,q2⟩:=aP (aD (bx c.htab c.ho));obtain⟨v1,p1,g1⟩:=c.dep (j:=53) (d:=52) (by decide) rfl;exact ee c q1.symm q2.symm (by decide) (by decide) (bu p1) g1 (fun _ _=>trivial) hK
theorem uR(_m:OpM x w0)(c:OpC x E w0 ops 55 o listed a w)(hK:HKt x E w0 o listed a w K 55):Oper.wp Tryz.prog o a w K Q:=by
 obtain⟨q1,q2⟩:=aP (aD (bx c.htab c.ho));exact c.value q2.symm (by decide) (by decide) (rr q1.symm (bu c.hB.1)) (ar _ _) rfl hK
theorem BU(_m:OpM x w0)(c:OpC x E w0 ops 56 o listed a w)(hK:HKt x E w0 o listed a w K 56):Oper.wp Tryz.prog o a w K Q:=by
 obtain⟨q1,q2⟩:=aP (aD (bx c.htab c.ho));obtain⟨v1,p1,g1⟩:=c.dep (j:=55) (d:=53) (by decide) rfl;exact ee c q1.symm q2.symm (by decide) (by decide) (bu p1) g1 (fun _ _=>trivial) hK
theorem uT(_m:OpM x w0)(c:OpC x E w0 ops 57 o listed a w)(hK:HKt x E w0 o listed a w K 57):Oper.wp Tryz.prog o a w K Q:=by
 obtain⟨q1,q2⟩:=aP (aD (bx c.htab c.ho));exact c.value q2.symm (by decide) (by decide) (rr q1.symm (bu c.hB.1)) (ar _ _) rfl hK
theorem uU(_m:OpM x w0)(c:OpC x E w0 ops 58 o listed a w)(hK:HKt x E w0 o listed a w K 58):Oper.wp Tryz.prog o a w K Q:=by
 obtain⟨q1,q2⟩:=aP (aD (bx c.htab c.ho));obtain⟨v1,p1,g1⟩:=c.dep (j:=57) (d:=54) (by decide) rfl;exact ee c q1.symm q2.symm (by decide) (by decide) (bu p1) g1 (fun _ _=>trivial) hK
theorem uV(_m:OpM x w0)(c:OpC x E w0 ops 59 o listed a w)(hK:HKt x E w0 o listed a w K 59):Oper.wp Tryz.prog o a w K Q:=by
 obtain⟨q1,q2⟩:=aP (aD (bx c.htab c.ho));obtain⟨r,hr7,_,hm⟩:=c.hB.2.2.2.2.2.2 (c.came (by decide));have hW:∀p∈opL,(59,p.1)∈opW:=by decide
 exact c.value q2.symm (by decide) (by decide) (gj q1.symm (bu hr7)) (ar _ _) ⟨r,rfl,hm.keep rfl (fun _ _ q=>q) (fun p hp=>(c.came (hW p hp)).symm)⟩ hK
theorem uW(_m:OpM x w0)(c:OpC x E w0 ops 60 o listed a w)(hK:HKt x E w0 o listed a w K 60):Oper.wp Tryz.prog o a w K Q:=by
 obtain⟨q1,q2⟩:=aP (aD (bx c.htab c.ho));obtain⟨v1,p1,g1⟩:=c.dep (j:=59) (d:=55) (by decide) rfl;exact c.value q2.symm (by decide) (by decide) (nO q1.symm (bu p1)) (ar _ _) g1 hK
end
theorem lJ{x:OpX}{E:Value}{w0:World}{ops:Array Oper}{Q:Exit→Act→World→Prop}(m:OpM x w0)(hok:kI .any 74 ops=true)(htab:ops.toList.map (fun o=>(o.op,o.dst))=opT)(hwt:(opW.all fun p=>ma ops p.1 p.2)=true)
  (a:Act) (w:World) (hn:a.tmps.size=74) (h1:a.tmps[1]?=some (.pointer (some ⟨x.M,0,none⟩))) (h2:a.tmps[2]?=some E) (h3:a.tmps[3]?=some (.func (.func 114) #[] #[])) (h4:a.defers=[]) (h5:Below w0.heap.size w0 w)
  (hdone:∀(a:Act) (w:World) (r:Nat),a.tmps.size=74→a.tmps[1]?=some (.pointer (some ⟨x.M,0,none⟩))→a.tmps[2]?=some E→a.tmps[3]?=some (.func (.func 114) #[] #[])→a.tmps[4]?=some (.map (some r))→a.defers=[]→Below w0.heap.size w0 w→ey opL (opV x) (fun _=>true) r w→Q .normal a w):
  wpAny Tryz.prog .any ops Q ops.size (Array.replicate ops.size false) a w:=by
 have hsz:ops.size=61:=by
  have:=congrArg List.length htab
  simpa[opT] using this
 refine pw 74 hok (opG x) (opH x) (opB x E w0) (sn x) ?_ a w hn ⟨h1,h2,h3,h4,h5,fun p _ q=>?_,fun q=>?_⟩ ?_
 ·intro i o listed a w ho hi hls hn hB hg hall K' hK
  have c:OpC x E w0 ops i o listed a w:=⟨ho,hi,hls,hn,hB,hg,hall,hok,htab,hwt⟩;have hlt:i<61:=by rw[←hsz];exact(gl ho)
  clear ho hi hls hn hB hg hall;rcases Nat.lt_succ_iff_lt_or_eq.1 hlt with hlt|rfl;rotate_left
  ·exact uW m c hK
  rcases Nat.lt_succ_iff_lt_or_eq.1 hlt with hlt|rfl;rotate_left
  ·exact uV m c hK
  rcases Nat.lt_succ_iff_lt_or_eq.1 hlt with hlt|rfl;rotate_left
  ·exact uU m c hK
  rcases Nat.lt_succ_iff_lt_or_eq.1 hlt with hlt|rfl;rotate_left
  ·exact uT m c hK
  rcases Nat.lt_succ_iff_lt_or_eq.1 hlt with hlt|rfl;rotate_left
  ·exact BU m c hK
  rcases Nat.lt_succ_iff_lt_or_eq.1 hlt with hlt|rfl;rotate_left
  ·exact uR m c hK
  rcases Nat.lt_succ_iff_lt_or_eq.1 hlt with hlt|rfl;rotate_left
  ·exact uQ m c hK
  rcases Nat.lt_succ_iff_lt_or_eq.1 hlt with hlt|rfl;rotate_left
  ·exact uP m c hK
  rcases Nat.lt_succ_iff_lt_or_eq.1 hlt with hlt|rfl;rotate_left
  ·exact uO m c hK
  rcases Nat.lt_succ_iff_lt_or_eq.1 hlt with hlt|rfl;rotate_left
  ·exact uN m c hK
  rcases Nat.lt_succ_iff_lt_or_eq.1 hlt with hlt|rfl;rotate_left
  ·exact BT m c hK
  rcases Nat.lt_succ_iff_lt_or_eq.1 hlt with hlt|rfl;rotate_left
  ·exact uL m c hK
  rcases Nat.lt_succ_iff_lt_or_eq.1 hlt with hlt|rfl;rotate_left
  ·exact uK m c hK
  rcases Nat.lt_succ_iff_lt_or_eq.1 hlt with hlt|rfl;rotate_left
  ·exact uJ m c hK
  rcases Nat.lt_succ_iff_lt_or_eq.1 hlt with hlt|rfl;rotate_left
  ·exact uI m c hK
  rcases Nat.lt_succ_iff_lt_or_eq.1 hlt with hlt|rfl;rotate_left
  ·exact uH m c hK
  rcases Nat.lt_succ_iff_lt_or_eq.1 hlt with hlt|rfl;rotate_left
  ·exact uG m c hK
  rcases Nat.lt_succ_iff_lt_or_eq.1 hlt with hlt|rfl;rotate_left
  ·exact uE m c hK
  rcases Nat.lt_succ_iff_lt_or_eq.1 hlt with hlt|rfl;rotate_left
  ·exact uD m c hK
  rcases Nat.lt_succ_iff_lt_or_eq.1 hlt with hlt|rfl;rotate_left
  ·exact BS m c hK
  rcases Nat.lt_succ_iff_lt_or_eq.1 hlt with hlt|rfl;rotate_left
  ·exact uB m c hK
  rcases Nat.lt_succ_iff_lt_or_eq.1 hlt with hlt|rfl;rotate_left
  ·exact BR m c hK
  rcases Nat.lt_succ_iff_lt_or_eq.1 hlt with hlt|rfl;rotate_left
  ·exact uz m c hK
  rcases Nat.lt_succ_iff_lt_or_eq.1 hlt with hlt|rfl;rotate_left
  ·exact uy m c hK
  rcases Nat.lt_succ_iff_lt_or_eq.1 hlt with hlt|rfl;rotate_left
  ·exact ux m c hK
  rcases Nat.lt_succ_iff_lt_or_eq.1 hlt with hlt|rfl;rotate_left
  ·exact uw m c hK
  rcases Nat.lt_succ_iff_lt_or_eq.1 hlt with hlt|rfl;rotate_left
  ·exact uv m c hK
  rcases Nat.lt_succ_iff_lt_or_eq.1 hlt with hlt|rfl;rotate_left
  ·exact ut m c hK
  rcases Nat.lt_succ_iff_lt_or_eq.1 hlt with hlt|rfl;rotate_left
  ·exact ur m c hK
  rcases Nat.lt_succ_iff_lt_or_eq.1 hlt with hlt|rfl;rotate_left
  ·exact uq m c hK
  rcases Nat.lt_succ_iff_lt_or_eq.1 hlt with hlt|rfl;rotate_left
  ·exact un m c hK
  rcases Nat.lt_succ_iff_lt_or_eq.1 hlt with hlt|rfl;rotate_left
  ·exact um m c hK
  rcases Nat.lt_succ_iff_lt_or_eq.1 hlt with hlt|rfl;rotate_left
  ·exact ul m c hK
  rcases Nat.lt_succ_iff_lt_or_eq.1 hlt with hlt|rfl;rotate_left
  ·exact uk m c hK
  rcases Nat.lt_succ_iff_lt_or_eq.1 hlt with hlt|rfl;rotate_left
  ·exact uj m c hK
  rcases Nat.lt_succ_iff_lt_or_eq.1 hlt with hlt|rfl;rotate_left
  ·exact ui m c hK
  rcases Nat.lt_succ_iff_lt_or_eq.1 hlt with hlt|rfl;rotate_left
  ·exact uh m c hK
  rcases Nat.lt_succ_iff_lt_or_eq.1 hlt with hlt|rfl;rotate_left
  ·exact ug m c hK
  rcases Nat.lt_succ_iff_lt_or_eq.1 hlt with hlt|rfl;rotate_left
  ·exact ue m c hK
  rcases Nat.lt_succ_iff_lt_or_eq.1 hlt with hlt|rfl;rotate_left
  ·exact ud m c hK
  rcases Nat.lt_succ_iff_lt_or_eq.1 hlt with hlt|rfl;rotate_left
  ·exact BQ m c hK
  rcases Nat.lt_succ_iff_lt_or_eq.1 hlt with hlt|rfl;rotate_left
  ·exact BO m c hK
  rcases Nat.lt_succ_iff_lt_or_eq.1 hlt with hlt|rfl;rotate_left
  ·exact tZ m c hK
  rcases Nat.lt_succ_iff_lt_or_eq.1 hlt with hlt|rfl;rotate_left
  ·exact tY m c hK
  rcases Nat.lt_succ_iff_lt_or_eq.1 hlt with hlt|rfl;rotate_left
  ·exact tX m c hK
  rcases Nat.lt_succ_iff_lt_or_eq.1 hlt with hlt|rfl;rotate_left
  ·exact tW m c hK
  rcases Nat.lt_succ_iff_lt_or_eq.1 hlt with hlt|rfl;rotate_left
  ·exact tV m c hK
  rcases Nat.lt_succ_iff_lt_or_eq.1 hlt with hlt|rfl;rotate_left
  ·exact tU m c hK
  rcases Nat.lt_succ_iff_lt_or_eq.1 hlt with hlt|rfl;rotate_left
  ·exact tT m c hK
  rcases Nat.lt_succ_iff_lt_or_eq.1 hlt with hlt|rfl;rotate_left
  ·exact tS m c hK
  rcases Nat.lt_succ_iff_lt_or_eq.1 hlt with hlt|rfl;rotate_left
  ·exact tR m c hK
  rcases Nat.lt_succ_iff_lt_or_eq.1 hlt with hlt|rfl;rotate_left
  ·exact vE m c hK
  rcases Nat.lt_succ_iff_lt_or_eq.1 hlt with hlt|rfl;rotate_left
  ·exact vD m c hK
  rcases Nat.lt_succ_iff_lt_or_eq.1 hlt with hlt|rfl;rotate_left
  ·exact vC m c hK
  rcases Nat.lt_succ_iff_lt_or_eq.1 hlt with hlt|rfl;rotate_left
  ·exact vB m c hK
  rcases Nat.lt_succ_iff_lt_or_eq.1 hlt with hlt|rfl;rotate_left
  ·exact vA m c hK
  rcases Nat.lt_succ_iff_lt_or_eq.1 hlt with hlt|rfl;rotate_left
  ·exact vy m c hK
  rcases Nat.lt_succ_iff_lt_or_eq.1 hlt with hlt|rfl;rotate_left
  ·exact vx m c hK
  rcases Nat.lt_succ_iff_lt_or_eq.1 hlt with hlt|rfl;rotate_left
  ·exact vw m c hK
  rcases Nat.lt_succ_iff_lt_or_eq.1 hlt with hlt|rfl;rotate_left
  ·exact vv m c hK
  rcases Nat.lt_succ_iff_lt_or_eq.1 hlt with hlt|rfl;rotate_left
  ·exact vu m c hK
  exact absurd hlt (Nat.not_lt_zero _)
 ·by_cases h:p.1<ops.size<;>simp[h] at q
 ·simp[hsz] at q
 ·intro listed a w hall hn hB hg
  obtain⟨q1,q2,q3,q4,q5,_,_⟩:=hB;obtain⟨o',ho',_,hd⟩:=mN htab (i:=60) rfl;obtain⟨r,e,hm⟩:∃r,fp a o'=.map (some r)∧ey opL (opV x) (fun _=>true) r w:=hg 60 o' ho';have h4:=ox hd (by rw[hn];exact((iP hok ho').2.2 _ hd).1);rw[e] at h4;exact hdone a w r hn q1 q2 q3 h4 q4 q5 hm
theorem gB(ls:List (List UInt8))(h:∀s∈ls,s.length≤1000000000):SmL (ls.map cP):=by
 induction ls with
 |nil=>simp only[List.map_nil,SmL]
 |cons s r ih=>
  simp only[List.map_cons,SmL,cP,SmE];exact⟨⟨h s (by simp),by simp,trivial⟩,ih fun x hx=>h x (by simp[hx])⟩
theorem mS(t:List UInt8)(vs:Value)(ls:List (List UInt8))(w:World)(h:ct w vs ls)(hl:ls.length≤100000000)(ht:t.length≤1000000000)(hs:∀s∈ls,s.length≤1000000000):
  Calls Tryz.prog 162 #[.string ⟨t.toArray⟩,vs] w fun e w'=>(∃u,e=.returned (.agg (elA (bI (t,ls)) u))∧bf (fun g=>w.heap.size≤g) w' u (bI (t,ls)).kids)∧Below w.heap.size w w':=by
 have b1:=alb w Ze 45;have t1:=alz w Ze 45;have h1:=h.below b1;obtain⟨HS,HT⟩:=Cg hs ht;clear h hs ht
 go_enter Tryz.func162,Tryz.ntmps162
 go_wp2_with fail
 generalize w.alloc (.cells Ze 45)=w1 at b1 t1 h1⊢;have k1:=bz t w1;refine ag k1 ?_;rintro e w2 ⟨rfl,hb⟩;have h2:=h1.below hb;have t2:=bkk hb t1;have b2:=btt b1 hb;clear k1 hb h1 t1 b1;have k2:=lN vs ls w2 h2 hl
 go_wp2_with fail
 refine ag k2 ?_;rintro e w3 ⟨⟨v3,rfl,o3⟩,hb⟩;have t3:=bkk hb t2;have b3:=btt b2 hb;clear k2 hb h2 t2 b2;have k3:=cH (ls.map cP) v3 w3 o3.kids (gB ls HS.out) (by simp;omega);clear o3
 go_wp2_with fail
 refine ag k3 ?_;rintro e w4 ⟨⟨u4,rfl,hu4⟩,hb⟩;have t4:=bkk hb t3;have b4:=btt b3 hb;clear k3 hb t3 b3;have hsm:SmE (.mk 0 16 true [] (ls.map cP)):=by
  simp only[SmE];exact⟨by simp,by simp;omega,gB ls HS.out⟩
 have k4:=jV (.mk 0 16 true [] (ls.map cP)) u4 0 17 w4 (hu4.mono fun _ _ _=>trivial) hsm;clear hu4 hsm
 go_wp2_with fail
 refine ag k4 ?_;rintro e w5 ⟨⟨u5,rfl,hu5⟩,hb⟩;have t5:=bkk hb t4;have b5:=btt b4 hb;clear k4 hb t4 b4;obtain⟨a5,c5,hsh⟩:=hu5.shape;subst hsh;have hk6:=f9 (e1:=cP t) (e2:=.mk 0 17 true [] (ls.map cP)) (bf.nil _ w5) (hu5.mono fun _ _ _=>trivial);have g6:=alb w5 #[.int .i64 (cP t).cls,.int .i64 (cP t).tag,.bool (cP t).cons,.string ⟨(cP t).bytes.toArray⟩,Sn,.int .i64 (El.mk 0 17 true [] (ls.map cP)).cls,.int .i64 (El.mk 0 17 true [] (ls.map cP)).tag,.bool (El.mk 0 17 true [] (ls.map cP)).cons,.string ⟨(El.mk 0 17 true [] (ls.map cP)).bytes.toArray⟩,.slice a5 (El.mk 0 17 true [] (ls.map cP)).kids.length c5] 45;have t6:=bkk g6 t5;have b6:=btt b5 g6;simp only[elA,cP,El.cls,El.tag,El.cons,El.bytes,El.kids,List.length_map] at hk6 t6 b6⊢;obtain⟨K6,T6,B6⟩:=Ch hk6 t6 b6;clear g6 hk6 t6 b6 t5 b5 hu5
 go_wp2_with fail
 generalize w5.alloc (.cells #[I0,.int .i64 4,Bf,.string ⟨t.toArray⟩,Sn,I0,.int .i64 17,.bool true,Es,.slice a5 ls.length c5] 45)=w6 at K6 T6 B6⊢;have k6:=cH [cP t,.mk 0 17 true [] (ls.map cP)] _ w6 K6.out (by simp only[SmL,cP,SmE];exact⟨⟨HT.out,by simp,trivial⟩,⟨by simp,by simp;omega,gB ls HS.out⟩,trivial⟩) (by simp);refine ag k6 ?_;rintro e w7 ⟨⟨u,rfl,hu⟩,hb⟩;have t7:=(hb.block _ (gl T6.out)).trans T6.out;have b7:=B6.out.trans (hb.mono B6.out.size);have hs6:=(gl T6.out);clear k6 hb K6 T6 B6;obtain⟨E,hE⟩:=nmm (elA (El.mk 0 16 true [] [cP t,.mk 0 17 true [] (ls.map cP)]) u);have hE1:E.all (·.oneCell')=true:=by
  obtain⟨a,c,hsl⟩:=hu.shape;subst hsl;rw[←hE];simp[elA,Value.oneCell']
 have hE2:E.size=5:=by rw[←hE];rfl
 rw[hE];have hsz:=(gl t7);have bF:=bm b7 (g:=w.heap.size) (ah _) E;have tF:=setRow_heap w7 w.heap.size _ E _ _ t7;have uF:bf (fun g=>w.heap.size≤g) (w7.setRow w.heap.size E) u (El.mk 0 16 true [] [cP t,.mk 0 17 true [] (ls.map cP)]).kids:=hu.kept fun g hg hl=>⟨setRow_other w7 w.heap.size g E (by omega),by omega⟩
 obtain⟨HE,HE1,HE2,UF⟩:=Ci hE hE1 hE2 uF;clear hu hE hE1 hE2 uF b7
 go_wp2_with (refine bh rfl 45 (.tmp 4) (.tmp 12) rfl w.heap.size 45 _ E (by rfl) (by rfl) t7 (by rw[HE2.out];rfl) (by rw[HE2.out];rfl) HE1.out ?_)
 refine aH (v:=.agg E) ?_ rfl ⟨⟨u,by rw[←HE.out]<;>rfl,UF.out⟩,bF⟩;have hr:=aJ (P:=Tryz.prog) (w7.setRow w.heap.size E) w.heap.size 45 45 E (0,0) _ tF (show Tryz.prog.underlying 45=_ from Tryz.underlying45) (by rfl) (by rw[HE2.out];rfl)
 simp[results,Tryz.f162]
 exact hr
def vJ(w:World)(al:List (List UInt8×List (List UInt8)))(v i:Value)(wr:World):Prop:=
 ∃k:Nat,i=.int .i64 (k:Int)∧k≤al.length∧bJ w.heap.size wr v ((al.take k).map bI)∧Below w.heap.size w wr
def pD(al:List (List UInt8×List (List UInt8))):Prop:=al.length≤100000000∧∀x∈al,x.1.length≤1000000000∧x.2.length≤100000000∧∀s∈x.2,s.length≤1000000000
theorem oB(x:List UInt8×List (List UInt8))(h:x.1.length≤1000000000∧x.2.length≤100000000∧∀s∈x.2,s.length≤1000000000):SmE (bI x):=by
 simp only[bI,SmE,SmL,cP];exact⟨by simp,by simp,⟨h.1,by simp,trivial⟩,⟨by simp,by simp;omega,gB x.2 h.2.2⟩,trivial⟩
theorem mT(al:List (List UInt8×List (List UInt8)))(h:∀x∈al,x.1.length≤1000000000∧x.2.length≤100000000∧∀s∈x.2,s.length≤1000000000):SmL (al.map bI):=by
 induction al with
 |nil=>simp only[List.map_nil,SmL]
 |cons x r ih=>
  simp only[List.map_cons,SmL];exact⟨oB x (h x (by simp)),ih fun y hy=>h y (by simp[hy])⟩
theorem pE(vs:Value)(al:List (List UInt8×List (List UInt8)))(w:World)(h:eG w vs al)(hok:pD al):
  Calls Tryz.prog 122 #[vs] w fun e w'=>(∃u,e=.returned (.agg (elA (.mk 0 16 true [] (al.map bI)) u))∧bf (fun g=>w.heap.size≤g) w' u (al.map bI))∧Below w.heap.size w w':=by
 obtain⟨hl,hb⟩:=hok;have HB:=hid hb;have b1:=alb w Ze 45;have t1:=alz w Ze 45;have h1:=h.below b1;clear h hb;obtain⟨a,cap,hvs,hcap,hcells⟩:=h1;subst hvs;have HC:=hid hcells;clear hcells
 go_enter Tryz.func122,Tryz.ntmps122
 go_wp2_with fail
 generalize w.alloc (.cells Ze 45)=w1 at b1 t1 HC⊢
 go_loopw [3,5,8] (fun v _ i wr=>vJ w1 al v i wr) (fun _ _ i _=>al.length -(RowKit.intOf i).toNat)
 case atStart=>exact⟨0,rfl,Nat.zero_le _,bJ.nil _ _,ar _ _⟩
 case round=>
  obtain⟨k,rfl,hk,hown,hbe⟩:=hrel;obtain⟨av,cv,hsh⟩:=hown.shape;subst hsh;have hlen:((al.take k).map bI).length=k:=by simp;omega
  rw[hlen] at hown⊢
  by_cases hkl:k<al.length
  ·obtain⟨x,hx⟩:∃x,al[k]?=some x:=⟨_,by simp[hkl];rfl⟩
   obtain⟨g,o,ha,hc⟩:=HC.out (by intro h0;rw[h0] at hkl;simp at hkl);subst ha;obtain⟨p0,u,p1,hu⟩:=hc k x hx;have q0:=(hbe.cell (bj p0)).trans p0;have q1:=(hbe.cell (bj p1)).trans p1;have hu':=hu.below hbe;obtain⟨au,cu,hus,hcu,hru⟩:=id hu';subst hus;clear hru;have i1:decide ((k:Int)<(al.length:Int))=true:=aL (by omega);have i2:(k:Int)<(al.length:Int):=by omega
   have hbx:=HB.out x (List.mem_of_getElem? hx);obtain⟨HO,HX,HU,HBX⟩:=Ci hown hx hu' hbx;have hszr:=hbe.size;have n1:=alb wr #[.string ⟨x.1.toArray⟩,.slice au x.2.length cu] 56;have n2:=alz wr #[.string ⟨x.1.toArray⟩,.slice au x.2.length cu] 56;have kc:=mS x.1 _ x.2 _ (hu'.below n1) hbx.2.1 hbx.1 hbx.2.2;clear hc hx hown hu hu' hbx p0 p1 n2
   go_wp2_with fail
   refine ag kc ?_;rintro e w2 ⟨⟨u2,rfl,hu2⟩,hb2⟩;have hb3:Below wr.heap.size wr w2:=btt n1 hb2;have o2:=HO.out.below hb3;have b2:=hbe.trans (hb3.mono hszr);have hke2:bf (fun g=>(.slice av k cv:Value).ownBlock≠some g) w2 u2 (bI x).kids:=hu2.mono fun g hg _ h=>by
    have:=(HO.out.lt h).2;have:=n1.size
    omega
   obtain⟨a2,c2,hs2⟩:=hu2.shape;subst hs2;clear kc hb2 q0 q1 hu2 n1 hb3;simp only[elA,bI,cP,El.cls,El.tag,El.cons,El.bytes,El.kids,aG,aU] at hke2⊢;have g3:=alb w2 #[I0,.int .i64 16,.bool true,Es,.slice a2 2 c2] 45;have x3:(w2.alloc (.cells #[I0,.int .i64 16,.bool true,Es,.slice a2 2 c2] 45)).heap[w2.heap.size]?=some (.cells (elA (bI x) (.slice a2 2 c2)) 45 (0,0)):=bi _ _ _ rfl;have o3:=o2.below g3;have b3:=btt b2 g3;have k3:=hke2.below g3;have hs3:=b3.size;obtain⟨O3,X3,B3,K3⟩:=Ci o3 x3 b3 k3;clear o2 b2 g3 o3 x3 b3 hke2 k3 hbe
   go_wp2_with (at_builtin;refine bO rfl (.tmp 12) (.tmp 18) rfl w1.heap.size (.slice av k cv) ((al.take k).map bI) rfl O3.out (bI x) a2 2 c2 w2.heap.size rfl X3.out K3.out (by omega) hs3 ?_;rw[hlen];intro a' c' w5 ho5 hg5)
   have hts:(al.take (k+1)).map bI=(al.take k).map bI++[bI x]:=by rw[List.take_add_one,HX.out];simp
   have b5:=B3.out.grown hg5 hs3 (fun b hb=>(O3.out.lt hb).1);exact⟨⟨k+1,by go_num,by omega,by rw[hts];exact ho5,b5⟩,by simp[RowKit.intOf];omega⟩
  ·obtain rfl:k=al.length:=by omega
   rw[List.take_of_length_le (ah _)] at hown;have ks:=cH (al.map bI) _ wr hown.kids (mT al HB.out) (by simp;omega);have t2:=bkk hbe t1;have b2:=btt b1 hbe;obtain⟨KS,T2⟩:=Cg ks t2;clear ks hown t2 t1 hbe b1
   go_wp2_with fail
   refine ag (show Calls _ _ _ _ _ from KS.out) ?_;rintro e w7 ⟨⟨u,rfl,hu⟩,hb⟩;have t7:=(hb.block _ (gl T2.out)).trans T2.out;have b7:=btt b2 hb;have hs6:=(gl T2.out);clear KS hb T2 b2;obtain⟨E,hE⟩:=nmm (elA (El.mk 0 16 true [] (al.map bI)) u);have hE1:E.all (·.oneCell')=true:=by
    obtain⟨a,c,hsl⟩:=hu.shape;subst hsl;rw[←hE];simp[elA,Value.oneCell']
   have hE2:E.size=5:=by rw[←hE];rfl
   rw[hE];have hsz:=(gl t7);have bF:=bm b7 (g:=w.heap.size) (ah _) E;have tF:=setRow_heap w7 w.heap.size _ E _ _ t7;have uF:bf (fun g=>w.heap.size≤g) (w7.setRow w.heap.size E) u (El.mk 0 16 true [] (al.map bI)).kids:=hu.kept fun g hg hl=>⟨setRow_other w7 w.heap.size g E (by omega),by omega⟩
   obtain⟨HE,HE1,HE2,UF⟩:=Ci hE hE1 hE2 uF;clear hu hE hE1 hE2 uF b7
   go_wp2_with (refine bh rfl 45 (.tmp 2) (.tmp 22) rfl w.heap.size 45 _ E (by rfl) (by rfl) t7 (by rw[HE2.out];rfl) (by rw[HE2.out];rfl) HE1.out ?_)
   refine aH (v:=.agg E) ?_ rfl ⟨⟨u,by rw[←HE.out]<;>rfl,UF.out⟩,bF⟩;have hr:=aJ (P:=Tryz.prog) (w7.setRow w.heap.size E) w.heap.size 45 45 E (0,0) _ tF (show Tryz.prog.underlying 45=_ from Tryz.underlying45) (by rfl) (by rw[HE2.out];rfl)
   simp[results,Tryz.f122]
   exact hr
abbrev Mo:=Nat×List UInt8×List (List UInt8)
def kK(w:World)(v:Value)(ml:List Mo):Prop:=
 ∃a cap,v=.slice a ml.length cap∧ml.length≤cap∧(ml≠[]→∃g o,a=some ⟨g,o,none⟩∧∀(j:Nat) (x:Mo),ml[j]?=some x→w.cell? ⟨g,o+j*3,none⟩=some (.int .i64 (x.1:Int))∧w.cell? ⟨g,o+j*3+1,none⟩=some (.string ⟨x.2.1.toArray⟩)∧∃u,w.cell? ⟨g,o+j*3+2,none⟩=some u∧ct w u x.2.2)
theorem kK.below{w w':World}{v:Value}{ml:List Mo}(h:kK w v ml)(hb:Below w.heap.size w w'):kK w' v ml:=by
 obtain⟨a,cap,hv,hc,hr⟩:=h;refine⟨a,cap,hv,hc,fun h0=>?_⟩;obtain⟨g,o,ha,hcell⟩:=hr h0;refine⟨g,o,ha,fun j x hj=>?_⟩;obtain⟨h0,h1,u,h2,h3⟩:=hcell j x hj;exact⟨(hb.cell (bj h0)).trans h0,(hb.cell (bj h1)).trans h1,u,(hb.cell (bj h2)).trans h2,h3.below hb⟩
def du(x:Mo):El:=.mk 0 16 true [] [.mk 0 10 false (sgB x.1) [],bI x.2]
def sG(ml:List Mo):Prop:=ml.length≤100000000∧∀x∈ml,x.1≤2147483647∧x.2.1.length≤1000000000∧x.2.2.length≤100000000∧∀s∈x.2.2,s.length≤1000000000
theorem qY(x:Mo)(h:x.1≤2147483647∧x.2.1.length≤1000000000∧x.2.2.length≤100000000∧∀s∈x.2.2,s.length≤1000000000):SmE (du x):=by
 have:=eg x.1;simp only[du,SmE,SmL];exact⟨by simp,by simp,⟨by omega,by simp,trivial⟩,oB x.2 h.2,trivial⟩
theorem zR(ml:List Mo)(h:∀x∈ml,x.1≤2147483647∧x.2.1.length≤1000000000∧x.2.2.length≤100000000∧∀s∈x.2.2,s.length≤1000000000):SmL (ml.map du):=by
 induction ml with
 |nil=>simp only[List.map_nil,SmL]
 |cons x r ih=>
  simp only[List.map_cons,SmL];exact⟨qY x (h x (by simp)),ih fun y hy=>h y (by simp[hy])⟩
def sH(w:World)(ml:List Mo)(v i:Value)(wr:World):Prop:=
 ∃k:Nat,i=.int .i64 (k:Int)∧k≤ml.length∧bJ w.heap.size wr v ((ml.take k).map du)∧Below w.heap.size w wr
theorem qZ(vs:Value)(ml:List Mo)(w:World)(h:kK w vs ml)(hok:sG ml):
  Calls Tryz.prog 121 #[vs] w fun e w'=>(∃u,e=.returned (.agg (elA (.mk 0 16 true [] (ml.map du)) u))∧bf (fun g=>w.heap.size≤g) w' u (ml.map du))∧Below w.heap.size w w':=by
 obtain⟨hl,hb⟩:=hok;have HB:=hid hb;have b1:=alb w Ze 45;have t1:=alz w Ze 45;have h1:=h.below b1;clear h hb;obtain⟨a,cap,hvs,hcap,hcells⟩:=h1;subst hvs;have HC:=hid hcells;clear hcells
 go_enter Tryz.func121,Tryz.ntmps121
 go_wp2_with fail
 generalize w.alloc (.cells Ze 45)=w1 at b1 t1 HC⊢
 go_loopw [3,5,8] (fun v _ i wr=>sH w1 ml v i wr) (fun _ _ i _=>ml.length -(RowKit.intOf i).toNat)
 case atStart=>exact⟨0,rfl,Nat.zero_le _,bJ.nil _ _,ar _ _⟩
 case round=>
  obtain⟨k,rfl,hk,hown,hbe⟩:=hrel;obtain⟨av,cv,hsh⟩:=hown.shape;subst hsh;have hlen:((ml.take k).map du).length=k:=by simp;omega
  rw[hlen] at hown⊢
  by_cases hkl:k<ml.length
  ·obtain⟨x,hx⟩:∃x,ml[k]?=some x:=⟨_,by simp[hkl];rfl⟩
   obtain⟨g,o,ha,hc⟩:=HC.out (by intro h0;rw[h0] at hkl;simp at hkl);subst ha;obtain⟨p0,p1,u,p2,hu⟩:=hc k x hx;have q0:=(hbe.cell (bj p0)).trans p0;have q1:=(hbe.cell (bj p1)).trans p1;have q2:=(hbe.cell (bj p2)).trans p2;have hu':=hu.below hbe;obtain⟨au,cu,hus,hcu,hru⟩:=id hu';subst hus;clear hru;have i1:decide ((k:Int)<(ml.length:Int))=true:=aL (by omega);have i2:(k:Int)<(ml.length:Int):=by omega
   have hbx:=HB.out x (List.mem_of_getElem? hx);obtain⟨HO,HX,HBX⟩:=Ch hown hx hbx;have hszr:=hbe.size;have n1:=alb wr #[.int .i64 (x.1:Int),.string ⟨x.2.1.toArray⟩,.slice au x.2.2.length cu] 58;have n2:=alz wr #[.int .i64 (x.1:Int),.string ⟨x.2.1.toArray⟩,.slice au x.2.2.length cu] 58;have hu1:=hu'.below n1;obtain⟨N2,HU⟩:=Cg n2 hu1;clear hc hx hown hu hu' hu1 hbx p0 p1 p2 n2
   go_upto_region 5 with fail
   have o1:=HO.out.below n1;generalize wr.alloc (.cells #[.int .i64 (x.1:Int),.string ⟨x.2.1.toArray⟩,.slice au x.2.2.length cu] 58)=w2 at n1 N2 HU o1⊢;have hn1:=n1.size;generalize hF:wr.heap.size=F at N2⊢;have HF:=hid hF;have bb:Below w1.heap.size w1 w2:=hbe.trans (n1.mono hszr);have hol:=fun g (h:(Value.slice av k cv).ownBlock=some g)=>(HO.out.lt h).2
   clear hF;refine aR (S:=fun w'=>w'.heap[F]?=some (.cells #[.int .i64 (x.1:Int),.string ⟨x.2.1.toArray⟩,.slice au x.2.2.length cu] 58 (0,0))) (by kernel_rfl) ?_;have T:w2.drew.heap[F]?=some (.cells #[.int .i64 (x.1:Int),.string ⟨x.2.1.toArray⟩,.slice au x.2.2.length cu] 58 (0,0)):=N2.out;have D:=bb.drew;have U:=HU.out.below (ar w2.heap.size w2).drew;have O2:=o1.below (ar w2.heap.size w2).drew
   change wpAnyH _ _ _ _ _ _ _ _ w2.drew
   have hsd:wr.heap.size≤w2.drew.heap.size:=hn1;clear N2 HU o1 q0 q1 q2 n1 bb hbe;generalize w2.drew=w3 at T D U O2 hsd⊢;refine tn 0 (.slice av k cv) rfl (fun w' hS=>by go_simp) T ?_;refine tp 1 ⟨F,0,none⟩ rfl T ?_;refine tn 2 (.int .i64 (x.1:Int)) rfl (fun w' hS=>by have q:=(ap hS 0).trans (show _=some _ from rfl);go_simp) T ?_;refine tp 4 ⟨F,1,none⟩ rfl T ?_;refine tn 5 (.string ⟨x.2.1.toArray⟩) rfl (fun w' hS=>by have q:=(ap hS 1).trans (show _=some _ from rfl);go_simp) T ?_;refine tp 6 ⟨F,2,none⟩ rfl T ?_;refine tn 7 (.slice au x.2.2.length cu) rfl (fun w' hS=>by have q:=(ap hS 2).trans (show _=some _ from rfl);go_simp) T ?_;have kc:=eO 10 x.1 HBX.out.1 w3;refine ao 3 rfl (fun K hK=>?_);go_simp;go_wp2_with fail
   refine ag kc ?_;rintro e w4 ⟨rfl,hb⟩;have T4:=bkk hb T;have D4:=btt D hb;have U4:=U.below hb;have O4:=O2.below hb;have hsd4:=Nat.le_trans hsd hb.size;clear kc hb T D U O2 hsd;refine hK _ _ T4 ?_;clear hK K
   have kc:=mS x.2.1 _ x.2.2 w4 U4 HBX.out.2.2.1 HBX.out.2.1 HBX.out.2.2.2;refine ao 8 rfl (fun K hK=>?_);go_simp;go_wp2_with fail
   refine ag kc ?_;rintro e w5 ⟨⟨u5,rfl,hu5⟩,hb⟩;have T5:=bkk hb T4;have D5:=btt D4 hb;have O5:=O4.below hb;have hsd5:=Nat.le_trans hsd4 hb.size;clear kc hb T4 D4 U4 O4;refine hK _ _ T5 ?_;clear hK K
   obtain⟨a5,c5,rfl⟩:=hu5.shape;have hk6:=f9 (e1:=.mk 0 10 false (sgB x.1) []) (e2:=bI x.2) (bf.nil _ w5) (hu5.mono fun _ _ _=>trivial);refine ao 9 rfl (fun K hK=>?_);refine jS (fZ (e1:=.mk 0 10 false (sgB x.1) []) (e2:=bI x.2) rfl rfl rfl) ?_;have g6:=alb w5 #[.int .i64 (El.mk 0 10 false (sgB x.1) []).cls,.int .i64 (El.mk 0 10 false (sgB x.1) []).tag,.bool (El.mk 0 10 false (sgB x.1) []).cons,.string ⟨(El.mk 0 10 false (sgB x.1) []).bytes.toArray⟩,Sn,.int .i64 (bI x.2).cls,.int .i64 (bI x.2).tag,.bool (bI x.2).cons,.string ⟨(bI x.2).bytes.toArray⟩,.slice a5 (bI x.2).kids.length c5] 45;have T6:=bkk g6 T5;have D6:=btt D5 g6;have O6:=O5.below g6;have hsd6:=Nat.le_trans hsd5 g6.size;refine hK _ _ T6 ?_;clear hK K
   generalize w5.alloc (.cells #[.int .i64 (El.mk 0 10 false (sgB x.1) []).cls,.int .i64 (El.mk 0 10 false (sgB x.1) []).tag,.bool (El.mk 0 10 false (sgB x.1) []).cons,.string ⟨(El.mk 0 10 false (sgB x.1) []).bytes.toArray⟩,Sn,.int .i64 (bI x.2).cls,.int .i64 (bI x.2).tag,.bool (bI x.2).cons,.string ⟨(bI x.2).bytes.toArray⟩,.slice a5 (bI x.2).kids.length c5] 45)=w6 at hk6 T6 D6 O6 hsd6⊢;clear g6 T5 D5 O5 hu5;have kc:=cH [.mk 0 10 false (sgB x.1) [],bI x.2] _ w6 hk6 (by have:=qY x HBX.out;simp only[du,SmE] at this;exact this.2.2) (by simp);refine ao 10 rfl (fun K hK=>?_);go_simp;go_wp2_with fail
   refine ag kc ?_;rintro e w7 ⟨⟨u7,rfl,hu7⟩,hb⟩;have T7:=bkk hb T6;have D7:=btt D6 hb;have O7:=O6.below hb;have hke:bf (fun g=>(.slice av k cv:Value).ownBlock≠some g) w7 u7 (du x).kids:=hu7.mono fun g hg _ h=>by
    have:=hol g h
    omega
   clear kc hb T6 D6 O6 hk6 hu7;refine hK _ _ T7 ?_;clear hK K
   have hs7:∃a c,u7=.slice a 2 c:=hke.shape;obtain⟨a7,c7,rfl⟩:=hs7;have g8:=alb w7 #[I0,.int .i64 16,.bool true,Es,.slice a7 2 c7] 45;have x8:(w7.alloc (.cells #[I0,.int .i64 16,.bool true,Es,.slice a7 2 c7] 45)).heap[w7.heap.size]?=some (.cells (elA (du x) (.slice a7 2 c7)) 45 (0,0)):=bi _ _ _ rfl;have T8:=bkk g8 T7;have D8:=btt D7 g8;have O8:=O7.below g8;have K8:=hke.below g8;have hs8:=D8.size;simp only[elA,El.cls,El.tag,El.cons,El.bytes,aG,aU];refine ao 11 rfl (kks T8 ?_);generalize hw8:w7.alloc (.cells #[I0,.int .i64 16,.bool true,Es,.slice a7 2 c7] 45)=w8 at g8 x8 T8 D8 O8 K8 hs8⊢;clear hw8 g8 T7 D7 O7 hke;refine ao 12 rfl (fun K hK=>?_);refine jt (.tmp 12) (.tmp 23) rfl w1.heap.size (.slice av k cv) ((ml.take k).map du) rfl O8 (du x) a7 2 c7 w7.heap.size rfl x8 K8 (by omega) hs8 ?_;rw[hlen];intro a' c' w9 ho9 hg9;have T9:w9.heap[F]?=some (.cells #[.int .i64 (x.1:Int),.string ⟨x.2.1.toArray⟩,.slice au x.2.2.length cu] 58 (0,0)):=(hg9.block F (gl T8) (fun h=>by have:=hol F h.symm;have:=HF.out;omega)).trans T8;have b9:=D8.grown hg9 hs8 (fun b hb=>(O8.lt hb).1);refine hK _ _ T9 ?_;clear hK K
   have hts:(ml.take (k+1)).map du=(ml.take k).map du++[du x]:=by rw[List.take_add_one,HX.out];simp
   have REST:sH w1 ml (.slice a' (k+1) c') (.int .i64 ((k+1:Nat):Int)) w9:=⟨k+1,rfl,by omega,by rw[hts];exact ho9,b9⟩;clear x8 K8 hs8 T8 D8 O8 ho9 hg9 b9 hts hol;refine ao 13 rfl (kks T9 ?_);refine bE (by kernel_rfl) ?_ _;simp only[Exit.inBlock,Exit.then];refine‹∀(a:Act) (w:World),Code.wp _ _ _ a w→_› _ _ ?_
   go_wp2_with fail
   exact⟨(show((k:Int)+1)=((k+1:Nat):Int) by omega)▸REST,by simp[RowKit.intOf];omega⟩
  ·obtain rfl:k=ml.length:=by omega
   rw[List.take_of_length_le (ah _)] at hown;have ks:=cH (ml.map du) _ wr hown.kids (zR ml HB.out) (by simp;omega);have t2:=bkk hbe t1;have b2:=btt b1 hbe;obtain⟨KS,T2⟩:=Cg ks t2;clear ks hown t2 t1 hbe b1
   go_wp2_with fail
   refine ag (show Calls _ _ _ _ _ from KS.out) ?_;rintro e w7 ⟨⟨u,rfl,hu⟩,hb⟩;have t7:=(hb.block _ (gl T2.out)).trans T2.out;have b7:=btt b2 hb;have hs6:=(gl T2.out);clear KS hb T2 b2;obtain⟨E,hE⟩:=nmm (elA (El.mk 0 16 true [] (ml.map du)) u);have hE1:E.all (·.oneCell')=true:=by
    obtain⟨a,c,hsl⟩:=hu.shape;subst hsl;rw[←hE];simp[elA,Value.oneCell']
   have hE2:E.size=5:=by rw[←hE];rfl
   rw[hE];have hsz:=(gl t7);have bF:=bm b7 (g:=w.heap.size) (ah _) E;have tF:=setRow_heap w7 w.heap.size _ E _ _ t7;have uF:bf (fun g=>w.heap.size≤g) (w7.setRow w.heap.size E) u (El.mk 0 16 true [] (ml.map du)).kids:=hu.kept fun g hg hl=>⟨setRow_other w7 w.heap.size g E (by omega),by omega⟩
   obtain⟨HE,HE1,HE2,UF⟩:=Ci hE hE1 hE2 uF;clear hu hE hE1 hE2 uF b7
   go_wp2_with (refine bh rfl 45 (.tmp 2) (.tmp 27) rfl w.heap.size 45 _ E (by rfl) (by rfl) t7 (by rw[HE2.out];rfl) (by rw[HE2.out];rfl) HE1.out ?_)
   refine aH (v:=.agg E) ?_ rfl ⟨⟨u,by rw[←HE.out]<;>rfl,UF.out⟩,bF⟩;have hr:=aJ (P:=Tryz.prog) (w7.setRow w.heap.size E) w.heap.size 45 45 E (0,0) _ tF (show Tryz.prog.underlying 45=_ from Tryz.underlying45) (by rfl) (by rw[HE2.out];rfl)
   simp[results,Tryz.f121]
   exact hr
theorem pz(t:Array Value):t.toList=(List.range t.size).map fun i=>t.getD i undef:=by
 refine List.ext_getElem? fun i=>?_
 rcases Nat.lt_or_ge i t.size with h|h
 ·simp[h]
 ·simp[h]
theorem oy{t:Array Value}(h:t.size=74):∃x0 x1 x2 x3 x4 x5 x6 x7 x8 x9 x10 x11 x12 x13 x14 x15 x16 x17 x18 x19 x20 x21 x22 x23 x24 x25 x26 x27 x28 x29 x30 x31 x32 x33 x34 x35 x36 x37 x38 x39 x40 x41 x42 x43 x44 x45 x46 x47 x48 x49 x50 x51 x52 x53 x54 x55 x56 x57 x58 x59 x60 x61 x62 x63 x64 x65 x66 x67 x68 x69 x70 x71 x72 x73,t=#[x0,x1,x2,x3,x4,x5,x6,x7,x8,x9,x10,x11,x12,x13,x14,x15,x16,x17,x18,x19,x20,x21,x22,x23,x24,x25,x26,x27,x28,x29,x30,x31,x32,x33,x34,x35,x36,x37,x38,x39,x40,x41,x42,x43,x44,x45,x46,x47,x48,x49,x50,x51,x52,x53,x54,x55,x56,x57,x58,x59,x60,x61,x62,x63,x64,x65,x66,x67,x68,x69,x70,x71,x72,x73]:=by
 have q:=pz t;rw[h] at q;exact⟨_,_,_,_,_,_,_,_,_,_,_,_,_,_,_,_,_,_,_,_,_,_,_,_,_,_,_,_,_,_,_,_,_,_,_,_,_,_,_,_,_,_,_,_,_,_,_,_,_,_,_,_,_,_,_,_,_,_,_,_,_,_,_,_,_,_,_,_,_,_,_,_,_,_,by rw[←Array.toArray_toList (xs:=t),q];rfl⟩
theorem dG(x:OpX)(A:Array Value)(w:World)(i:Nat)(k:Int)(hL:(i,k)∈opL)(el:El)(hs:SmE el)(hx:x.M=w.heap.size)
  (h1:A[1]?=some (.int .i64 k)) (h2:A[2]?=some (.string ⟨x.dn.toArray⟩)) (h13:A[13]?=some x.vm) (h14:A[14]?=some x.va) (h19:A[19]?=some (.string ⟨x.typ.toArray⟩)) (h20:A[20]?=some (.string ⟨x.value.toArray⟩))
  (styp:x.typ.length≤1000000000) (sval:x.value.length≤1000000000)
  (hmods:∀w',Below w.heap.size w w'→Calls Tryz.prog 121 #[x.vm] w' fun e w''=>(∃v,e=.returned v∧ti x.lm v w'')∧Below w'.heap.size w' w'')
  (hattrs:∀w',Below w.heap.size w w'→Calls Tryz.prog 122 #[x.va] w' fun e w''=>(∃v,e=.returned v∧ti x.la v w'')∧Below w'.heap.size w' w'')
  (hc:∀v w',opV x i v w'→Below w.heap.size w w'→w'.heap[w.heap.size]?=some (.cells A 28 (0,0))→∃fn cap,v=.func (.func fn) #[] cap∧(∀args W,(callFunc fn args).run Tryz.prog W=.ok (.enter fn args) W)∧
   Calls Tryz.prog fn cap w' fun e w''=>(∃u,e=.returned (.agg (elA el u))∧bf (fun _=>True) w'' u el.kids)∧Below w'.heap.size w' w''):
  Calls Tryz.prog 73 #[.agg A] w fun e w'=>(∃u,e=.returned (.agg (elA (.mk 1 k el.cons el.bytes el.kids) u))∧bf (fun g=>w.heap.size≤g) w' u el.kids)∧Below w.heap.size w w':=by
 obtain⟨PR,hPR⟩:∃PR:Ending→World→Prop,PR=fun e w'=>(∃u,e=.returned (.agg (elA (.mk 1 k el.cons el.bytes el.kids) u))∧bf (fun g=>w.heap.size≤g) w' u el.kids)∧Below w.heap.size w w':=⟨_,rfl⟩
 rw[←hPR];have HPR:=hid hPR;clear hPR;have b1:Below w.heap.size w ((w.alloc (.cells A 28)).alloc (.cells Ze 45)):=((ar _ _).alloc (ah _) _).alloc (by simp) _;have m1:((w.alloc (.cells A 28)).alloc (.cells Ze 45)).heap[w.heap.size]?=some (.cells A 28 (0,0)):=(alloc_old _ _ _ (by simp)).trans (bi _ _ _ rfl);have t1:((w.alloc (.cells A 28)).alloc (.cells Ze 45)).heap[w.heap.size+1]?=some (.cells Ze 45 (0,0)):=bi _ _ _ (by simp);have z1:((w.alloc (.cells A 28)).alloc (.cells Ze 45)).heap.size=w.heap.size+2:=by simp
 have Z1:=hid z1;clear z1;have G1:=hid h1;clear h1;have HC:=hid hc;clear hc;have M:OpM x ((w.alloc (.cells A 28)).alloc (.cells Ze 45)):=by
  have hcell:∀j,((w.alloc (.cells A 28)).alloc (.cells Ze 45)).cell? ⟨x.M,j,none⟩=A[j]?:=fun j=>by rw[hx];exact ap m1 j
  refine⟨(hcell 2).trans h2,(hcell 13).trans h13,(hcell 14).trans h14,(hcell 19).trans h19,(hcell 20).trans h20,fun w' hb=>hmods w' ((btt b1 hb)),fun w' hb=>hattrs w' ((btt b1 hb)),styp,sval⟩
 clear h2 h13 h14 h19 h20 styp sval hmods hattrs
 go_enter Tryz.func73,Tryz.ntmps73
 go_upto_region 1 with fail
 generalize(w.alloc (.cells A 28)).alloc (.cells Ze 45)=w1 at b1 m1 t1 Z1 M⊢
 go_upto_region 2 with fail
 refine wp_region_any (by kernel_rfl) ?_;refine lJ (x:=x) (E:=.pointer (some ⟨w.heap.size+1,0,none⟩)) (w0:=w1) M (by kernel_rfl) (by kernel_rfl) (by kernel_rfl) _ _ rfl (by rw[hx];rfl) rfl rfl rfl (show Below w1.heap.size w1 w1.drew from(ar _ _).drew) ?_;intro a2 w2 r hn s1 s2 s3 s4 hd b2 hm;obtain⟨tmps,defers⟩:=a2;simp only at hn s1 s2 s3 s4 hd;subst hd;obtain⟨x0,x1,x2,x3,x4,x5,x6,x7,x8,x9,x10,x11,x12,x13,x14,x15,x16,x17,x18,x19,x20,x21,x22,x23,x24,x25,x26,x27,x28,x29,x30,x31,x32,x33,x34,x35,x36,x37,x38,x39,x40,x41,x42,x43,x44,x45,x46,x47,x48,x49,x50,x51,x52,x53,x54,x55,x56,x57,x58,x59,x60,x61,x62,x63,x64,x65,x66,x67,x68,x69,x70,x71,x72,x73,rfl⟩:=oy hn;clear hn;simp only[List.getElem?_toArray,List.getElem?_cons_succ,List.getElem?_cons_zero,Option.some.injEq] at s1 s2 s3 s4;subst s1 s2 s3 s4;clear M;rw[hx];have m2:=bkk b2 m1;have t2:=bkk b2 t1;have b3:=btt b1 b2;clear m1 t1 b1 b2;have q1:w2.cell? ⟨w.heap.size,1,none⟩=some (.int .i64 k):=(ap m2 1).trans G1.out;obtain⟨es,c,hb,hq1,hq2⟩:=hm;have hz:(zeroValue 127).run Tryz.prog w2=.ok .nilFunc w2:=by go_simp
 have hlk:=jT (P:=Tryz.prog) w2 148 3 127 r c es k .nilFunc (by kernel_rfl) (by kernel_rfl) hb (fun z hz=>by obtain⟨p,_,_,e,_⟩:=hq1 z hz;exact⟨_,e⟩) hz;rcases hlk with⟨z,hz1,hz2,hrun⟩|⟨hno,_⟩;rotate_left
 ·exfalso
  obtain⟨z,hz1,hz2⟩:=hq2 (i,k) hL rfl;exact hno z hz1 hz2
 obtain⟨p,hp,_,hp2,hv⟩:=hq1 z hz1;rw[hz2] at hp2
 injection hp2 with _ hp2
 have hpi:p.1=i:=by
  have:∀p∈opL,∀q∈opL,p.2=q.2→p.1=q.1:=by decide
  exact this p hp (i,k) hL hp2.symm
 rw[hpi] at hv;have HV:=hid hv;obtain⟨v,hvz⟩:=nmm z.val;rw[hvz] at hrun HV;clear hb hq1 hq2 hz hz1 hz2 hp hp2 hpi hvz hv hL;clear es c;simp only[Exit.then];refine‹∀(a:Act) (w:World),Code.wp _ _ _ a w→_› _ _ ?_
 go_upto_region 6 with fail
 clear q1 hrun;obtain⟨fn,cap,rfl,hcf,hcall⟩:=HC.out v w2.drew (jn x i v _ _ (Hk.below (ar _ _).drew) HV.out) b3.drew m2;clear HV HC;refine aR (S:=fun w'=>w'.heap[w.heap.size]?=some (.cells A 28 (0,0))) (by kernel_rfl) ?_;have T:w2.drew.heap[w.heap.size]?=some (.cells A 28 (0,0)):=m2;have D:Below w.heap.size w w2.drew:=b3.drew;have R:w2.drew.heap[w.heap.size+1]?=some (.cells Ze 45 (0,0)):=t2
 change wpAnyH _ _ _ _ _ _ _ _ w2.drew
 clear m2 t2 b3;generalize w2.drew=w5 at T D R hcall⊢;obtain⟨HS,HX⟩:=Cg hs hx;clear hs hx;refine tn 0 (.func (.func fn) #[] cap) rfl (fun w' hS=>by go_simp) T ?_;refine tp 2 ⟨w.heap.size,1,none⟩ rfl T ?_;refine tn 3 (.int .i64 k) rfl (fun w' hS=>by have q:=(ap hS 1).trans G1.out;go_simp) T ?_;refine ao 1 rfl (fun K hK=>?_);go_simp;go_wp2_with fail
 refine ag hcall ?_;rintro e w6 ⟨⟨u,rfl,hu⟩,hb6⟩;have T6:=bkk hb6 T;have R6:=bkk hb6 R;have D6:=btt D hb6;clear hcall hcf hb6 T R D;refine hK _ _ T6 ?_;clear hK K
 have kc:=jV el u 1 k w6 hu HS.out;have hs6:=(gl R6);refine ao 4 rfl (fun K hK=>?_);go_simp;go_wp2_with fail
 refine ag kc ?_;rintro e w7 ⟨⟨u7,rfl,hu7⟩,hb7⟩;have T7:=bkk hb7 T6;have R7:=bkk hb7 R6;have D7:=btt D6 hb7;clear kc hb7 T6 R6 D6 hu;refine hK _ _ T7 ?_;clear hK K
 obtain⟨E,hE⟩:=nmm (elA (.mk 1 k el.cons el.bytes el.kids) u7);have hE1:E.all (·.oneCell')=true:=by
  obtain⟨a,c,hsl⟩:=hu7.shape;subst hsl;rw[←hE];simp[elA,Value.oneCell']
 have hE2:E.size=5:=by rw[←hE];rfl
 rw[hE];obtain⟨HE,HE1,HE2⟩:=Ch hE hE1 hE2;clear hE hE1 hE2;have TF:(w7.setRow (w.heap.size+1) E).heap[w.heap.size]?=some (.cells A 28 (0,0)):=(setRow_other w7 (w.heap.size+1) w.heap.size E (by omega)).trans T7;have bF:=bm D7 (g:=w.heap.size+1) (by omega) E;have tF:=setRow_heap w7 (w.heap.size+1) _ E _ _ R7;have uF:bf (fun g=>w.heap.size≤g) (w7.setRow (w.heap.size+1) E) u7 el.kids:=hu7.kept fun g hg hl=>⟨setRow_other w7 (w.heap.size+1) g E (by omega),by omega⟩
 refine ao 5 rfl (fun K hK=>?_);refine db 45 (.tmp 2) (.tmp 73) rfl (w.heap.size+1) 45 _ E (by rfl) (by rfl) R7 (by rw[HE2.out];rfl) (by rw[HE2.out];rfl) HE1.out ?_;refine hK _ _ TF ?_;clear hK K
 refine bE (by kernel_rfl) ?_ _;simp only[Exit.then];refine‹∀(a:Act) (w:World),Code.wp _ _ _ a w→_› _ _ ?_;clear T7 R7 D7 TF hu7;generalize w7.setRow (w.heap.size+1) E=wF at bF tF uF⊢;have UF:=hid uF;clear uF;go_simp
 go_wp2_with fail
 refine aH (v:=.agg E) ?_ rfl (by rw[HPR.out];exact⟨⟨u7,by rw[HE.out],UF.out⟩,bF⟩);have hr:=aJ (P:=Tryz.prog) wF (w.heap.size+1) 45 45 E (0,0) _ tF (show Tryz.prog.underlying 45=_ from Tryz.underlying45) (by rfl) (by rw[HE2.out];rfl)
 simp[results,Tryz.f73]
 exact hr
def blB(b:Bool):List UInt8:=if b then[255] else[0]
theorem ra(t:Int)(w:World):
  Calls Tryz.prog 75 #[.int .i64 t,.bool true] w fun e w'=>(∃u,e=.returned (.agg (elA (El.mk 0 t false [255] []) u))∧bf (fun g=>w.heap.size≤g) w' u [])∧Below w.heap.size w w':=by
 have b1:=alb w Ze 45;have t1:=alz w Ze 45;have ks:=im t [255] (w.alloc (.cells Ze 45))
 go_enter Tryz.func75,Tryz.ntmps75
 go_wp2_with fail
 generalize w.alloc (.cells Ze 45)=w1 at b1 t1 ks⊢;refine ag ks ?_;rintro e w2 ⟨rfl,hb2⟩;have t2:=bkk hb2 t1;have b2:=btt b1 hb2;clear ks t1 b1 hb2;generalize hu0:Value.slice none 0 0=u;have hu:bf (fun g=>w.heap.size+1≤g) w2 u []:=hu0▸bf.nil _ _;clear hu0;obtain⟨E,hE⟩:=nmm (elA (El.mk 0 t false [255] []) u);have hE1:E.all (·.oneCell')=true:=by
  obtain⟨a,c,hsl⟩:=hu.shape;subst hsl;rw[←hE];simp[elA,Value.oneCell']
 have hE2:E.size=5:=by rw[←hE];rfl
 rw[hE];have hsz:=(gl t2);have bF:=bm b2 (g:=w.heap.size) (ah _) E;have tF:=setRow_heap w2 w.heap.size _ E _ _ t2;have uF:bf (fun g=>w.heap.size≤g) (w2.setRow w.heap.size E) u (El.mk 0 t false [255] []).kids:=hu.kept fun g hg hl=>⟨setRow_other w2 w.heap.size g E (by omega),by omega⟩
 obtain⟨HE,HE1,HE2,UF⟩:=Ci hE hE1 hE2 uF;clear hu hE hE1 hE2 uF b2
 go_wp2_with (refine bh rfl 45 (.tmp 4) (.tmp 7) rfl w.heap.size 45 _ E (by rfl) (by rfl) t2 (by rw[HE2.out];rfl) (by rw[HE2.out];rfl) HE1.out ?_)
 refine aH (v:=.agg E) ?_ rfl ⟨⟨u,by rw[←HE.out]<;>rfl,UF.out⟩,bF⟩;have hr:=aJ (P:=Tryz.prog) (w2.setRow w.heap.size E) w.heap.size 45 45 E (0,0) _ tF (show Tryz.prog.underlying 45=_ from Tryz.underlying45) (by rfl) (by rw[HE2.out];rfl)
 simp[results,Tryz.f75]
 exact hr
theorem pF(t:Int)(w:World):
  Calls Tryz.prog 75 #[.int .i64 t,Bf] w fun e w'=>(∃u,e=.returned (.agg (elA (El.mk 0 t false [0] []) u))∧bf (fun g=>w.heap.size≤g) w' u [])∧Below w.heap.size w w':=by
 have b1:=alb w Ze 45;have t1:=alz w Ze 45;have ks:=im t [0] (w.alloc (.cells Ze 45))
 go_enter Tryz.func75,Tryz.ntmps75
 go_wp2_with fail
 generalize w.alloc (.cells Ze 45)=w1 at b1 t1 ks⊢;refine ag ks ?_;rintro e w2 ⟨rfl,hb2⟩;have t2:=bkk hb2 t1;have b2:=btt b1 hb2;clear ks t1 b1 hb2;generalize hu0:Value.slice none 0 0=u;have hu:bf (fun g=>w.heap.size+1≤g) w2 u []:=hu0▸bf.nil _ _;clear hu0;obtain⟨E,hE⟩:=nmm (elA (El.mk 0 t false [0] []) u);have hE1:E.all (·.oneCell')=true:=by
  obtain⟨a,c,hsl⟩:=hu.shape;subst hsl;rw[←hE];simp[elA,Value.oneCell']
 have hE2:E.size=5:=by rw[←hE];rfl
 rw[hE];have hsz:=(gl t2);have bF:=bm b2 (g:=w.heap.size) (ah _) E;have tF:=setRow_heap w2 w.heap.size _ E _ _ t2;have uF:bf (fun g=>w.heap.size≤g) (w2.setRow w.heap.size E) u (El.mk 0 t false [0] []).kids:=hu.kept fun g hg hl=>⟨setRow_other w2 w.heap.size g E (by omega),by omega⟩
 obtain⟨HE,HE1,HE2,UF⟩:=Ci hE hE1 hE2 uF;clear hu hE hE1 hE2 uF b2
 go_wp2_with (refine bh rfl 45 (.tmp 4) (.tmp 9) rfl w.heap.size 45 _ E (by rfl) (by rfl) t2 (by rw[HE2.out];rfl) (by rw[HE2.out];rfl) HE1.out ?_)
 refine aH (v:=.agg E) ?_ rfl ⟨⟨u,by rw[←HE.out]<;>rfl,UF.out⟩,bF⟩;have hr:=aJ (P:=Tryz.prog) (w2.setRow w.heap.size E) w.heap.size 45 45 E (0,0) _ tF (show Tryz.prog.underlying 45=_ from Tryz.underlying45) (by rfl) (by rw[HE2.out];rfl)
 simp[results,Tryz.f75]
 exact hr
theorem iS(t:Int)(b:Bool)(w:World):Calls Tryz.prog 75 #[.int .i64 t,.bool b] w fun e w'=>(∃u,e=.returned (.agg (elA (.mk 0 t false (blB b) []) u))∧bf (fun g=>w.heap.size≤g) w' u [])∧Below w.heap.size w w':=by
 cases b
 ·exact pF t w
 ·exact ra t w
theorem mV(w:World):
  Calls Tryz.prog 117 #[] w fun e w'=>(∃u,e=.returned (.agg (elA (El.mk 0 4 false [] []) u))∧bf (fun g=>w.heap.size≤g) w' u [])∧Below w.heap.size w w':=by
 have b1:=alb w Ze 45;have t1:=alz w Ze 45;have ks:=bz [] (w.alloc (.cells Ze 45))
 go_enter Tryz.func117,Tryz.ntmps117
 go_wp2_with fail
 generalize w.alloc (.cells Ze 45)=w1 at b1 t1 ks⊢;refine ag ks ?_;rintro e w2 ⟨rfl,hb2⟩;have t2:=bkk hb2 t1;have b2:=btt b1 hb2;clear ks t1 b1 hb2;generalize hu0:Value.slice none 0 0=u;have hu:bf (fun g=>w.heap.size+1≤g) w2 u []:=hu0▸bf.nil _ _;clear hu0;obtain⟨E,hE⟩:=nmm (elA (El.mk 0 4 false [] []) u);have hE1:E.all (·.oneCell')=true:=by
  obtain⟨a,c,hsl⟩:=hu.shape;subst hsl;rw[←hE];simp[elA,Value.oneCell']
 have hE2:E.size=5:=by rw[←hE];rfl
 rw[hE];have hsz:=(gl t2);have bF:=bm b2 (g:=w.heap.size) (ah _) E;have tF:=setRow_heap w2 w.heap.size _ E _ _ t2;have uF:bf (fun g=>w.heap.size≤g) (w2.setRow w.heap.size E) u (El.mk 0 4 false [] []).kids:=hu.kept fun g hg hl=>⟨setRow_other w2 w.heap.size g E (by omega),by omega⟩
 obtain⟨HE,HE1,HE2,UF⟩:=Ci hE hE1 hE2 uF;clear hu hE hE1 hE2 uF b2
 go_wp2_with (refine bh rfl 45 (.tmp 0) (.tmp 1) rfl w.heap.size 45 _ E (by rfl) (by rfl) t2 (by rw[HE2.out];rfl) (by rw[HE2.out];rfl) HE1.out ?_)
 refine aH (v:=.agg E) ?_ rfl ⟨⟨u,by rw[←HE.out]<;>rfl,UF.out⟩,bF⟩;have hr:=aJ (P:=Tryz.prog) (w2.setRow w.heap.size E) w.heap.size 45 45 E (0,0) _ tF (show Tryz.prog.underlying 45=_ from Tryz.underlying45) (by rfl) (by rw[HE2.out];rfl)
 simp[results,Tryz.f117]
 exact hr
theorem lW(b n:Nat)(A:Array Value)(w:World)(hb:w.heap[b]?=some (.cells A 28 (0,0)))(h23:A[23]?=some (.int .i64 (n:Int)))(hn:n≤2147483647):
  Calls Tryz.prog 125 #[.pointer (some ⟨b,0,none⟩)] w fun e w'=>(∃u,e=.returned (.agg (elA (El.mk 0 2 false (sgB n) []) u))∧bf (fun g=>w.heap.size≤g) w' u [])∧Below w.heap.size w w':=by
 have b1:=alb w Ze 45;have t1:=alz w Ze 45;have m1:=bkk b1 hb;have q2:=(ap m1 23).trans h23;have ks:=eO 2 n hn (w.alloc (.cells Ze 45));clear hb h23 m1
 go_enter Tryz.func125,Tryz.ntmps125
 go_wp2_with fail
 clear q2;generalize w.alloc (.cells Ze 45)=w1 at b1 t1 ks⊢;refine ag ks ?_;rintro e w2 ⟨rfl,hb2⟩;have t2:=bkk hb2 t1;have b2:=btt b1 hb2;clear ks t1 b1 hb2;generalize hu0:Value.slice none 0 0=u;have hu:bf (fun g=>w.heap.size+1≤g) w2 u []:=hu0▸bf.nil _ _;clear hu0;obtain⟨E,hE⟩:=nmm (elA (El.mk 0 2 false (sgB n) []) u);have hE1:E.all (·.oneCell')=true:=by
  obtain⟨a,c,hsl⟩:=hu.shape;subst hsl;rw[←hE];simp[elA,Value.oneCell']
 have hE2:E.size=5:=by rw[←hE];rfl
 rw[hE];have hsz:=(gl t2);have bF:=bm b2 (g:=w.heap.size) (ah _) E;have tF:=setRow_heap w2 w.heap.size _ E _ _ t2;have uF:bf (fun g=>w.heap.size≤g) (w2.setRow w.heap.size E) u (El.mk 0 2 false (sgB n) []).kids:=hu.kept fun g hg hl=>⟨setRow_other w2 w.heap.size g E (by omega),by omega⟩
 obtain⟨HE,HE1,HE2,UF⟩:=Ci hE hE1 hE2 uF;clear hu hE hE1 hE2 uF b2
 go_wp2_with (refine bh rfl 45 (.tmp 1) (.tmp 4) rfl w.heap.size 45 _ E (by rfl) (by rfl) t2 (by rw[HE2.out];rfl) (by rw[HE2.out];rfl) HE1.out ?_)
 refine aH (v:=.agg E) ?_ rfl ⟨⟨u,by rw[←HE.out]<;>rfl,UF.out⟩,bF⟩;have hr:=aJ (P:=Tryz.prog) (w2.setRow w.heap.size E) w.heap.size 45 45 E (0,0) _ tF (show Tryz.prog.underlying 45=_ from Tryz.underlying45) (by rfl) (by rw[HE2.out];rfl)
 simp[results,Tryz.f125]
 exact hr
end Go.Proofs.YthjaiigijbjloaaGreatDoor
