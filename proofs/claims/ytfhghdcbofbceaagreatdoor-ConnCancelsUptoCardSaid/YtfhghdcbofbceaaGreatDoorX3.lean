/- MsQ, MsR, OpR, OpS. -/
import Derived.Deep.Cut
import Derived.Test.YtfhghdcbofbceaaGreatDoorX2
namespace Go.Proofs.YtfhghdcbofbceaaGreatDoor
open Go.RowKit Go.Lib
set_option maxRecDepth 100000
set_option maxHeartbeats 16000000
structure OpM (x:OpX) (w0:World):Prop where
 cdn:w0.cell? ⟨x.M,2,none⟩=some (.string ⟨x.dn.toArray⟩)
 cvm:w0.cell? ⟨x.M,13,none⟩=some x.vm
 cva:w0.cell? ⟨x.M,14,none⟩=some x.va
 ctyp:w0.cell? ⟨x.M,19,none⟩=some (.string ⟨x.typ.toArray⟩)
 cval:w0.cell? ⟨x.M,20,none⟩=some (.string ⟨x.value.toArray⟩)
 mods:∀w',Bw w0 w'→Calls Tryz.prog 82 #[x.vm] w' fun e w''=>(∃v,e=.returned v∧rp x.lm v w'')∧Bw w' w''
 attrs:∀w',Bw w0 w'→Calls Tryz.prog 83 #[x.va] w' fun e w''=>(∃v,e=.returned v∧rp x.la v w'')∧Bw w' w''
 styp:x.typ.length≤1000000000
 sval:x.value.length≤1000000000
theorem py{P:Program}{o:Oper}{a:Act}{w w':World}{K:Act→World→Prop}{Q:Exit→Act→World→Prop}(hr:(execOp a.eval o).run P w=.ok .skip w')(h:K (a.put o.dst undef) w'):Oper.wp P o a w K Q:=by
 unfold Oper.wp;rw[hr];exact h
theorem nQ{P:Program}{ρ:Operand→Value}{o:Oper}{t:TypeId}{m k y:Operand}{mv kv v:Value}{w w':World}(h:o.op=.insert t m k y)(hm:ρ m=mv)(hk:ρ k=kv)(hv:ρ y=v)(hr:(Instr.mapUpdate t mv kv v).run P w=.ok () w'):(execOp ρ o).run P w=.ok .skip w':=by
 obtain⟨dst,op,ty,pos,after,guard⟩:=o;simp only at h;subst h;subst hm;subst hk;subst hv;go_simp
theorem mO{ρ:Operand→Value}{o:Oper}{w:World}(h:o.op=.makeMap 125 none):(execOp ρ o).run Tryz.prog w=.ok (.value (.map (some w.heap.size))) (w.alloc (.map #[] 0)):=by
 obtain⟨dst,op,ty,pos,after,guard⟩:=o;simp only at h;subst h;have hmm:∀(t:TypeId) (w:World),(Instr.makeMap t none).run Tryz.prog w=.ok (.map (some w.heap.size)) (w.alloc (.map #[] 0)):=fun _ _=>rfl
 go_simp
theorem f9{e1 e2:El}{a1 a2:Option Addr}{n1 n2 c1 c2:Nat}{w:World}(h1:bf (fun _=>True) w (.slice a1 n1 c1) e1.kids)(h2:bf (fun _=>True) w (.slice a2 n2 c2) e2.kids):
  bf (fun _=>True) (w.alloc (.cells #[.int .i64 e1.cls,.int .i64 e1.tag,.bool e1.cons,.string ⟨e1.bytes.toArray⟩,.slice a1 n1 c1,.int .i64 e2.cls,.int .i64 e2.tag,.bool e2.cons,.string ⟨e2.bytes.toArray⟩,.slice a2 n2 c2] 40)) (.slice (some ⟨w.heap.size,0,none⟩) 2 2) [e1,e2]:=by
 have hb:=alb w #[.int .i64 e1.cls,.int .i64 e1.tag,.bool e1.cons,.string ⟨e1.bytes.toArray⟩,.slice a1 n1 c1,.int .i64 e2.cls,.int .i64 e2.tag,.bool e2.cons,.string ⟨e2.bytes.toArray⟩,.slice a2 n2 c2] 40;refine EN (l:=[e1,e2]) (us:=[.slice a1 n1 c1,.slice a2 n2 c2]) (fb _ _ _ rfl) (by simp[cx]) rfl (fun j e u hj hu=>?_) trivial;have h3:j=0∨j=1:=by have h9:=(List.getElem?_eq_some_iff.1 hj).1;simp at h9;omega
 rcases h3 with rfl|rfl
 ·simp at hj hu;subst hj;subst hu;exact h1.below hb
 ·simp at hj hu;subst hj;subst hu;exact h2.below hb
theorem ga(s:List UInt8)(w:World):bf (fun _=>True) w (Sn) (El.kids (.mk 0 4 false s [])):=bf.nil _ _
section
variable {x:OpX} {E:Value} {w0:World} {ops:Array Oper} {o:Oper} {listed:Array Bool} {a:Act} {w:World} {Q:Exit→Act→World→Prop} {K:Act→World→Prop}
theorem OpC.hi'{i:Nat}(c:OpC x E w0 ops i o listed a w):listed.getD i false=false:=by
 have h:=c.hi;rcases Nat.lt_or_ge i listed.size with h'|h'
 ·simp[h'] at h⊢;exact h
 ·simp[Array.getElem?_eq_none h'] at h
theorem ee{i:Nat}{k:Int}{y:Operand}{val:Value}(c:OpC x E w0 ops i o listed a w)(hop:o.op=.insert 125 (.tmp 7) (.const (.int .i64 k)) y)(hd:o.dst=none)(hL:(i,k)∈opL)(hW:(i,0)∈opW)(hy:a.eval y=val)(hval:opV x i val w)(hT:∀v w,opG x i v w)
  (hK:HKt x E w0 o listed a w K i):Oper.wp Tryz.prog o a w K Q:=by
 obtain⟨h1,h2,h3,h4,h5,h7,h6⟩:=c.hB;have hc0:=c.came hW;obtain⟨r,hr7,hrw,hm⟩:=h6 hc0;have hinj:∀p∈opL,p.2=k→p.1=i:=by
  have:∀p∈opL,∀q∈opL,p.2=q.2→p.1=q.1:=by decide
  exact fun p hp e=>this p hp (i,k) hL e
 have hdist:∀p∈opL,p.1=i→p.2=k:=by
  have:∀p∈opL,∀q∈opL,p.1=q.1→p.2=q.2:=by decide
  exact fun p hp e=>this p hp (i,k) hL e
 obtain⟨w',hrun,hm',hsz,hoth,e1,e2,e3,hH⟩:=kJ (P:=Tryz.prog) 125 3 118 i k val (by kernel_rfl) (by kernel_rfl) hm hL hinj hdist c.hi' (fun i v w w' q=>jn x i v w w' q) hval;refine py (nQ hop (bu hr7) rfl hy hrun) (hK undef w' (hT _ _) ⟨hH,fun r' hr'=>?_⟩ ?_)
 ·by_cases hrr:r'=r
  ·exfalso
   subst hrr;obtain⟨es,cl,hb,_,q3⟩:=hr';obtain⟨es',cl',hb',q2',_⟩:=hm;rw[hb] at hb';cases hb';obtain⟨z,hz,hzk⟩:=q3 (i,k) hL rfl;obtain⟨p,hp,hpl,hpk,_⟩:=q2' z hz;rw[hzk] at hpk
   injection hpk with _ hpk
   have:=hinj p hp hpk.symm;simp only at hpl;rw[this,c.hi'] at hpl;cases hpl
  ·exact hr'.keep (hoth r' hrr) (fun j v q=>jn x j v _ _ hH q) (fun _ _=>rfl)
 ·rw[hd]
  have hil:i<listed.size:=by
   rw[c.hsz];exact(gl c.ho)
  have hl:∀j,(listed.setIfInBounds i true).getD j false=if j=i then true else listed.getD j false:=by
   intro j
   by_cases hj:j=i
   ·subst hj;simp[hil]
   ·simp[hj,Ne.symm hj]
  refine⟨h1,h2,h3,h4,⟨e1.trans h5.os,e2.trans h5.tape,e3.trans h5.output,by have:=h5.size;omega,fun j hj=>(hoth j (by omega)).trans (h5.block j hj)⟩,fun p hp _=>?_,fun _=>⟨r,hr7,hrw,hm'.keep rfl (fun _ _ q=>q) (fun p _=>hl p.1)⟩⟩;rw[hl]
  split
  ·rfl
  ·exact hc0
theorem vu(_m:OpM x w0)(c:OpC x E w0 ops 0 o listed a w)(hK:HKt x E w0 o listed a w K 0):Oper.wp Tryz.prog o a w K Q:=by
 obtain⟨q1,q2⟩:=aP (aD (bx c.htab c.ho));obtain⟨h1,h2,h3,h4,h5,h7,h6⟩:=c.hB;have hb:Bw w (w.alloc (.map #[] 0)):=(aA _ _).alloc (ah _) _;refine jS (mO q1.symm) (hK _ _ trivial (jo x hb) ?_);rw[←q2];have hil:0<listed.size:=by
  rw[c.hsz];exact(gl c.ho)
 have hno:∀p∈opL,listed.getD p.1 false=false:=by
  intro p hp;cases hq:listed.getD p.1 false with
  |false=>rfl
  |true=>have:=h7 p hp hq;rw[c.hi'] at this;cases this
 have hp0:∀p∈opL,p.1≠0:=by decide
 have hne:∀p∈opL,(listed.setIfInBounds 0 true).getD p.1 false=false:=by
  intro p hp;have q:=hno p hp
  simp[Ne.symm (hp0 p hp)] at q⊢
  exact q
 have hs7:7<a.tmps.size:=by rw[c.hn];decide
 refine⟨?_,?_,?_,h4,(btt h5 hb),fun p hp q=>?_,fun _=>⟨w.heap.size,?_,h5.size,#[],0,fb _ _ _ rfl,?_,fun p hp q=>?_⟩⟩
 ·show(a.tmps.setIfInBounds 7 _)[1]?=_
  simp[h1]
 ·show(a.tmps.setIfInBounds 7 _)[2]?=_
  simp[h2]
 ·show(a.tmps.setIfInBounds 7 _)[3]?=_
  simp[h3]
 ·rw[hne p hp] at q;cases q
 ·show(a.tmps.setIfInBounds 7 _)[7]?=_
  simp[hs7]
 ·intro z hz;simp at hz
 ·have:=hne p hp
  simp only at q;rw[this] at q;cases q
theorem vv(_m:OpM x w0)(c:OpC x E w0 ops 1 o listed a w)(hK:HKt x E w0 o listed a w K 1):Oper.wp Tryz.prog o a w K Q:=by
 obtain⟨q1,q2⟩:=aP (aD (bx c.htab c.ho));exact c.value q2.symm (by decide) (by decide) (fs q1.symm (bu c.hB.1)) (aA _ _) rfl hK
theorem vw(_m:OpM x w0)(c:OpC x E w0 ops 2 o listed a w)(hK:HKt x E w0 o listed a w K 2):Oper.wp Tryz.prog o a w K Q:=by
 obtain⟨q1,q2⟩:=aP (aD (bx c.htab c.ho));obtain⟨v1,p1,g1⟩:=c.dep (j:=1) (d:=8) (by decide) rfl;exact ee c q1.symm q2.symm (by decide) (by decide) (bu p1) g1 (fun _ _=>trivial) hK
theorem vx(_m:OpM x w0)(c:OpC x E w0 ops 3 o listed a w)(hK:HKt x E w0 o listed a w K 3):Oper.wp Tryz.prog o a w K Q:=by
 obtain⟨q1,q2⟩:=aP (aD (bx c.htab c.ho));exact ee c q1.symm q2.symm (by decide) (by decide) rfl rfl (fun _ _=>trivial) hK
theorem vy(_m:OpM x w0)(c:OpC x E w0 ops 4 o listed a w)(hK:HKt x E w0 o listed a w K 4):Oper.wp Tryz.prog o a w K Q:=by
 obtain⟨q1,q2⟩:=aP (aD (bx c.htab c.ho));exact c.value q2.symm (by decide) (by decide) (fs q1.symm (bu c.hB.1)) (aA _ _) rfl hK
theorem vA(_m:OpM x w0)(c:OpC x E w0 ops 5 o listed a w)(hK:HKt x E w0 o listed a w K 5):Oper.wp Tryz.prog o a w K Q:=by
 obtain⟨q1,q2⟩:=aP (aD (bx c.htab c.ho));obtain⟨v1,p1,g1⟩:=c.dep (j:=4) (d:=9) (by decide) rfl;exact ee c q1.symm q2.symm (by decide) (by decide) (bu p1) g1 (fun _ _=>trivial) hK
theorem vB(_m:OpM x w0)(c:OpC x E w0 ops 6 o listed a w)(hK:HKt x E w0 o listed a w K 6):Oper.wp Tryz.prog o a w K Q:=by
 obtain⟨q1,q2⟩:=aP (aD (bx c.htab c.ho));exact c.value q2.symm (by decide) (by decide) (gj q1.symm (bu c.hB.2.2.1)) (aA _ _) rfl hK
theorem vC(_m:OpM x w0)(c:OpC x E w0 ops 7 o listed a w)(hK:HKt x E w0 o listed a w K 7):Oper.wp Tryz.prog o a w K Q:=by
 obtain⟨q1,q2⟩:=aP (aD (bx c.htab c.ho));exact c.value q2.symm (by decide) (by decide) (eF (by decide) q1.symm (bu c.hB.1)) (aA _ _) rfl hK
theorem vD(m:OpM x w0)(c:OpC x E w0 ops 8 o listed a w)(hK:HKt x E w0 o listed a w K 8):Oper.wp Tryz.prog o a w K Q:=by
 obtain⟨q1,q2⟩:=aP (aD (bx c.htab c.ho));obtain⟨v1,p1,g1⟩:=c.dep (j:=7) (d:=11) (by decide) rfl;have g1:v1=.pointer (some ⟨x.M,2,none⟩):=g1;subst g1;have hc:=(c.hB.2.2.2.2.1.cell (bj m.cdn)).trans m.cdn;exact c.value q2.symm (by decide) (by decide) (ry (by decide) q1.symm (bu p1) hc) (aA _ _) rfl hK
theorem vE(_m:OpM x w0)(c:OpC x E w0 ops 9 o listed a w)(hK:HKt x E w0 o listed a w K 9):Oper.wp Tryz.prog o a w K Q:=by
 obtain⟨q1,q2⟩:=aP (aD (bx c.htab c.ho));obtain⟨v1,p1,g1⟩:=c.dep (j:=8) (d:=12) (by decide) rfl;have g1:v1=.string ⟨x.dn.toArray⟩:=g1;subst g1;exact c.enter q2.symm (by decide) (by decide) (db q1.symm rfl (bu p1) (fun args=>cI _ (by decide) args w)) ((bz x.dn w).mono fun e w' h=>⟨⟨_,h.1,rfl⟩,h.2⟩) hK
theorem tR(_m:OpM x w0)(c:OpC x E w0 ops 10 o listed a w)(hK:HKt x E w0 o listed a w K 10):Oper.wp Tryz.prog o a w K Q:=by
 obtain⟨q1,q2⟩:=aP (aD (bx c.htab c.ho));exact c.value q2.symm (by decide) (by decide) (eF (by decide) q1.symm (bu c.hB.1)) (aA _ _) rfl hK
theorem tS(m:OpM x w0)(c:OpC x E w0 ops 11 o listed a w)(hK:HKt x E w0 o listed a w K 11):Oper.wp Tryz.prog o a w K Q:=by
 obtain⟨q1,q2⟩:=aP (aD (bx c.htab c.ho));obtain⟨v1,p1,g1⟩:=c.dep (j:=10) (d:=14) (by decide) rfl;have g1:v1=.pointer (some ⟨x.M,13,none⟩):=g1;subst g1;have hc:=(c.hB.2.2.2.2.1.cell (bj m.cvm)).trans m.cvm;exact c.value q2.symm (by decide) (by decide) (ry (by decide) q1.symm (bu p1) hc) (aA _ _) rfl hK
theorem tT(m:OpM x w0)(c:OpC x E w0 ops 12 o listed a w)(hK:HKt x E w0 o listed a w K 12):Oper.wp Tryz.prog o a w K Q:=by
 obtain⟨q1,q2⟩:=aP (aD (bx c.htab c.ho));obtain⟨v1,p1,g1⟩:=c.dep (j:=11) (d:=15) (by decide) rfl;have g1:v1=x.vm:=g1;subst g1;exact c.enter q2.symm (by decide) (by decide) (db q1.symm rfl (bu p1) (fun args=>cI _ (by decide) args w)) (m.mods w c.hB.2.2.2.2.1) hK
theorem tU(_m:OpM x w0)(c:OpC x E w0 ops 13 o listed a w)(hK:HKt x E w0 o listed a w K 13):Oper.wp Tryz.prog o a w K Q:=by
 obtain⟨q1,q2⟩:=aP (aD (bx c.htab c.ho));obtain⟨v1,p1,g1⟩:=c.dep (j:=9) (d:=13) (by decide) rfl;obtain⟨v2,p2,g2⟩:=c.dep (j:=12) (d:=16) (by decide) rfl;have g1:v1=.agg (elA (.mk 0 4 false x.dn []) (Sn)):=g1;subst g1;obtain⟨u2,e2,k2⟩:rp x.lm v2 w:=g2;obtain⟨b2,l2,s2⟩:=k2.shape;subst s2;subst e2;exact c.value q2.symm (by decide) (by decide) (fZ q1.symm (bu p1) (bu p2)) ((aA _ _).alloc (ah _) _) (f9 (ga _ w) k2) hK
theorem tV(_m:OpM x w0)(c:OpC x E w0 ops 14 o listed a w)(hK:HKt x E w0 o listed a w K 14):Oper.wp Tryz.prog o a w K Q:=by
 obtain⟨q1,q2⟩:=aP (aD (bx c.htab c.ho));obtain⟨v1,p1,g1⟩:=c.dep (j:=6) (d:=10) (by decide) rfl;have g1:v1=.func (.func 75) #[] #[]:=g1;subst g1;obtain⟨v2,p2,g2⟩:=c.dep (j:=13) (d:=17) (by decide) rfl;have g2:bf (fun _=>True) w v2 [(.mk 0 4 false x.dn []),.mk 0 16 true [] x.lm]:=g2;have hs:∃a n c,v2=.slice a n c:=by
  obtain⟨b,n,s⟩:=g2.shape;exact⟨_,_,_,s⟩
 refine c.enter q2.symm (by decide) (by decide) (db q1.symm (bu p1) (bu p2) (fun args=>cI _ (by decide) args w)) ((gK v2 w hs).mono ?_) hK;rintro e w' ⟨⟨b,rfl,hc⟩,hb⟩;exact⟨⟨_,rfl,b,v2,rfl,hc,g2.below hb⟩,hb⟩
theorem tW(_m:OpM x w0)(c:OpC x E w0 ops 15 o listed a w)(hK:HKt x E w0 o listed a w K 15):Oper.wp Tryz.prog o a w K Q:=by
 obtain⟨q1,q2⟩:=aP (aD (bx c.htab c.ho));obtain⟨v1,p1,g1⟩:=c.dep (j:=14) (d:=18) (by decide) rfl;exact ee c q1.symm q2.symm (by decide) (by decide) (bu p1) g1 (fun _ _=>trivial) hK
theorem tX(_m:OpM x w0)(c:OpC x E w0 ops 16 o listed a w)(hK:HKt x E w0 o listed a w K 16):Oper.wp Tryz.prog o a w K Q:=by
 obtain⟨q1,q2⟩:=aP (aD (bx c.htab c.ho));exact c.value q2.symm (by decide) (by decide) (gj q1.symm (bu c.hB.2.2.1)) (aA _ _) rfl hK
theorem tY(_m:OpM x w0)(c:OpC x E w0 ops 17 o listed a w)(hK:HKt x E w0 o listed a w K 17):Oper.wp Tryz.prog o a w K Q:=by
 obtain⟨q1,q2⟩:=aP (aD (bx c.htab c.ho));exact c.value q2.symm (by decide) (by decide) (eF (by decide) q1.symm (bu c.hB.1)) (aA _ _) rfl hK
theorem tZ(m:OpM x w0)(c:OpC x E w0 ops 18 o listed a w)(hK:HKt x E w0 o listed a w K 18):Oper.wp Tryz.prog o a w K Q:=by
 obtain⟨q1,q2⟩:=aP (aD (bx c.htab c.ho));obtain⟨v1,p1,g1⟩:=c.dep (j:=17) (d:=20) (by decide) rfl;have g1:v1=.pointer (some ⟨x.M,2,none⟩):=g1;subst g1;have hc:=(c.hB.2.2.2.2.1.cell (bj m.cdn)).trans m.cdn;exact c.value q2.symm (by decide) (by decide) (ry (by decide) q1.symm (bu p1) hc) (aA _ _) rfl hK
theorem BO(_m:OpM x w0)(c:OpC x E w0 ops 19 o listed a w)(hK:HKt x E w0 o listed a w K 19):Oper.wp Tryz.prog o a w K Q:=by
 obtain⟨q1,q2⟩:=aP (aD (bx c.htab c.ho));obtain⟨v1,p1,g1⟩:=c.dep (j:=18) (d:=21) (by decide) rfl;have g1:v1=.string ⟨x.dn.toArray⟩:=g1;subst g1;exact c.enter q2.symm (by decide) (by decide) (db q1.symm rfl (bu p1) (fun args=>cI _ (by decide) args w)) ((bz x.dn w).mono fun e w' h=>⟨⟨_,h.1,rfl⟩,h.2⟩) hK
theorem BQ(_m:OpM x w0)(c:OpC x E w0 ops 20 o listed a w)(hK:HKt x E w0 o listed a w K 20):Oper.wp Tryz.prog o a w K Q:=by
 obtain⟨q1,q2⟩:=aP (aD (bx c.htab c.ho));exact c.value q2.symm (by decide) (by decide) (eF (by decide) q1.symm (bu c.hB.1)) (aA _ _) rfl hK
theorem ud(m:OpM x w0)(c:OpC x E w0 ops 21 o listed a w)(hK:HKt x E w0 o listed a w K 21):Oper.wp Tryz.prog o a w K Q:=by
 obtain⟨q1,q2⟩:=aP (aD (bx c.htab c.ho));obtain⟨v1,p1,g1⟩:=c.dep (j:=20) (d:=23) (by decide) rfl;have g1:v1=.pointer (some ⟨x.M,14,none⟩):=g1;subst g1;have hc:=(c.hB.2.2.2.2.1.cell (bj m.cva)).trans m.cva;exact c.value q2.symm (by decide) (by decide) (ry (by decide) q1.symm (bu p1) hc) (aA _ _) rfl hK
theorem ue(m:OpM x w0)(c:OpC x E w0 ops 22 o listed a w)(hK:HKt x E w0 o listed a w K 22):Oper.wp Tryz.prog o a w K Q:=by
 obtain⟨q1,q2⟩:=aP (aD (bx c.htab c.ho));obtain⟨v1,p1,g1⟩:=c.dep (j:=21) (d:=24) (by decide) rfl;have g1:v1=x.va:=g1;subst g1;exact c.enter q2.symm (by decide) (by decide) (db q1.symm rfl (bu p1) (fun args=>cI _ (by decide) args w)) (m.attrs w c.hB.2.2.2.2.1) hK
theorem ug(_m:OpM x w0)(c:OpC x E w0 ops 23 o listed a w)(hK:HKt x E w0 o listed a w K 23):Oper.wp Tryz.prog o a w K Q:=by
 obtain⟨q1,q2⟩:=aP (aD (bx c.htab c.ho));obtain⟨v1,p1,g1⟩:=c.dep (j:=19) (d:=22) (by decide) rfl;obtain⟨v2,p2,g2⟩:=c.dep (j:=22) (d:=25) (by decide) rfl;have g1:v1=.agg (elA (.mk 0 4 false x.dn []) (Sn)):=g1;subst g1;obtain⟨u2,e2,k2⟩:rp x.la v2 w:=g2;obtain⟨b2,l2,s2⟩:=k2.shape;subst s2;subst e2;exact c.value q2.symm (by decide) (by decide) (fZ q1.symm (bu p1) (bu p2)) ((aA _ _).alloc (ah _) _) (f9 (ga _ w) k2) hK
theorem uh(_m:OpM x w0)(c:OpC x E w0 ops 24 o listed a w)(hK:HKt x E w0 o listed a w K 24):Oper.wp Tryz.prog o a w K Q:=by
 obtain⟨q1,q2⟩:=aP (aD (bx c.htab c.ho));obtain⟨v1,p1,g1⟩:=c.dep (j:=16) (d:=19) (by decide) rfl;have g1:v1=.func (.func 75) #[] #[]:=g1;subst g1;obtain⟨v2,p2,g2⟩:=c.dep (j:=23) (d:=26) (by decide) rfl;have g2:bf (fun _=>True) w v2 [(.mk 0 4 false x.dn []),.mk 0 16 true [] x.la]:=g2;have hs:∃a n c,v2=.slice a n c:=by
  obtain⟨b,n,s⟩:=g2.shape;exact⟨_,_,_,s⟩
 refine c.enter q2.symm (by decide) (by decide) (db q1.symm (bu p1) (bu p2) (fun args=>cI _ (by decide) args w)) ((gK v2 w hs).mono ?_) hK;rintro e w' ⟨⟨b,rfl,hc⟩,hb⟩;exact⟨⟨_,rfl,b,v2,rfl,hc,g2.below hb⟩,hb⟩
theorem ui(_m:OpM x w0)(c:OpC x E w0 ops 25 o listed a w)(hK:HKt x E w0 o listed a w K 25):Oper.wp Tryz.prog o a w K Q:=by
 obtain⟨q1,q2⟩:=aP (aD (bx c.htab c.ho));obtain⟨v1,p1,g1⟩:=c.dep (j:=24) (d:=27) (by decide) rfl;exact ee c q1.symm q2.symm (by decide) (by decide) (bu p1) g1 (fun _ _=>trivial) hK
theorem uj(_m:OpM x w0)(c:OpC x E w0 ops 26 o listed a w)(hK:HKt x E w0 o listed a w K 26):Oper.wp Tryz.prog o a w K Q:=by
 obtain⟨q1,q2⟩:=aP (aD (bx c.htab c.ho));exact c.value q2.symm (by decide) (by decide) (gj q1.symm (bu c.hB.2.2.1)) (aA _ _) rfl hK
theorem uk(_m:OpM x w0)(c:OpC x E w0 ops 27 o listed a w)(hK:HKt x E w0 o listed a w K 27):Oper.wp Tryz.prog o a w K Q:=by
 obtain⟨q1,q2⟩:=aP (aD (bx c.htab c.ho));exact c.value q2.symm (by decide) (by decide) (eF (by decide) q1.symm (bu c.hB.1)) (aA _ _) rfl hK
theorem ul(m:OpM x w0)(c:OpC x E w0 ops 28 o listed a w)(hK:HKt x E w0 o listed a w K 28):Oper.wp Tryz.prog o a w K Q:=by
 obtain⟨q1,q2⟩:=aP (aD (bx c.htab c.ho));obtain⟨v1,p1,g1⟩:=c.dep (j:=27) (d:=29) (by decide) rfl;have g1:v1=.pointer (some ⟨x.M,2,none⟩):=g1;subst g1;have hc:=(c.hB.2.2.2.2.1.cell (bj m.cdn)).trans m.cdn;exact c.value q2.symm (by decide) (by decide) (ry (by decide) q1.symm (bu p1) hc) (aA _ _) rfl hK
theorem um(_m:OpM x w0)(c:OpC x E w0 ops 29 o listed a w)(hK:HKt x E w0 o listed a w K 29):Oper.wp Tryz.prog o a w K Q:=by
 obtain⟨q1,q2⟩:=aP (aD (bx c.htab c.ho));obtain⟨v1,p1,g1⟩:=c.dep (j:=28) (d:=30) (by decide) rfl;have g1:v1=.string ⟨x.dn.toArray⟩:=g1;subst g1;exact c.enter q2.symm (by decide) (by decide) (db q1.symm rfl (bu p1) (fun args=>cI _ (by decide) args w)) ((bz x.dn w).mono fun e w' h=>⟨⟨_,h.1,rfl⟩,h.2⟩) hK
theorem un(_m:OpM x w0)(c:OpC x E w0 ops 30 o listed a w)(hK:HKt x E w0 o listed a w K 30):Oper.wp Tryz.prog o a w K Q:=by
 obtain⟨q1,q2⟩:=aP (aD (bx c.htab c.ho));exact c.value q2.symm (by decide) (by decide) (eF (by decide) q1.symm (bu c.hB.1)) (aA _ _) rfl hK
theorem uq(m:OpM x w0)(c:OpC x E w0 ops 31 o listed a w)(hK:HKt x E w0 o listed a w K 31):Oper.wp Tryz.prog o a w K Q:=by
 obtain⟨q1,q2⟩:=aP (aD (bx c.htab c.ho));obtain⟨v1,p1,g1⟩:=c.dep (j:=30) (d:=32) (by decide) rfl;have g1:v1=.pointer (some ⟨x.M,14,none⟩):=g1;subst g1;have hc:=(c.hB.2.2.2.2.1.cell (bj m.cva)).trans m.cva;exact c.value q2.symm (by decide) (by decide) (ry (by decide) q1.symm (bu p1) hc) (aA _ _) rfl hK
theorem ur(m:OpM x w0)(c:OpC x E w0 ops 32 o listed a w)(hK:HKt x E w0 o listed a w K 32):Oper.wp Tryz.prog o a w K Q:=by
 obtain⟨q1,q2⟩:=aP (aD (bx c.htab c.ho));obtain⟨v1,p1,g1⟩:=c.dep (j:=31) (d:=33) (by decide) rfl;have g1:v1=x.va:=g1;subst g1;exact c.enter q2.symm (by decide) (by decide) (db q1.symm rfl (bu p1) (fun args=>cI _ (by decide) args w)) (m.attrs w c.hB.2.2.2.2.1) hK
theorem ut(_m:OpM x w0)(c:OpC x E w0 ops 33 o listed a w)(hK:HKt x E w0 o listed a w K 33):Oper.wp Tryz.prog o a w K Q:=by
 obtain⟨q1,q2⟩:=aP (aD (bx c.htab c.ho));obtain⟨v1,p1,g1⟩:=c.dep (j:=29) (d:=31) (by decide) rfl;obtain⟨v2,p2,g2⟩:=c.dep (j:=32) (d:=34) (by decide) rfl;have g1:v1=.agg (elA (.mk 0 4 false x.dn []) (Sn)):=g1;subst g1;obtain⟨u2,e2,k2⟩:rp x.la v2 w:=g2;obtain⟨b2,l2,s2⟩:=k2.shape;subst s2;subst e2;exact c.value q2.symm (by decide) (by decide) (fZ q1.symm (bu p1) (bu p2)) ((aA _ _).alloc (ah _) _) (f9 (ga _ w) k2) hK
theorem uv(_m:OpM x w0)(c:OpC x E w0 ops 34 o listed a w)(hK:HKt x E w0 o listed a w K 34):Oper.wp Tryz.prog o a w K Q:=by
 obtain⟨q1,q2⟩:=aP (aD (bx c.htab c.ho));obtain⟨v1,p1,g1⟩:=c.dep (j:=26) (d:=28) (by decide) rfl;have g1:v1=.func (.func 75) #[] #[]:=g1;subst g1;obtain⟨v2,p2,g2⟩:=c.dep (j:=33) (d:=35) (by decide) rfl;have g2:bf (fun _=>True) w v2 [(.mk 0 4 false x.dn []),.mk 0 16 true [] x.la]:=g2;have hs:∃a n c,v2=.slice a n c:=by
  obtain⟨b,n,s⟩:=g2.shape;exact⟨_,_,_,s⟩
 refine c.enter q2.symm (by decide) (by decide) (db q1.symm (bu p1) (bu p2) (fun args=>cI _ (by decide) args w)) ((gK v2 w hs).mono ?_) hK;rintro e w' ⟨⟨b,rfl,hc⟩,hb⟩;exact⟨⟨_,rfl,b,v2,rfl,hc,g2.below hb⟩,hb⟩
theorem uw(_m:OpM x w0)(c:OpC x E w0 ops 35 o listed a w)(hK:HKt x E w0 o listed a w K 35):Oper.wp Tryz.prog o a w K Q:=by
 obtain⟨q1,q2⟩:=aP (aD (bx c.htab c.ho));obtain⟨v1,p1,g1⟩:=c.dep (j:=34) (d:=36) (by decide) rfl;exact ee c q1.symm q2.symm (by decide) (by decide) (bu p1) g1 (fun _ _=>trivial) hK
theorem ux(_m:OpM x w0)(c:OpC x E w0 ops 36 o listed a w)(hK:HKt x E w0 o listed a w K 36):Oper.wp Tryz.prog o a w K Q:=by
 obtain⟨q1,q2⟩:=aP (aD (bx c.htab c.ho));exact c.value q2.symm (by decide) (by decide) (fs q1.symm (bu c.hB.1)) (aA _ _) rfl hK
theorem uy(_m:OpM x w0)(c:OpC x E w0 ops 37 o listed a w)(hK:HKt x E w0 o listed a w K 37):Oper.wp Tryz.prog o a w K Q:=by
 obtain⟨q1,q2⟩:=aP (aD (bx c.htab c.ho));obtain⟨v1,p1,g1⟩:=c.dep (j:=36) (d:=37) (by decide) rfl;exact ee c q1.symm q2.symm (by decide) (by decide) (bu p1) g1 (fun _ _=>trivial) hK
theorem uz(_m:OpM x w0)(c:OpC x E w0 ops 38 o listed a w)(hK:HKt x E w0 o listed a w K 38):Oper.wp Tryz.prog o a w K Q:=by
 obtain⟨q1,q2⟩:=aP (aD (bx c.htab c.ho));exact c.value q2.symm (by decide) (by decide) (fs q1.symm (bu c.hB.1)) (aA _ _) rfl hK
theorem BR(_m:OpM x w0)(c:OpC x E w0 ops 39 o listed a w)(hK:HKt x E w0 o listed a w K 39):Oper.wp Tryz.prog o a w K Q:=by
 obtain⟨q1,q2⟩:=aP (aD (bx c.htab c.ho));obtain⟨v1,p1,g1⟩:=c.dep (j:=38) (d:=38) (by decide) rfl;exact ee c q1.symm q2.symm (by decide) (by decide) (bu p1) g1 (fun _ _=>trivial) hK
theorem uB(_m:OpM x w0)(c:OpC x E w0 ops 40 o listed a w)(hK:HKt x E w0 o listed a w K 40):Oper.wp Tryz.prog o a w K Q:=by
 obtain⟨q1,q2⟩:=aP (aD (bx c.htab c.ho));exact c.value q2.symm (by decide) (by decide) (gj q1.symm (bu c.hB.2.2.1)) (aA _ _) rfl hK
theorem BS(_m:OpM x w0)(c:OpC x E w0 ops 41 o listed a w)(hK:HKt x E w0 o listed a w K 41):Oper.wp Tryz.prog o a w K Q:=by
 obtain⟨q1,q2⟩:=aP (aD (bx c.htab c.ho));exact c.value q2.symm (by decide) (by decide) (eF (by decide) q1.symm (bu c.hB.1)) (aA _ _) rfl hK
theorem uD(m:OpM x w0)(c:OpC x E w0 ops 42 o listed a w)(hK:HKt x E w0 o listed a w K 42):Oper.wp Tryz.prog o a w K Q:=by
 obtain⟨q1,q2⟩:=aP (aD (bx c.htab c.ho));obtain⟨v1,p1,g1⟩:=c.dep (j:=41) (d:=40) (by decide) rfl;have g1:v1=.pointer (some ⟨x.M,2,none⟩):=g1;subst g1;have hc:=(c.hB.2.2.2.2.1.cell (bj m.cdn)).trans m.cdn;exact c.value q2.symm (by decide) (by decide) (ry (by decide) q1.symm (bu p1) hc) (aA _ _) rfl hK
theorem uE(_m:OpM x w0)(c:OpC x E w0 ops 43 o listed a w)(hK:HKt x E w0 o listed a w K 43):Oper.wp Tryz.prog o a w K Q:=by
 obtain⟨q1,q2⟩:=aP (aD (bx c.htab c.ho));obtain⟨v1,p1,g1⟩:=c.dep (j:=42) (d:=41) (by decide) rfl;have g1:v1=.string ⟨x.dn.toArray⟩:=g1;subst g1;exact c.enter q2.symm (by decide) (by decide) (db q1.symm rfl (bu p1) (fun args=>cI _ (by decide) args w)) ((bz x.dn w).mono fun e w' h=>⟨⟨_,h.1,rfl⟩,h.2⟩) hK
theorem uG(_m:OpM x w0)(c:OpC x E w0 ops 44 o listed a w)(hK:HKt x E w0 o listed a w K 44):Oper.wp Tryz.prog o a w K Q:=by
 obtain⟨q1,q2⟩:=aP (aD (bx c.htab c.ho));exact c.value q2.symm (by decide) (by decide) (eF (by decide) q1.symm (bu c.hB.1)) (aA _ _) rfl hK
theorem uH(m:OpM x w0)(c:OpC x E w0 ops 45 o listed a w)(hK:HKt x E w0 o listed a w K 45):Oper.wp Tryz.prog o a w K Q:=by
 obtain⟨q1,q2⟩:=aP (aD (bx c.htab c.ho));obtain⟨v1,p1,g1⟩:=c.dep (j:=44) (d:=43) (by decide) rfl;have g1:v1=.pointer (some ⟨x.M,19,none⟩):=g1;subst g1;have hc:=(c.hB.2.2.2.2.1.cell (bj m.ctyp)).trans m.ctyp;exact c.value q2.symm (by decide) (by decide) (ry (by decide) q1.symm (bu p1) hc) (aA _ _) rfl hK
theorem uI(_m:OpM x w0)(c:OpC x E w0 ops 46 o listed a w)(hK:HKt x E w0 o listed a w K 46):Oper.wp Tryz.prog o a w K Q:=by
 obtain⟨q1,q2⟩:=aP (aD (bx c.htab c.ho));obtain⟨v1,p1,g1⟩:=c.dep (j:=45) (d:=44) (by decide) rfl;have g1:v1=.string ⟨x.typ.toArray⟩:=g1;subst g1;exact c.enter q2.symm (by decide) (by decide) (db q1.symm rfl (bu p1) (fun args=>cI _ (by decide) args w)) ((bz x.typ w).mono fun e w' h=>⟨⟨_,h.1,rfl⟩,h.2⟩) hK
theorem uJ(_m:OpM x w0)(c:OpC x E w0 ops 47 o listed a w)(hK:HKt x E w0 o listed a w K 47):Oper.wp Tryz.prog o a w K Q:=by
 obtain⟨q1,q2⟩:=aP (aD (bx c.htab c.ho));exact c.value q2.symm (by decide) (by decide) (eF (by decide) q1.symm (bu c.hB.1)) (aA _ _) rfl hK
theorem uK(m:OpM x w0)(c:OpC x E w0 ops 48 o listed a w)(hK:HKt x E w0 o listed a w K 48):Oper.wp Tryz.prog o a w K Q:=by
 obtain⟨q1,q2⟩:=aP (aD (bx c.htab c.ho));obtain⟨v1,p1,g1⟩:=c.dep (j:=47) (d:=46) (by decide) rfl;have g1:v1=.pointer (some ⟨x.M,20,none⟩):=g1;subst g1;have hc:=(c.hB.2.2.2.2.1.cell (bj m.cval)).trans m.cval;exact c.value q2.symm (by decide) (by decide) (ry (by decide) q1.symm (bu p1) hc) (aA _ _) rfl hK
theorem uL(_m:OpM x w0)(c:OpC x E w0 ops 49 o listed a w)(hK:HKt x E w0 o listed a w K 49):Oper.wp Tryz.prog o a w K Q:=by
 obtain⟨q1,q2⟩:=aP (aD (bx c.htab c.ho));obtain⟨v1,p1,g1⟩:=c.dep (j:=48) (d:=47) (by decide) rfl;have g1:v1=.string ⟨x.value.toArray⟩:=g1;subst g1;exact c.enter q2.symm (by decide) (by decide) (db q1.symm rfl (bu p1) (fun args=>cI _ (by decide) args w)) ((bz x.value w).mono fun e w' h=>⟨⟨_,h.1,rfl⟩,h.2⟩) hK
theorem BT(_m:OpM x w0)(c:OpC x E w0 ops 50 o listed a w)(hK:HKt x E w0 o listed a w K 50):Oper.wp Tryz.prog o a w K Q:=by
 obtain⟨q1,q2⟩:=aP (aD (bx c.htab c.ho));obtain⟨v1,p1,g1⟩:=c.dep (j:=46) (d:=45) (by decide) rfl;obtain⟨v2,p2,g2⟩:=c.dep (j:=49) (d:=48) (by decide) rfl;have g1:v1=.agg (elA (.mk 0 4 false x.typ []) (Sn)):=g1;subst g1;have g2:v2=.agg (elA (.mk 0 4 false x.value []) (Sn)):=g2;subst g2;exact c.value q2.symm (by decide) (by decide) (fZ q1.symm (bu p1) (bu p2)) ((aA _ _).alloc (ah _) _) (f9 (ga _ w) (ga _ w)) hK
theorem uN(m:OpM x w0)(c:OpC x E w0 ops 51 o listed a w)(hK:HKt x E w0 o listed a w K 51):Oper.wp Tryz.prog o a w K Q:=by
 obtain⟨q1,q2⟩:=aP (aD (bx c.htab c.ho));obtain⟨v1,p1,g1⟩:=c.dep (j:=50) (d:=49) (by decide) rfl;have g1:bf (fun _=>True) w v1 [(.mk 0 4 false x.typ []),(.mk 0 4 false x.value [])]:=g1;refine c.enter q2.symm (by decide) (by decide) (db q1.symm rfl (bu p1) (fun args=>cI _ (by decide) args w)) ((cH _ v1 w g1 (by simp[SmL,SmE];exact⟨m.styp,m.sval⟩) (by simp)).mono ?_) hK;rintro e w' ⟨⟨u,rfl,hu⟩,hb⟩;exact⟨⟨_,rfl,u,rfl,hu.mono fun _ _ _=>trivial⟩,hb⟩
theorem uO(_m:OpM x w0)(c:OpC x E w0 ops 52 o listed a w)(hK:HKt x E w0 o listed a w K 52):Oper.wp Tryz.prog o a w K Q:=by
 obtain⟨q1,q2⟩:=aP (aD (bx c.htab c.ho));obtain⟨v1,p1,g1⟩:=c.dep (j:=43) (d:=42) (by decide) rfl;obtain⟨v2,p2,g2⟩:=c.dep (j:=51) (d:=50) (by decide) rfl;have g1:v1=.agg (elA (.mk 0 4 false x.dn []) (Sn)):=g1;subst g1;obtain⟨u2,e2,k2⟩:rp [(.mk 0 4 false x.typ []),(.mk 0 4 false x.value [])] v2 w:=g2;obtain⟨b2,l2,s2⟩:=k2.shape;subst s2;subst e2;exact c.value q2.symm (by decide) (by decide) (fZ q1.symm (bu p1) (bu p2)) ((aA _ _).alloc (ah _) _) (f9 (ga _ w) k2) hK
theorem uP(_m:OpM x w0)(c:OpC x E w0 ops 53 o listed a w)(hK:HKt x E w0 o listed a w K 53):Oper.wp Tryz.prog o a w K Q:=by
 obtain⟨q1,q2⟩:=aP (aD (bx c.htab c.ho));obtain⟨v1,p1,g1⟩:=c.dep (j:=40) (d:=39) (by decide) rfl;have g1:v1=.func (.func 75) #[] #[]:=g1;subst g1;obtain⟨v2,p2,g2⟩:=c.dep (j:=52) (d:=51) (by decide) rfl;have g2:bf (fun _=>True) w v2 [(.mk 0 4 false x.dn []),.mk 0 16 true [] [(.mk 0 4 false x.typ []),(.mk 0 4 false x.value [])]]:=g2;have hs:∃a n c,v2=.slice a n c:=by
  obtain⟨b,n,s⟩:=g2.shape;exact⟨_,_,_,s⟩
 refine c.enter q2.symm (by decide) (by decide) (db q1.symm (bu p1) (bu p2) (fun args=>cI _ (by decide) args w)) ((gK v2 w hs).mono ?_) hK;rintro e w' ⟨⟨b,rfl,hc⟩,hb⟩;exact⟨⟨_,rfl,b,v2,rfl,hc,g2.below hb⟩,hb⟩
theorem uQ(_m:OpM x w0)(c:OpC x E w0 ops 54 o listed a w)(hK:HKt x E w0 o listed a w K 54):Oper.wp Tryz.prog o a w K Q:=by
 obtain⟨q1,q2⟩:=aP (aD (bx c.htab c.ho));obtain⟨v1,p1,g1⟩:=c.dep (j:=53) (d:=52) (by decide) rfl;exact ee c q1.symm q2.symm (by decide) (by decide) (bu p1) g1 (fun _ _=>trivial) hK
theorem uR(_m:OpM x w0)(c:OpC x E w0 ops 55 o listed a w)(hK:HKt x E w0 o listed a w K 55):Oper.wp Tryz.prog o a w K Q:=by
 obtain⟨q1,q2⟩:=aP (aD (bx c.htab c.ho));exact c.value q2.symm (by decide) (by decide) (fs q1.symm (bu c.hB.1)) (aA _ _) rfl hK
theorem BU(_m:OpM x w0)(c:OpC x E w0 ops 56 o listed a w)(hK:HKt x E w0 o listed a w K 56):Oper.wp Tryz.prog o a w K Q:=by
 obtain⟨q1,q2⟩:=aP (aD (bx c.htab c.ho));obtain⟨v1,p1,g1⟩:=c.dep (j:=55) (d:=53) (by decide) rfl;exact ee c q1.symm q2.symm (by decide) (by decide) (bu p1) g1 (fun _ _=>trivial) hK
theorem uT(_m:OpM x w0)(c:OpC x E w0 ops 57 o listed a w)(hK:HKt x E w0 o listed a w K 57):Oper.wp Tryz.prog o a w K Q:=by
 obtain⟨q1,q2⟩:=aP (aD (bx c.htab c.ho));exact c.value q2.symm (by decide) (by decide) (fs q1.symm (bu c.hB.1)) (aA _ _) rfl hK
theorem uU(_m:OpM x w0)(c:OpC x E w0 ops 58 o listed a w)(hK:HKt x E w0 o listed a w K 58):Oper.wp Tryz.prog o a w K Q:=by
 obtain⟨q1,q2⟩:=aP (aD (bx c.htab c.ho));obtain⟨v1,p1,g1⟩:=c.dep (j:=57) (d:=54) (by decide) rfl;exact ee c q1.symm q2.symm (by decide) (by decide) (bu p1) g1 (fun _ _=>trivial) hK
theorem uV(_m:OpM x w0)(c:OpC x E w0 ops 59 o listed a w)(hK:HKt x E w0 o listed a w K 59):Oper.wp Tryz.prog o a w K Q:=by
 obtain⟨q1,q2⟩:=aP (aD (bx c.htab c.ho));obtain⟨r,hr7,_,hm⟩:=c.hB.2.2.2.2.2.2 (c.came (by decide));have hW:∀p∈opL,(59,p.1)∈opW:=by decide
 exact c.value q2.symm (by decide) (by decide) (gj q1.symm (bu hr7)) (aA _ _) ⟨r,rfl,hm.keep rfl (fun _ _ q=>q) (fun p hp=>(c.came (hW p hp)).symm)⟩ hK
theorem uW(_m:OpM x w0)(c:OpC x E w0 ops 60 o listed a w)(hK:HKt x E w0 o listed a w K 60):Oper.wp Tryz.prog o a w K Q:=by
 obtain⟨q1,q2⟩:=aP (aD (bx c.htab c.ho));obtain⟨v1,p1,g1⟩:=c.dep (j:=59) (d:=55) (by decide) rfl;exact c.value q2.symm (by decide) (by decide) (nO q1.symm (bu p1)) (aA _ _) g1 hK
end
theorem lJ{x:OpX}{E:Value}{w0:World}{ops:Array Oper}{Q:Exit→Act→World→Prop}(m:OpM x w0)(hok:kI .any 74 ops=true)(htab:ops.toList.map (fun o=>(o.op,o.dst))=opT)(hwt:(opW.all fun p=>ma ops p.1 p.2)=true)
  (a:Act) (w:World) (hn:a.tmps.size=74) (h1:a.tmps[1]?=some (.pointer (some ⟨x.M,0,none⟩))) (h2:a.tmps[2]?=some E) (h3:a.tmps[3]?=some (.func (.func 75) #[] #[])) (h4:a.defers=[]) (h5:Bw w0 w)
  (hdone:∀(a:Act) (w:World) (r:Nat),a.tmps.size=74→a.tmps[1]?=some (.pointer (some ⟨x.M,0,none⟩))→a.tmps[2]?=some E→a.tmps[3]?=some (.func (.func 75) #[] #[])→a.tmps[4]?=some (.map (some r))→a.defers=[]→Bw w0 w→ey opL (opV x) (fun _=>true) r w→Q .normal a w):
  wpAny Tryz.prog .any ops Q ops.size (Array.replicate ops.size false) a w:=by
 have hsz:ops.size=61:=by
  have:=congrArg List.length htab
  simpa[opT] using this
 refine pw 74 hok (opG x) (opH x) (opB x E w0) (sn x) ?_ a w hn ⟨h1,h2,h3,h4,h5,fun p _ q=>?_,fun q=>?_⟩ ?_
 ·intro i o listed a w ho hi hls hn hB hg hall K' hK
  have c:OpC x E w0 ops i o listed a w:=⟨ho,hi,hls,hn,hB,hg,hall,hok,htab,hwt⟩;have hlt:i<61:=by rw[←hsz];exact(gl ho)
  clear ho hi hls hn hB hg hall;rcases Nat.lt_succ_iff_lt_or_eq.1 hlt with hlt|rfl;rotate_left
  ·exact uW m c hK
  rcases Nat.lt_succ_iff_lt_or_eq.1 hlt with hlt|rfl;rotate_left
  ·exact uV m c hK
  rcases Nat.lt_succ_iff_lt_or_eq.1 hlt with hlt|rfl;rotate_left
  ·exact uU m c hK
  rcases Nat.lt_succ_iff_lt_or_eq.1 hlt with hlt|rfl;rotate_left
  ·exact uT m c hK
  rcases Nat.lt_succ_iff_lt_or_eq.1 hlt with hlt|rfl;rotate_left
  ·exact BU m c hK
  rcases Nat.lt_succ_iff_lt_or_eq.1 hlt with hlt|rfl;rotate_left
  ·exact uR m c hK
  rcases Nat.lt_succ_iff_lt_or_eq.1 hlt with hlt|rfl;rotate_left
  ·exact uQ m c hK
  rcases Nat.lt_succ_iff_lt_or_eq.1 hlt with hlt|rfl;rotate_left
  ·exact uP m c hK
  rcases Nat.lt_succ_iff_lt_or_eq.1 hlt with hlt|rfl;rotate_left
  ·exact uO m c hK
  rcases Nat.lt_succ_iff_lt_or_eq.1 hlt with hlt|rfl;rotate_left
  ·exact uN m c hK
  rcases Nat.lt_succ_iff_lt_or_eq.1 hlt with hlt|rfl;rotate_left
  ·exact BT m c hK
  rcases Nat.lt_succ_iff_lt_or_eq.1 hlt with hlt|rfl;rotate_left
  ·exact uL m c hK
  rcases Nat.lt_succ_iff_lt_or_eq.1 hlt with hlt|rfl;rotate_left
  ·exact uK m c hK
  rcases Nat.lt_succ_iff_lt_or_eq.1 hlt with hlt|rfl;rotate_left
  ·exact uJ m c hK
  rcases Nat.lt_succ_iff_lt_or_eq.1 hlt with hlt|rfl;rotate_left
  ·exact uI m c hK
  rcases Nat.lt_succ_iff_lt_or_eq.1 hlt with hlt|rfl;rotate_left
  ·exact uH m c hK
  rcases Nat.lt_succ_iff_lt_or_eq.1 hlt with hlt|rfl;rotate_left
  ·exact uG m c hK
  rcases Nat.lt_succ_iff_lt_or_eq.1 hlt with hlt|rfl;rotate_left
  ·exact uE m c hK
  rcases Nat.lt_succ_iff_lt_or_eq.1 hlt with hlt|rfl;rotate_left
  ·exact uD m c hK
  rcases Nat.lt_succ_iff_lt_or_eq.1 hlt with hlt|rfl;rotate_left
  ·exact BS m c hK
  rcases Nat.lt_succ_iff_lt_or_eq.1 hlt with hlt|rfl;rotate_left
  ·exact uB m c hK
  rcases Nat.lt_succ_iff_lt_or_eq.1 hlt with hlt|rfl;rotate_left
  ·exact BR m c hK
  rcases Nat.lt_succ_iff_lt_or_eq.1 hlt with hlt|rfl;rotate_left
  ·exact uz m c hK
  rcases Nat.lt_succ_iff_lt_or_eq.1 hlt with hlt|rfl;rotate_left
  ·exact uy m c hK
  rcases Nat.lt_succ_iff_lt_or_eq.1 hlt with hlt|rfl;rotate_left
  ·exact ux m c hK
  rcases Nat.lt_succ_iff_lt_or_eq.1 hlt with hlt|rfl;rotate_left
  ·exact uw m c hK
  rcases Nat.lt_succ_iff_lt_or_eq.1 hlt with hlt|rfl;rotate_left
  ·exact uv m c hK
  rcases Nat.lt_succ_iff_lt_or_eq.1 hlt with hlt|rfl;rotate_left
  ·exact ut m c hK
  rcases Nat.lt_succ_iff_lt_or_eq.1 hlt with hlt|rfl;rotate_left
  ·exact ur m c hK
  rcases Nat.lt_succ_iff_lt_or_eq.1 hlt with hlt|rfl;rotate_left
  ·exact uq m c hK
  rcases Nat.lt_succ_iff_lt_or_eq.1 hlt with hlt|rfl;rotate_left
  ·exact un m c hK
  rcases Nat.lt_succ_iff_lt_or_eq.1 hlt with hlt|rfl;rotate_left
  ·exact um m c hK
  rcases Nat.lt_succ_iff_lt_or_eq.1 hlt with hlt|rfl;rotate_left
  ·exact ul m c hK
  rcases Nat.lt_succ_iff_lt_or_eq.1 hlt with hlt|rfl;rotate_left
  ·exact uk m c hK
  rcases Nat.lt_succ_iff_lt_or_eq.1 hlt with hlt|rfl;rotate_left
  ·exact uj m c hK
  rcases Nat.lt_succ_iff_lt_or_eq.1 hlt with hlt|rfl;rotate_left
  ·exact ui m c hK
  rcases Nat.lt_succ_iff_lt_or_eq.1 hlt with hlt|rfl;rotate_left
  ·exact uh m c hK
  rcases Nat.lt_succ_iff_lt_or_eq.1 hlt with hlt|rfl;rotate_left
  ·exact ug m c hK
  rcases Nat.lt_succ_iff_lt_or_eq.1 hlt with hlt|rfl;rotate_left
  ·exact ue m c hK
  rcases Nat.lt_succ_iff_lt_or_eq.1 hlt with hlt|rfl;rotate_left
  ·exact ud m c hK
  rcases Nat.lt_succ_iff_lt_or_eq.1 hlt with hlt|rfl;rotate_left
  ·exact BQ m c hK
  rcases Nat.lt_succ_iff_lt_or_eq.1 hlt with hlt|rfl;rotate_left
  ·exact BO m c hK
  rcases Nat.lt_succ_iff_lt_or_eq.1 hlt with hlt|rfl;rotate_left
  ·exact tZ m c hK
  rcases Nat.lt_succ_iff_lt_or_eq.1 hlt with hlt|rfl;rotate_left
  ·exact tY m c hK
  rcases Nat.lt_succ_iff_lt_or_eq.1 hlt with hlt|rfl;rotate_left
  ·exact tX m c hK
  rcases Nat.lt_succ_iff_lt_or_eq.1 hlt with hlt|rfl;rotate_left
  ·exact tW m c hK
  rcases Nat.lt_succ_iff_lt_or_eq.1 hlt with hlt|rfl;rotate_left
  ·exact tV m c hK
  rcases Nat.lt_succ_iff_lt_or_eq.1 hlt with hlt|rfl;rotate_left
  ·exact tU m c hK
  rcases Nat.lt_succ_iff_lt_or_eq.1 hlt with hlt|rfl;rotate_left
  ·exact tT m c hK
  rcases Nat.lt_succ_iff_lt_or_eq.1 hlt with hlt|rfl;rotate_left
  ·exact tS m c hK
  rcases Nat.lt_succ_iff_lt_or_eq.1 hlt with hlt|rfl;rotate_left
  ·exact tR m c hK
  rcases Nat.lt_succ_iff_lt_or_eq.1 hlt with hlt|rfl;rotate_left
  ·exact vE m c hK
  rcases Nat.lt_succ_iff_lt_or_eq.1 hlt with hlt|rfl;rotate_left
  ·exact vD m c hK
  rcases Nat.lt_succ_iff_lt_or_eq.1 hlt with hlt|rfl;rotate_left
  ·exact vC m c hK
  rcases Nat.lt_succ_iff_lt_or_eq.1 hlt with hlt|rfl;rotate_left
  ·exact vB m c hK
  rcases Nat.lt_succ_iff_lt_or_eq.1 hlt with hlt|rfl;rotate_left
  ·exact vA m c hK
  rcases Nat.lt_succ_iff_lt_or_eq.1 hlt with hlt|rfl;rotate_left
  ·exact vy m c hK
  rcases Nat.lt_succ_iff_lt_or_eq.1 hlt with hlt|rfl;rotate_left
  ·exact vx m c hK
  rcases Nat.lt_succ_iff_lt_or_eq.1 hlt with hlt|rfl;rotate_left
  ·exact vw m c hK
  rcases Nat.lt_succ_iff_lt_or_eq.1 hlt with hlt|rfl;rotate_left
  ·exact vv m c hK
  rcases Nat.lt_succ_iff_lt_or_eq.1 hlt with hlt|rfl;rotate_left
  ·exact vu m c hK
  exact absurd hlt (Nat.not_lt_zero _)
 ·by_cases h:p.1<ops.size<;>simp[h] at q
 ·simp[hsz] at q
 ·intro listed a w hall hn hB hg
  obtain⟨q1,q2,q3,q4,q5,_,_⟩:=hB;obtain⟨o',ho',_,hd⟩:=mN htab (i:=60) rfl;obtain⟨r,e,hm⟩:∃r,fp a o'=.map (some r)∧ey opL (opV x) (fun _=>true) r w:=hg 60 o' ho';have h4:=ox hd (by rw[hn];exact((iP hok ho').2.2 _ hd).1);rw[e] at h4;exact hdone a w r hn q1 q2 q3 h4 q4 q5 hm
theorem pz(t:Array Value):t.toList=(List.range t.size).map fun i=>t.getD i undef:=by
 refine List.ext_getElem? fun i=>?_
 rcases Nat.lt_or_ge i t.size with h|h
 ·simp[h]
 ·simp[h]
theorem oy{t:Array Value}(h:t.size=74):∃x0 x1 x2 x3 x4 x5 x6 x7 x8 x9 x10 x11 x12 x13 x14 x15 x16 x17 x18 x19 x20 x21 x22 x23 x24 x25 x26 x27 x28 x29 x30 x31 x32 x33 x34 x35 x36 x37 x38 x39 x40 x41 x42 x43 x44 x45 x46 x47 x48 x49 x50 x51 x52 x53 x54 x55 x56 x57 x58 x59 x60 x61 x62 x63 x64 x65 x66 x67 x68 x69 x70 x71 x72 x73,t=#[x0,x1,x2,x3,x4,x5,x6,x7,x8,x9,x10,x11,x12,x13,x14,x15,x16,x17,x18,x19,x20,x21,x22,x23,x24,x25,x26,x27,x28,x29,x30,x31,x32,x33,x34,x35,x36,x37,x38,x39,x40,x41,x42,x43,x44,x45,x46,x47,x48,x49,x50,x51,x52,x53,x54,x55,x56,x57,x58,x59,x60,x61,x62,x63,x64,x65,x66,x67,x68,x69,x70,x71,x72,x73]:=by
 have q:=pz t;rw[h] at q;exact⟨_,_,_,_,_,_,_,_,_,_,_,_,_,_,_,_,_,_,_,_,_,_,_,_,_,_,_,_,_,_,_,_,_,_,_,_,_,_,_,_,_,_,_,_,_,_,_,_,_,_,_,_,_,_,_,_,_,_,_,_,_,_,_,_,_,_,_,_,_,_,_,_,_,_,by rw[←Array.toArray_toList (xs:=t),q];rfl⟩
theorem dG(x:OpX)(A:Array Value)(w:World)(i:Nat)(k:Int)(hL:(i,k)∈opL)(el:El)(hs:SmE el)(hx:x.M=w.heap.size)
  (h1:A[1]?=some (.int .i64 k)) (h2:A[2]?=some (.string ⟨x.dn.toArray⟩)) (h13:A[13]?=some x.vm) (h14:A[14]?=some x.va) (h19:A[19]?=some (.string ⟨x.typ.toArray⟩)) (h20:A[20]?=some (.string ⟨x.value.toArray⟩))
  (styp:x.typ.length≤1000000000) (sval:x.value.length≤1000000000)
  (hmods:∀w',Bw w w'→Calls Tryz.prog 82 #[x.vm] w' fun e w''=>(∃v,e=.returned v∧rp x.lm v w'')∧Bw w' w'')
  (hattrs:∀w',Bw w w'→Calls Tryz.prog 83 #[x.va] w' fun e w''=>(∃v,e=.returned v∧rp x.la v w'')∧Bw w' w'')
  (hc:∀v w',opV x i v w'→Bw w w'→Hc w' w.heap.size A 32→∃fn cap,v=.func (.func fn) #[] cap∧(∀args W,(callFunc fn args).run Tryz.prog W=.ok (.enter fn args) W)∧
   Calls Tryz.prog fn cap w' fun e w''=>(∃u,e=.returned (.agg (elA el u))∧bf (fun _=>True) w'' u el.kids)∧Bw w' w''):
  Calls Tryz.prog 48 #[.agg A] w fun e w'=>(∃u,e=.returned (.agg (elA (.mk 1 k el.cons el.bytes el.kids) u))∧bf (fun g=>w.heap.size≤g) w' u el.kids)∧Bw w w':=by
 obtain⟨PR,hPR⟩:∃PR:Ending→World→Prop,PR=fun e w'=>(∃u,e=.returned (.agg (elA (.mk 1 k el.cons el.bytes el.kids) u))∧bf (fun g=>w.heap.size≤g) w' u el.kids)∧Bw w w':=⟨_,rfl⟩
 rw[←hPR];have HPR:=hid hPR;clear hPR;have b1:Bw w ((w.alloc (.cells A 32)).alloc (.cells Ze 40)):=((aA _ _).alloc (ah _) _).alloc (by simp) _;have m1:Hc ((w.alloc (.cells A 32)).alloc (.cells Ze 40)) w.heap.size A 32:=(alloc_old _ _ _ (by simp)).trans (fb _ _ _ rfl);have t1:Hc ((w.alloc (.cells A 32)).alloc (.cells Ze 40)) (w.heap.size+1) Ze 40:=fb _ _ _ (by simp);have z1:((w.alloc (.cells A 32)).alloc (.cells Ze 40)).heap.size=w.heap.size+2:=by simp
 have Z1:=hid z1;clear z1;have G1:=hid h1;clear h1;have HC:=hid hc;clear hc;have M:OpM x ((w.alloc (.cells A 32)).alloc (.cells Ze 40)):=by
  have hcell:∀j,((w.alloc (.cells A 32)).alloc (.cells Ze 40)).cell? ⟨x.M,j,none⟩=A[j]?:=fun j=>by rw[hx];exact aq m1 j
  refine⟨(hcell 2).trans h2,(hcell 13).trans h13,(hcell 14).trans h14,(hcell 19).trans h19,(hcell 20).trans h20,fun w' hb=>hmods w' ((btt b1 hb)),fun w' hb=>hattrs w' ((btt b1 hb)),styp,sval⟩
 clear h2 h13 h14 h19 h20 styp sval hmods hattrs
 go_enter Tryz.func48,Tryz.ntmps48
 go_upto_region 1 with fail
 generalize(w.alloc (.cells A 32)).alloc (.cells Ze 40)=w1 at b1 m1 t1 Z1 M⊢
 go_upto_region 2 with fail
 refine wp_region_any (by kernel_rfl) ?_;refine lJ (x:=x) (E:=.pointer (some ⟨w.heap.size+1,0,none⟩)) (w0:=w1) M (by kernel_rfl) (by kernel_rfl) (by kernel_rfl) _ _ rfl (by rw[hx];rfl) rfl rfl rfl (show Bw w1 w1.drew from(aA _ _).drew) ?_;intro a2 w2 r hn s1 s2 s3 s4 hd b2 hm;obtain⟨tmps,defers⟩:=a2;simp only at hn s1 s2 s3 s4 hd;subst hd;obtain⟨x0,x1,x2,x3,x4,x5,x6,x7,x8,x9,x10,x11,x12,x13,x14,x15,x16,x17,x18,x19,x20,x21,x22,x23,x24,x25,x26,x27,x28,x29,x30,x31,x32,x33,x34,x35,x36,x37,x38,x39,x40,x41,x42,x43,x44,x45,x46,x47,x48,x49,x50,x51,x52,x53,x54,x55,x56,x57,x58,x59,x60,x61,x62,x63,x64,x65,x66,x67,x68,x69,x70,x71,x72,x73,rfl⟩:=oy hn;clear hn;simp only[List.getElem?_toArray,List.getElem?_cons_succ,List.getElem?_cons_zero,Option.some.injEq] at s1 s2 s3 s4;subst s1 s2 s3 s4;clear M;rw[hx];have m2:=bkk b2 m1;have t2:=bkk b2 t1;have b3:=btt b1 b2;clear m1 t1 b1 b2;have q1:w2.cell? ⟨w.heap.size,1,none⟩=some (.int .i64 k):=(aq m2 1).trans G1.out;obtain⟨es,c,hb,hq1,hq2⟩:=hm;have hz:(zeroValue 118).run Tryz.prog w2=.ok .nilFunc w2:=by go_simp
 have hlk:=jT (P:=Tryz.prog) w2 125 3 118 r c es k .nilFunc (by kernel_rfl) (by kernel_rfl) hb (fun z hz=>by obtain⟨p,_,_,e,_⟩:=hq1 z hz;exact⟨_,e⟩) hz;rcases hlk with⟨z,hz1,hz2,hrun⟩|⟨hno,_⟩;rotate_left
 ·exfalso
  obtain⟨z,hz1,hz2⟩:=hq2 (i,k) hL rfl;exact hno z hz1 hz2
 obtain⟨p,hp,_,hp2,hv⟩:=hq1 z hz1;rw[hz2] at hp2
 injection hp2 with _ hp2
 have hpi:p.1=i:=by
  have:∀p∈opL,∀q∈opL,p.2=q.2→p.1=q.1:=by decide
  exact this p hp (i,k) hL hp2.symm
 rw[hpi] at hv;have HV:=hid hv;obtain⟨v,hvz⟩:=nmm z.val;rw[hvz] at hrun HV;clear hb hq1 hq2 hz hz1 hz2 hp hp2 hpi hvz hv hL;clear es c;simp only[Exit.then];refine‹∀(a:Act) (w:World),Code.wp _ _ _ a w→_› _ _ ?_
 go_upto_region 6 with fail
 clear q1 hrun;obtain⟨fn,cap,rfl,hcf,hcall⟩:=HC.out v w2.drew (jn x i v _ _ (Hk.below (aA _ _).drew) HV.out) b3.drew m2;clear HV HC;refine aR (S:=fun w'=>Hc w' w.heap.size A 32) (by kernel_rfl) ?_;have T:Hc w2.drew w.heap.size A 32:=m2;have D:Bw w w2.drew:=b3.drew;have R:Hc w2.drew (w.heap.size+1) Ze 40:=t2
 change wpAnyH _ _ _ _ _ _ _ _ w2.drew
 clear m2 t2 b3;generalize w2.drew=w5 at T D R hcall⊢;obtain⟨HS,HX⟩:=Cg hs hx;clear hs hx;refine tn 0 (.func (.func fn) #[] cap) rfl (fun w' hS=>by go_simp) T ?_;refine tp 2 ⟨w.heap.size,1,none⟩ rfl T ?_;refine tn 3 (.int .i64 k) rfl (fun w' hS=>by have q:=(aq hS 1).trans G1.out;go_simp) T ?_;refine ao 1 rfl (fun K hK=>?_);go_simp;go_wp2_with fail
 refine ag hcall ?_;rintro e w6 ⟨⟨u,rfl,hu⟩,hb6⟩;have T6:=bkk hb6 T;have R6:=bkk hb6 R;have D6:=btt D hb6;clear hcall hcf hb6 T R D;refine hK _ _ T6 ?_;clear hK K
 have kc:=jV el u 1 k w6 hu HS.out;have hs6:=(gl R6);refine ao 4 rfl (fun K hK=>?_);go_simp;go_wp2_with fail
 refine ag kc ?_;rintro e w7 ⟨⟨u7,rfl,hu7⟩,hb7⟩;have T7:=bkk hb7 T6;have R7:=bkk hb7 R6;have D7:=btt D6 hb7;clear kc hb7 T6 R6 D6 hu;refine hK _ _ T7 ?_;clear hK K
 obtain⟨E,hE⟩:=nmm (elA (.mk 1 k el.cons el.bytes el.kids) u7);have hE1:E.all (·.oneCell')=true:=by
  obtain⟨a,c,hsl⟩:=hu7.shape;subst hsl;rw[←hE];simp[elA,Value.oneCell']
 have hE2:E.size=5:=by rw[←hE];rfl
 rw[hE];obtain⟨HE,HE1,HE2⟩:=Ch hE hE1 hE2;clear hE hE1 hE2;have TF:Hc (w7.setRow (w.heap.size+1) E) w.heap.size A 32:=(setRow_other w7 (w.heap.size+1) w.heap.size E (by omega)).trans T7;have bF:=xo D7 (g:=w.heap.size+1) (by omega) E;have tF:=setRow_heap w7 (w.heap.size+1) _ E _ _ R7;have uF:bf (fun g=>w.heap.size≤g) (w7.setRow (w.heap.size+1) E) u7 el.kids:=hu7.kept fun g hg hl=>⟨setRow_other w7 (w.heap.size+1) g E (by omega),by omega⟩
 refine ao 5 rfl (fun K hK=>?_);refine xx 40 (.tmp 2) (.tmp 73) rfl (w.heap.size+1) 40 _ E (by rfl) (by rfl) R7 (by rw[HE2.out];rfl) (by rw[HE2.out];rfl) HE1.out ?_;refine hK _ _ TF ?_;clear hK K
 refine xk (by kernel_rfl) ?_ _;simp only[Exit.then];refine‹∀(a:Act) (w:World),Code.wp _ _ _ a w→_› _ _ ?_;clear T7 R7 D7 TF hu7;generalize w7.setRow (w.heap.size+1) E=wF at bF tF uF⊢;have UF:=hid uF;clear uF;go_simp
 go_wp2_with fail
 refine aH (v:=.agg E) ?_ rfl (by rw[HPR.out];exact⟨⟨u7,by rw[HE.out],UF.out⟩,bF⟩);have hr:=rlE tF HE2.out
 simp[results,Tryz.f48]
 exact hr
theorem tr(x:OpX)(A:Array Value)(w:World)(k:Int)(hL:∀p∈opL,p.2≠k)(els:List El)(hs:SmL els)(hl:els.length≤1000000000)(hx:x.M=w.heap.size)(hA28:A.size=28)
  (h1:A[1]?=some (.int .i64 k)) (h2:A[2]?=some (.string ⟨x.dn.toArray⟩)) (h13:A[13]?=some x.vm) (h14:A[14]?=some x.va) (h19:A[19]?=some (.string ⟨x.typ.toArray⟩)) (h20:A[20]?=some (.string ⟨x.value.toArray⟩))
  (styp:x.typ.length≤1000000000) (sval:x.value.length≤1000000000)
  (hmods:∀w',Bw w w'→Calls Tryz.prog 82 #[x.vm] w' fun e w''=>(∃v,e=.returned v∧rp x.lm v w'')∧Bw w' w'')
  (hattrs:∀w',Bw w w'→Calls Tryz.prog 83 #[x.va] w' fun e w''=>(∃v,e=.returned v∧rp x.la v w'')∧Bw w' w'')
  (hans:∀w',Bw w w'→Calls Tryz.prog 88 #[.agg A] w' fun e w''=>(∃v a n c,e=.returned v∧v=.slice a n c∧bf (fun _=>True) w'' v els)∧Bw w' w''):
  Calls Tryz.prog 48 #[.agg A] w fun e w'=>(∃u,e=.returned (.agg (elA (.mk 1 k true [] els) u))∧bf (fun g=>w.heap.size≤g) w' u els)∧Bw w w':=by
 obtain⟨PR,hPR⟩:∃PR:Ending→World→Prop,PR=fun e w'=>(∃u,e=.returned (.agg (elA (.mk 1 k true [] els) u))∧bf (fun g=>w.heap.size≤g) w' u els)∧Bw w w':=⟨_,rfl⟩
 rw[←hPR];have HPR:=hid hPR;clear hPR;have b1:Bw w ((w.alloc (.cells A 32)).alloc (.cells Ze 40)):=((aA _ _).alloc (ah _) _).alloc (by simp) _;have m1:Hc ((w.alloc (.cells A 32)).alloc (.cells Ze 40)) w.heap.size A 32:=(alloc_old _ _ _ (by simp)).trans (fb _ _ _ rfl);have t1:Hc ((w.alloc (.cells A 32)).alloc (.cells Ze 40)) (w.heap.size+1) Ze 40:=fb _ _ _ (by simp);have z1:((w.alloc (.cells A 32)).alloc (.cells Ze 40)).heap.size=w.heap.size+2:=by simp
 have Z1:=hid z1;clear z1;have G1:=hid h1;clear h1;have HC:=hid hans;clear hans;have M:OpM x ((w.alloc (.cells A 32)).alloc (.cells Ze 40)):=by
  have hcell:∀j,((w.alloc (.cells A 32)).alloc (.cells Ze 40)).cell? ⟨x.M,j,none⟩=A[j]?:=fun j=>by rw[hx];exact aq m1 j
  refine⟨(hcell 2).trans h2,(hcell 13).trans h13,(hcell 14).trans h14,(hcell 19).trans h19,(hcell 20).trans h20,fun w' hb=>hmods w' ((btt b1 hb)),fun w' hb=>hattrs w' ((btt b1 hb)),styp,sval⟩
 clear h2 h13 h14 h19 h20 styp sval hmods hattrs
 go_enter Tryz.func48,Tryz.ntmps48
 go_upto_region 1 with fail
 generalize(w.alloc (.cells A 32)).alloc (.cells Ze 40)=w1 at b1 m1 t1 Z1 M⊢
 go_upto_region 2 with fail
 refine wp_region_any (by kernel_rfl) ?_;refine lJ (x:=x) (E:=.pointer (some ⟨w.heap.size+1,0,none⟩)) (w0:=w1) M (by kernel_rfl) (by kernel_rfl) (by kernel_rfl) _ _ rfl (by rw[hx];rfl) rfl rfl rfl (show Bw w1 w1.drew from(aA _ _).drew) ?_;intro a2 w2 r hn s1 s2 s3 s4 hd b2 hm;obtain⟨tmps,defers⟩:=a2;simp only at hn s1 s2 s3 s4 hd;subst hd;obtain⟨x0,x1,x2,x3,x4,x5,x6,x7,x8,x9,x10,x11,x12,x13,x14,x15,x16,x17,x18,x19,x20,x21,x22,x23,x24,x25,x26,x27,x28,x29,x30,x31,x32,x33,x34,x35,x36,x37,x38,x39,x40,x41,x42,x43,x44,x45,x46,x47,x48,x49,x50,x51,x52,x53,x54,x55,x56,x57,x58,x59,x60,x61,x62,x63,x64,x65,x66,x67,x68,x69,x70,x71,x72,x73,rfl⟩:=oy hn;clear hn;simp only[List.getElem?_toArray,List.getElem?_cons_succ,List.getElem?_cons_zero,Option.some.injEq] at s1 s2 s3 s4;subst s1 s2 s3 s4;clear M;rw[hx];have m2:=bkk b2 m1;have t2:=bkk b2 t1;have b3:=btt b1 b2;clear m1 t1 b1 b2;have q1:w2.cell? ⟨w.heap.size,1,none⟩=some (.int .i64 k):=(aq m2 1).trans G1.out;obtain⟨es,c,hb,hq1,hq2⟩:=hm;have hz:(zeroValue 118).run Tryz.prog w2=.ok .nilFunc w2:=by go_simp
 have hlk:=jT (P:=Tryz.prog) w2 125 3 118 r c es k .nilFunc (by kernel_rfl) (by kernel_rfl) hb (fun z hz=>by obtain⟨p,_,_,e,_⟩:=hq1 z hz;exact⟨_,e⟩) hz;rcases hlk with⟨z,hz1,hz2,hrun⟩|⟨-,hrun⟩
 ·exfalso
  obtain⟨p,hp,_,hp2,_⟩:=hq1 z hz1;rw[hz2] at hp2
  injection hp2 with _ hp2
  exact hL p hp hp2.symm
 clear hb hq1 hq2 hz hL;clear es c;simp only[Exit.then];refine‹∀(a:Act) (w:World),Code.wp _ _ _ a w→_› _ _ ?_
 go_upto_region 5 with fail
 clear q1 hrun;have kc:=HC.out w2 b3;clear HC;have HA28:=hid hA28;clear hA28
 go_wp2_with (refine ldM (.tmp 1) m2 HA28.out ?_)
 refine ag kc ?_;rintro e w6 ⟨⟨v,av,nv,cv,rfl,hv,hkv⟩,hb6⟩;subst hv;have m6:=bkk hb6 m2;have t6:=bkk hb6 t2;have b6:=btt b3 hb6;clear kc hb6 m2 t2 b3;have kc:=gK (.slice av nv cv) w6 ⟨_,_,_,rfl⟩
 go_wp2_with fail
 refine ag kc ?_;rintro e w8 ⟨⟨bc,rfl,hcc⟩,hb8⟩;have m8:=bkk hb8 m6;have t8:=bkk hb8 t6;have b8:=btt b6 hb8;have hkv8:=hkv.below hb8;clear kc hb8 m6 t6 b6 hkv
 go_upto_region 6 with fail
 have hcall:=gh bc (.slice av nv cv) els w8.drew (by exact hcc) (hkv8.kept fun g hg _=>⟨rfl,trivial⟩) hs hl;clear hcc hkv8;refine aR (S:=fun w'=>Hc w' w.heap.size A 32) (by kernel_rfl) ?_;have T:Hc w8.drew w.heap.size A 32:=m8;have D:Bw w w8.drew:=b8.drew;have R:Hc w8.drew (w.heap.size+1) Ze 40:=t8
 change wpAnyH _ _ _ _ _ _ _ _ w8.drew
 clear m8 t8 b8;generalize w8.drew=w5 at T D R hcall⊢;have HS:Hid (SmE (.mk 0 16 true [] els)):=hid (by simp only[SmE];exact⟨by simp,hl,hs⟩);have HX:=hid hx;clear hs hx hl;refine tn 0 (.func (.func 76) #[] #[.pointer (some ⟨bc,0,none⟩)]) rfl (fun w' hS=>by go_simp) T ?_;refine tp 2 ⟨w.heap.size,1,none⟩ rfl T ?_;refine tn 3 (.int .i64 k) rfl (fun w' hS=>by have q:=(aq hS 1).trans G1.out;go_simp) T ?_;refine ao 1 rfl (fun K hK=>?_);go_simp;go_wp2_with fail
 refine ag hcall ?_;rintro e w6 ⟨⟨u,rfl,hu⟩,hb6⟩;have T6:=bkk hb6 T;have R6:=bkk hb6 R;have D6:=btt D hb6;clear hcall hb6 T R D;refine hK _ _ T6 ?_;clear hK K
 have kc:=jV (.mk 0 16 true [] els) u 1 k w6 (hu.mono (fun _ _ _=>trivial)) HS.out;simp only[El.cons,El.bytes,El.kids] at kc;have hs6:=(gl R6);refine ao 4 rfl (fun K hK=>?_);go_simp;go_wp2_with fail
 refine ag kc ?_;rintro e w7 ⟨⟨u7,rfl,hu7⟩,hb7⟩;have T7:=bkk hb7 T6;have R7:=bkk hb7 R6;have D7:=btt D6 hb7;clear kc hb7 T6 R6 D6 hu;refine hK _ _ T7 ?_;clear hK K
 obtain⟨E,hE⟩:=nmm (elA (.mk 1 k true [] els) u7);have hE1:E.all (·.oneCell')=true:=by
  obtain⟨a,c,hsl⟩:=hu7.shape;subst hsl;rw[←hE];simp[elA,Value.oneCell']
 have hE2:E.size=5:=by rw[←hE];rfl
 rw[hE];obtain⟨HE,HE1,HE2⟩:=Ch hE hE1 hE2;clear hE hE1 hE2;have TF:Hc (w7.setRow (w.heap.size+1) E) w.heap.size A 32:=(setRow_other w7 (w.heap.size+1) w.heap.size E (by omega)).trans T7;have bF:=xo D7 (g:=w.heap.size+1) (by omega) E;have tF:=setRow_heap w7 (w.heap.size+1) _ E _ _ R7;have uF:bf (fun g=>w.heap.size≤g) (w7.setRow (w.heap.size+1) E) u7 els:=hu7.kept fun g hg hl=>⟨setRow_other w7 (w.heap.size+1) g E (by omega),by omega⟩
 refine ao 5 rfl (fun K hK=>?_);refine xx 40 (.tmp 2) (.tmp 73) rfl (w.heap.size+1) 40 _ E (by rfl) (by rfl) R7 (by rw[HE2.out];rfl) (by rw[HE2.out];rfl) HE1.out ?_;refine hK _ _ TF ?_;clear hK K
 refine xk (by kernel_rfl) ?_ _;simp only[Exit.then];refine‹∀(a:Act) (w:World),Code.wp _ _ _ a w→_› _ _ ?_;clear T7 R7 D7 TF hu7;generalize w7.setRow (w.heap.size+1) E=wF at bF tF uF⊢;have UF:=hid uF;clear uF;go_simp
 go_wp2_with fail
 refine aH (v:=.agg E) ?_ rfl (by rw[HPR.out];exact⟨⟨u7,by rw[HE.out],UF.out⟩,bF⟩);have hr:=rlE tF HE2.out
 simp[results,Tryz.f48]
 exact hr
theorem nR(b v:Nat)(A:Array Value)(dn secret:List UInt8)(w:World)(hb:Hc w b A 32)(hv:v≤127)(h2:A[2]?=some (.string ⟨dn.toArray⟩))(h3:A[3]?=some (.int .i64 (v:Int)))(h4:A[4]?=some (.bool true))(h5:A[5]?=some (.string ⟨secret.toArray⟩))(hd:dn.length≤1000000000)(hs:secret.length≤1000000000):
  Calls Tryz.prog 77 #[.pointer (some ⟨b,0,none⟩)] w fun e w'=>(∃u,e=.returned (.agg (elA (.mk 0 16 true [] [.mk 0 2 false [UInt8.ofNat v] [],.mk 0 4 false dn [],.mk 2 3 true [] [.mk 0 4 false secret []]]) u))∧bf (fun g=>w.heap.size≤g) w' u [.mk 0 2 false [UInt8.ofNat v] [],.mk 0 4 false dn [],.mk 2 3 true [] [.mk 0 4 false secret []]])∧Bw w w':=by
 obtain⟨PR,hPR⟩:∃PR:Ending→World→Prop,PR=fun e w'=>(∃u,e=.returned (.agg (elA (.mk 0 16 true [] [.mk 0 2 false [UInt8.ofNat v] [],.mk 0 4 false dn [],.mk 2 3 true [] [.mk 0 4 false secret []]]) u))∧bf (fun g=>w.heap.size≤g) w' u [.mk 0 2 false [UInt8.ofNat v] [],.mk 0 4 false dn [],.mk 2 3 true [] [.mk 0 4 false secret []]])∧Bw w w':=⟨_,rfl⟩
 rw[←hPR];obtain⟨HPR,G2,G3,G4,G5⟩:=Cj hPR h2 h3 h4 h5;clear hPR h2 h3 h4 h5;have hbl:=(gl hb);have b1:=alb w Ze 40;have t1:=alz w Ze 40;have m1:=(b1.block _ hbl).trans hb;clear hb
 go_enter Tryz.func77,Tryz.ntmps77
 go_upto_region 1 with fail
 generalize w.alloc (.cells Ze 40)=w1 at b1 t1 m1⊢;have q5:w1.cell? ⟨b,5,none⟩=some (.string ⟨secret.toArray⟩):=(aq m1 5).trans G5.out;have k1:=bz secret w1
 go_wp2_with fail
 refine ag k1 ?_;rintro e w2 ⟨rfl,hb2⟩;have m2:=bkk hb2 m1;have t2:=bkk hb2 t1;have b2:=btt b1 hb2;clear k1 hb2 q5 b1 t1 m1;have k2:=BY (.mk 0 4 false secret []) (Sn) 0 w2 (bf.nil _ _) (by simp[SmE,SmL];exact hs)
 go_wp2_with fail
 refine ag k2 ?_;rintro e w3 ⟨⟨u3,rfl,hu3⟩,hb3⟩;obtain⟨a3,c3,rfl⟩:=hu3.empty;have m3:=bkk hb3 m2;have t3:=bkk hb3 t2;have b3:=btt b2 hb3;clear k2 hb3 hu3 b2 t2 m2;simp only[elA,El.cls,El.tag,El.cons,El.bytes];have g4:=alb w3 #[.int .i64 2,I0,Bf,.string ⟨secret.toArray⟩,.slice a3 0 c3] 40;have x4:=alz w3 #[.int .i64 2,I0,Bf,.string ⟨secret.toArray⟩,.slice a3 0 c3] 40;have m4:=bkk g4 m3;have t4:=bkk g4 t3;have b4:=btt b3 g4;have hs3:=(gl t3);clear m3 t3 b3 g4
 go_upto_region 2 with fail
 generalize w3.alloc (.cells #[.int .i64 2,I0,Bf,.string ⟨secret.toArray⟩,.slice a3 0 c3] 40)=w4 at x4 m4 t4 b4⊢;have q4:w4.cell? ⟨b,4,none⟩=some (.bool true):=(aq m4 4).trans G4.out
 go_upto_region 3 with fail
 clear q4;generalize w3.heap.size=x at x4 hs3⊢;have q5:=(aq m4 5).trans G5.out;have kc:=bz secret w4
 go_wp2_with fail
 refine ag kc ?_;rintro e w31 ⟨rfl,hb⟩;have t31:=bkk hb t4;have m31:=bkk hb m4;have x31:=bkk hb x4;have b31:=btt b4 hb;clear kc hb t4 m4 x4 b4 q5;simp only[elA,El.cls,El.tag,El.cons,El.bytes];have hb:=alb w31 #[I0,.int .i64 4,Bf,.string ⟨secret.toArray⟩,Sn] 40;have y32:=alz w31 #[I0,.int .i64 4,Bf,.string ⟨secret.toArray⟩,Sn] 40;have t32:=bkk hb t31;have m32:=bkk hb m31;have x32:=bkk hb x31;have b32:=btt b31 hb;have hk1:bf (fun _=>True) (w31.alloc (.cells #[I0,.int .i64 4,Bf,.string ⟨secret.toArray⟩,Sn] 40)) (.slice (some ⟨w31.heap.size,0,none⟩) 1 1) [.mk 0 4 false secret []]:=
  EN (P:=fun _=>True) (l:=[.mk 0 4 false secret []]) (us:=[Sn]) y32 rfl rfl (fun j e u hj hu=>by
   have h3:j=0:=by have h9:=(List.getElem?_eq_some_iff.1 hj).1;simp at h9;omega
   subst h3
   simp at hj hu;subst hj;subst hu;exact bf.no _ _ _ _) trivial
 have kc:=cH [.mk 0 4 false secret []] _ _ hk1 (by simp[SmL,SmE];exact hs) (by simp);clear hb t31 m31 x31 b31 y32 hk1
 go_wp2_with fail
 generalize w31.alloc (.cells #[I0,.int .i64 4,Bf,.string ⟨secret.toArray⟩,Sn] 40)=w32 at t32 m32 x32 b32 kc⊢;refine ag kc ?_;rintro e w33 ⟨⟨u3,rfl,hu3⟩,hb⟩;have t33:=bkk hb t32;have m33:=bkk hb m32;have x33:=bkk hb x32;have b33:=btt b32 hb;clear kc hb t32 m32 x32 b32;have hx33:=(gl x33);have kc:=BY (.mk 0 16 true [] [.mk 0 4 false secret []]) u3 3 w33 (hu3.mono (fun _ _ _=>trivial)) (by simp[SmL,SmE];exact hs);simp only[El.cons,El.bytes,El.kids] at kc;clear hu3
 go_wp2_with fail
 refine ag kc ?_;rintro e w34 ⟨⟨u4,rfl,hu4⟩,hb⟩;obtain⟨a9,c9,hsu⟩:=hu4.shape;simp only[aG,aU] at hsu;subst hsu;have t34:=bkk hb t33;have m34:=bkk hb m33;have x34:=bkk hb x33;have b34:=btt b33 hb;clear kc hb t33 m33 x33 b33;simp only[elA,El.cls,El.tag,El.cons,El.bytes];have hxz:w.heap.size+1≤x:=by omega
 have hbx:b<x:=by omega
 have hz33:x<w33.heap.size:=by have:=(gl x34);exact hx33
 have m35:=(setRow_other w34 x b #[.int .i64 2,.int .i64 3,.bool true,Es,.slice a9 1 c9] (by omega)).trans m34;have t35:=(setRow_other w34 x w.heap.size #[.int .i64 2,.int .i64 3,.bool true,Es,.slice a9 1 c9] (by omega)).trans t34;have x35:=setRow_heap w34 x _ #[.int .i64 2,.int .i64 3,.bool true,Es,.slice a9 1 c9] _ _ x34;have b35:=xo b34 (g:=x) (by omega) #[.int .i64 2,.int .i64 3,.bool true,Es,.slice a9 1 c9];have U:bf (fun _=>True) (w34.setRow x #[.int .i64 2,.int .i64 3,.bool true,Es,.slice a9 1 c9]) (.slice a9 1 c9) [.mk 0 4 false secret []]:=hu4.kept fun g hg hl=>⟨setRow_other w34 x g #[.int .i64 2,.int .i64 3,.bool true,Es,.slice a9 1 c9] (by omega),trivial⟩
 have X34:=hid x34;clear hu4
 go_upto_region 4 with(refine stE (.tmp 2) (.tmp 14) #[.int .i64 2,.int .i64 3,.bool true,Es,.slice a9 1 c9] X34.out rfl (by simp[Value.oneCell']) ?_)
 clear X34 t34 m34 x34 b34;generalize w34.setRow x #[.int .i64 2,.int .i64 3,.bool true,Es,.slice a9 1 c9]=w4 at m35 t35 x35 b35 U⊢;obtain⟨m4,t4,x4,b4⟩:_∧_∧_∧_:=⟨m35,t35,x35,b35⟩;clear m35 t35 x35 b35;refine aR (S:=fun w'=>Hc w' b A 32∧Hc w' x #[.int .i64 2,.int .i64 3,.bool true,Es,.slice a9 1 c9] 40) (by kernel_rfl) ?_;have T:Hc w4.drew b A 32∧Hc w4.drew x #[.int .i64 2,.int .i64 3,.bool true,Es,.slice a9 1 c9] 40:=⟨m4,x4⟩;have D:Bw w w4.drew:=b4.drew;have R:Hc w4.drew w.heap.size Ze 40:=t4
 change wpAnyH _ _ _ _ _ _ _ _ w4.drew
 clear m4 x4 t4 b4;have U:=U.kept (w':=w4.drew) (Q:=fun _=>True) (fun g hg _=>⟨rfl,trivial⟩);generalize w4.drew=w5 at T D R U⊢;refine tp 0 ⟨b,3,none⟩ rfl T ?_;refine tn 1 (.int .i64 (v:Int)) rfl (fun w' hS=>by have q:=(aq hS.1 3).trans G3.out;go_simp) T ?_;refine tp 3 ⟨b,2,none⟩ rfl T ?_;refine tn 4 (.string ⟨dn.toArray⟩) rfl (fun w' hS=>by have q:=(aq hS.1 2).trans G2.out;go_simp) T ?_;refine tn 6 (.agg #[.int .i64 2,.int .i64 3,.bool true,Es,.slice a9 1 c9]) rfl (fun w' hS=>by exact cU 40 (.tmp 2) rfl x 40 _ (0,0) (by rfl) hS.2 _ Tryz.underlying40 rfl (by rfl)) T ?_;have kc:=ln 2 v hv w5;refine ao 2 rfl (fun K hK=>?_);go_simp;go_wp2_with fail
 refine ag kc ?_;rintro e w6 ⟨rfl,hbn⟩;have T9:Hc w6 b A 32∧Hc w6 x #[.int .i64 2,.int .i64 3,.bool true,Es,.slice a9 1 c9] 40:=⟨(hbn.block _ (gl T.1)).trans T.1,(hbn.block _ (gl T.2)).trans T.2⟩;have R9:=bkk hbn R;have D9:=btt D hbn;have U:=U.below hbn;clear kc hbn T R D;have T:=T9;have R:=R9;have D:=D9;clear T9 R9 D9;refine hK _ _ T ?_;clear hK K
 have kc:=bz dn w6;refine ao 5 rfl (fun K hK=>?_);go_simp;go_wp2_with fail
 refine ag kc ?_;rintro e w7 ⟨rfl,hbn⟩;have T9:Hc w7 b A 32∧Hc w7 x #[.int .i64 2,.int .i64 3,.bool true,Es,.slice a9 1 c9] 40:=⟨(hbn.block _ (gl T.1)).trans T.1,(hbn.block _ (gl T.2)).trans T.2⟩;have R9:=bkk hbn R;have D9:=btt D hbn;have U:=U.below hbn;clear kc hbn T R D;have T:=T9;have R:=R9;have D:=D9;clear T9 R9 D9;refine hK _ _ T ?_;clear hK K
 simp only[elA,El.cls,El.tag,El.cons,El.bytes];have g8:=alb w7 #[I0,.int .i64 2,Bf,.string ⟨[UInt8.ofNat v].toArray⟩,Sn,I0,.int .i64 4,Bf,.string ⟨dn.toArray⟩,Sn,.int .i64 2,.int .i64 3,.bool true,Es,.slice a9 1 c9] 40;have y8:=alz w7 #[I0,.int .i64 2,Bf,.string ⟨[UInt8.ofNat v].toArray⟩,Sn,I0,.int .i64 4,Bf,.string ⟨dn.toArray⟩,Sn,.int .i64 2,.int .i64 3,.bool true,Es,.slice a9 1 c9] 40;have T8:Hc (w7.alloc (.cells #[I0,.int .i64 2,Bf,.string ⟨[UInt8.ofNat v].toArray⟩,Sn,I0,.int .i64 4,Bf,.string ⟨dn.toArray⟩,Sn,.int .i64 2,.int .i64 3,.bool true,Es,.slice a9 1 c9] 40)) b A 32∧Hc (w7.alloc (.cells #[I0,.int .i64 2,Bf,.string ⟨[UInt8.ofNat v].toArray⟩,Sn,I0,.int .i64 4,Bf,.string ⟨dn.toArray⟩,Sn,.int .i64 2,.int .i64 3,.bool true,Es,.slice a9 1 c9] 40)) x #[.int .i64 2,.int .i64 3,.bool true,Es,.slice a9 1 c9] 40:=⟨(g8.block _ (gl T.1)).trans T.1,(g8.block _ (gl T.2)).trans T.2⟩;have R8:=bkk g8 R;have D8:=btt D g8;have U:=U.below g8;clear T R D g8;refine ao 7 rfl (kks T8 ?_);generalize w7.alloc (.cells #[I0,.int .i64 2,Bf,.string ⟨[UInt8.ofNat v].toArray⟩,Sn,I0,.int .i64 4,Bf,.string ⟨dn.toArray⟩,Sn,.int .i64 2,.int .i64 3,.bool true,Es,.slice a9 1 c9] 40)=w8 at y8 T8 R8 D8 U⊢;have hk8:bf (fun _=>True) w8 (.slice (some ⟨w7.heap.size,0,none⟩) 3 3) [.mk 0 2 false [UInt8.ofNat v] [],.mk 0 4 false dn [],.mk 2 3 true [] [.mk 0 4 false secret []]]:=
  EN (P:=fun _=>True) (l:=[.mk 0 2 false [UInt8.ofNat v] [],.mk 0 4 false dn [],.mk 2 3 true [] [.mk 0 4 false secret []]]) (us:=[Sn,Sn,.slice a9 1 c9]) y8 rfl rfl (fun j e u hj hu=>by
   have h3:j=0∨j=1∨j=2:=by have h9:=(List.getElem?_eq_some_iff.1 hj).1;simp at h9;omega
   rcases h3 with rfl|rfl|rfl
   ·simp at hj hu;subst hj;subst hu;exact bf.no _ _ _ _
   ·simp at hj hu;subst hj;subst hu;exact bf.no _ _ _ _
   ·simp at hj hu;subst hj;subst hu;exact U) trivial
 have kc:=cH [.mk 0 2 false [UInt8.ofNat v] [],.mk 0 4 false dn [],.mk 2 3 true [] [.mk 0 4 false secret []]] _ w8 hk8 (by simp[SmL,SmE];exact⟨hd,hs⟩) (by simp);refine ao 8 rfl (fun K hK=>?_);go_simp;go_wp2_with fail
 refine ag kc ?_;rintro e w9 ⟨⟨u9,rfl,hu9⟩,hb9⟩;have T9:Hc w9 b A 32∧Hc w9 x #[.int .i64 2,.int .i64 3,.bool true,Es,.slice a9 1 c9] 40:=⟨(hb9.block _ (gl T8.1)).trans T8.1,(hb9.block _ (gl T8.2)).trans T8.2⟩;have R9:=bkk hb9 R8;have D9:=btt D8 hb9;have hs8:=(gl R8);clear kc hb9 T8 R8 D8 y8 hk8;refine hK _ _ T9 ?_;clear hK K
 obtain⟨E,hE⟩:=nmm (elA (.mk 0 16 true [] [.mk 0 2 false [UInt8.ofNat v] [],.mk 0 4 false dn [],.mk 2 3 true [] [.mk 0 4 false secret []]]) u9);have hE1:E.all (·.oneCell')=true:=by
  obtain⟨a,c,hsl⟩:=hu9.shape;subst hsl;rw[←hE];simp[elA,Value.oneCell']
 have hE2:E.size=5:=by rw[←hE];rfl
 rw[hE];obtain⟨HE,HE1,HE2⟩:=Ch hE hE1 hE2;clear hE hE1 hE2;have hwb:b≠w.heap.size:=by omega
 have hwx:x≠w.heap.size:=by omega
 have TF:Hc (w9.setRow w.heap.size E) b A 32∧Hc (w9.setRow w.heap.size E) x #[.int .i64 2,.int .i64 3,.bool true,Es,.slice a9 1 c9] 40:=⟨(setRow_other w9 w.heap.size b E hwb).trans T9.1,(setRow_other w9 w.heap.size x E hwx).trans T9.2⟩;have bF:=xo D9 (g:=w.heap.size) (ah _) E;have tF:=setRow_heap w9 w.heap.size _ E _ _ R9;have hwl:w.heap.size<w8.heap.size:=by omega
 have uF:bf (fun g=>w.heap.size≤g) (w9.setRow w.heap.size E) u9 [.mk 0 2 false [UInt8.ofNat v] [],.mk 0 4 false dn [],.mk 2 3 true [] [.mk 0 4 false secret []]]:=hu9.kept fun g hg hl=>⟨setRow_other w9 w.heap.size g E (by omega),by omega⟩
 refine ao 9 rfl (fun K hK=>?_);refine xx 40 (.tmp 1) (.tmp 23) rfl w.heap.size 40 _ E (by rfl) (by rfl) R9 (by rw[HE2.out];rfl) (by rw[HE2.out];rfl) HE1.out ?_;refine hK _ _ TF ?_;clear hK K
 refine xk (by kernel_rfl) ?_ _;simp only[Exit.then];refine‹∀(a:Act) (w:World),Code.wp _ _ _ a w→_› _ _ ?_;clear T9 R9 D9 TF hu9;generalize w9.setRow w.heap.size E=wF at bF tF uF⊢;have UF:=hid uF;clear uF;go_simp
 go_wp2_with fail
 refine aH (v:=.agg E) ?_ rfl (by rw[HPR.out];exact⟨⟨u9,by rw[HE.out],UF.out⟩,bF⟩);have hr:=rlE tF HE2.out
 simp[results,Tryz.f77]
 exact hr
end Go.Proofs.YtfhghdcbofbceaaGreatDoor
