/- LnL. -/
import Derived.Deep.AppendLies
import Derived.Test.YthjaiigijbjloaaGreatDoorW21
namespace Go.Proofs.YthjaiigijbjloaaGreatDoor
open Go.RowKit Go.Lib
set_option maxRecDepth 100000
set_option maxHeartbeats 16000000
theorem pp.kp{t:TypeId}{B:Nat}{w w':World}{v:Value}{l:List (List UInt8)}(h:pp B w v l)(k:Kp t w w')(ht:9≠t):pp B w' v l:=by
 obtain⟨g,cap,hv,ho⟩:=h;exact⟨g,cap,hv,k _ _ _ _ _ _ ht ho⟩
theorem pp.mono{B B':Nat}{w:World}{v:Value}{l:List (List UInt8)}(h:pp B w v l)(hB:B'≤B):pp B' w v l:=by
 obtain⟨g,cap,hv,ho⟩:=h;exact⟨g,cap,hv,Cb ho hB⟩
def Ds(lent:Bool)(B:Nat)(w:World)(u:Value)(l:List (List UInt8)):Prop:=if lent then pp B w u l else w.ownsRow B 9 1 u l.length (sV l)
theorem Ds.kp{lent:Bool}{t:TypeId}{B:Nat}{w w':World}{u:Value}{l:List (List UInt8)}(h:Ds lent B w u l)(k:Kp t w w')(ht:9≠t):Ds lent B w' u l:=by
 cases lent
 ·exact k _ _ _ _ _ _ ht h
 ·exact pp.kp h k ht
theorem Ds.strs{lent:Bool}{B:Nat}{w:World}{u:Value}{l:List (List UInt8)}(h:Ds lent B w u l):ct w u l:=by
 cases lent
 ·exact(show w.ownsRow B 9 1 u l.length (sV l) from h)|>fun ho=>by
   rcases id ho.2 with⟨rfl,h0⟩|⟨g,cap,cur,rfl,hb,hg,hc,_,_,ht⟩
   ·have:l=[]:=List.length_eq_zero_iff.1 h0
    subst this;exact⟨none,0,rfl,by simp,fun h=>absurd rfl h⟩
   ·refine⟨some ⟨g,0,none⟩,cap,rfl,hc,fun _=>⟨g,0,rfl,fun j y hj=>?_⟩⟩
    rw[Nat.zero_add];exact(cJ ho (by simp[sV,hj])).1
 ·exact pp.strs h
def StG(d lent:Bool)(t:TypeId)(z B:Nat)(w:World)(v:Value)(xs:List Rw)(mark:List Value):Prop:=
 ∃us:List Value,us.length=xs.length∧(∀(j:Nat) (x:Rw) (u:Value),xs[j]?=some x→us[j]?=some u→Ds lent B w u x.2)∧
  if d then ∃g cap,v=.slice (some ⟨g,0,none⟩) xs.length cap∧w.ownsRow B t z (.slice (some ⟨g,0,none⟩) (xs.length+1) cap) (xs.length+1) (ka xs us++mark) else w.ownsRow B t z v xs.length (ka xs us)
def StC(d:Bool)(t:TypeId)(z B:Nat)(w:World)(v:Value)(n:Nat)(l mark:List Value):Prop:=
 if d then ∃g cap,v=.slice (some ⟨g,0,none⟩) n cap∧w.ownsRow B t z (.slice (some ⟨g,0,none⟩) (n+1) cap) (n+1) (l++mark) else w.ownsRow B t z v n l
theorem StC.kp{d:Bool}{t k:TypeId}{z B n:Nat}{w w':World}{v:Value}{l mark:List Value}(h:StC d t z B w v n l mark)(hk:Kp k w w')(h1:t≠k):StC d t z B w' v n l mark:=by
 cases d
 ·exact hk _ _ _ _ _ _ h1 h
 ·obtain⟨g,cap,hv,ho⟩:=h
  exact⟨g,cap,hv,hk _ _ _ _ _ _ h1 ho⟩
theorem StG.kp{d lent:Bool}{t k:TypeId}{z B:Nat}{w w':World}{v:Value}{xs:List Rw}{mark:List Value}(h:StG d lent t z B w v xs mark)(hk:Kp k w w')(h1:t≠k)(h2:9≠k):StG d lent t z B w' v xs mark:=by
 obtain⟨us,hl,hs,hr⟩:=h;refine⟨us,hl,fun j x u q1 q2=>(hs j x u q1 q2).kp hk h2,?_⟩;cases d
 ·exact hk _ _ _ _ _ _ h1 hr
 ·obtain⟨g,cap,hv,ho⟩:=hr
  exact⟨g,cap,hv,hk _ _ _ _ _ _ h1 ho⟩
structure LnB (w:World) (n:Mg) (wr:World):Prop where
 hb:Below w.heap.size w wr
 hr:wr.heap[w.heap.size]?=some (.cells n.row 28 (0,0))
 hz:wr.heap[w.heap.size+1]?=some (.cells (Mg.row {}) 28 (0,0))
theorem LnB.below{w wr w':World}{n:Mg}(h:LnB w n wr)(hb:Below wr.heap.size wr w'):LnB w n w':=
 ⟨cL h.hb hb,(hb.block _ (gl h.hr)).trans h.hr,(hb.block _ (gl h.hz)).trans h.hz⟩
theorem LnB.drew{w wr:World}{n:Mg}(h:LnB w n wr):LnB w n wr.drew:=⟨h.hb.drew,h.hr,h.hz⟩
theorem LnB.grown{w wr w':World}{n:Mg}(h:LnB w n wr){e:TypeId}{size k:Nat}{v:Value}{xs:List Value}(ho:wr.ownsRow w.heap.size e size v k xs)(he:e≠28)(hg:wr.grownBy w' v.ownBlock):LnB w n w':=
 ⟨h.hb.grown hg h.hb.size (fun b hb=>(ho.lt b hb).1),(hg.block _ (gl h.hr) (fun q=>wW ho h.hr he q.symm)).trans h.hr,(hg.block _ (gl h.hz) (fun q=>wW ho h.hz he q.symm)).trans h.hz⟩
theorem LnB.set{w wr:World}{n n':Mg}(h:LnB w n wr)(c:Nat)(x:Value)(hn:n.row.setIfInBounds c x=n'.row):LnB w n' (wr.setCell ⟨w.heap.size,c,none⟩ x):=
 ⟨h.hb.setCell (p:=⟨w.heap.size,c,none⟩) (ah _) x,by rw[←hn];exact bw h.hr,(aX wr ⟨w.heap.size,c,none⟩ x (w.heap.size+1) (by show w.heap.size+1≠w.heap.size;omega)).trans h.hz⟩
theorem LnB.other{w wr:World}{n:Mg}{x:Value}{g i:Nat}{cs:Array Value}{t:TypeId}(h:LnB w n wr)(hg:wr.heap[g]?=some (.cells cs t (0,0)))(ht:t≠28)(hb:w.heap.size≤g):LnB w n (wr.setCell ⟨g,i,none⟩ x):=by
 have ne:∀b,wr.heap[b]?=some (.cells n.row 28 (0,0))∨wr.heap[b]?=some (.cells (Mg.row {}) 28 (0,0))→b≠g:=by
  rintro b (q|q) rfl<;>rw[hg] at q<;>simp only[Option.some.injEq,Obj.cells.injEq] at q<;>exact ht q.2.1
 exact⟨h.hb.setCell (p:=⟨g,i,none⟩) hb x,(aX wr ⟨g,i,none⟩ x _ (ne _ (.inl h.hr))).trans h.hr,(aX wr ⟨g,i,none⟩ x _ (ne _ (.inr h.hz))).trans h.hz⟩
structure Rest4 (B:Nat) (w:World) (n:Mg) (l:Ls):Prop where
 F:StG false false 60 7 B w n.filt (l.filt.map flR) [I0,I0,.string ⟨#[109,97,114,107]⟩,Es,Es,Es,Sn]
 S:w.ownsRow B 9 1 n.sel l.sel.length (sV l.sel)
 M:StG false false 58 3 B w n.mods (l.mods.map mdR) [I0,.string ⟨#[109,97,114,107]⟩,Sn]
 C:StC false 62 4 B w n.ctl l.ctl.length (ctV l.ctl) [.string ⟨#[109,97,114,107]⟩,Bf,Bf,Es]
theorem Rest4.kp{B:Nat}{w w':World}{n:Mg}{l:Ls}{k:TypeId}(h:Rest4 B w n l)(hk:Kp k w w')(h1:60≠k)(h2:9≠k)(h3:58≠k)(h4:62≠k):Rest4 B w' n l:=
 ⟨h.F.kp hk h1 h2,hk _ _ _ _ _ _ h2 h.S,h.M.kp hk h3 h2,h.C.kp hk h4⟩
structure LnG (w:World) (n:Mg) (l:Ls) (dA dM dF dC:Bool) (wr:World):Prop where
 B:LnB w n wr
 S:pp w.heap.size wr n.sel l.sel
 A:StG dA true 56 2 w.heap.size wr n.attrs (l.attrs.map atR) [.string ⟨#[109,97,114,107]⟩,Sn]
 M:StG dM false 58 3 w.heap.size wr n.mods (l.mods.map mdR) [I0,.string ⟨#[109,97,114,107]⟩,Sn]
 F:StG dF false 60 7 w.heap.size wr n.filt (l.filt.map flR) [I0,I0,.string ⟨#[109,97,114,107]⟩,Es,Es,Es,Sn]
 C:StC dC 62 4 w.heap.size wr n.ctl l.ctl.length (ctV l.ctl) [.string ⟨#[109,97,114,107]⟩,Bf,Bf,Es]
structure LnE (B:Nat) (w:World) (n:Mg) (l:Ls):Prop where
 S:pp B w n.sel l.sel
 A:StG true true 56 2 B w n.attrs (l.attrs.map atR) [.string ⟨#[109,97,114,107]⟩,Sn]
 M:StG true false 58 3 B w n.mods (l.mods.map mdR) [I0,.string ⟨#[109,97,114,107]⟩,Sn]
 F:StG true false 60 7 B w n.filt (l.filt.map flR) [I0,I0,.string ⟨#[109,97,114,107]⟩,Es,Es,Es,Sn]
 C:StC true 62 4 B w n.ctl l.ctl.length (ctV l.ctl) [.string ⟨#[109,97,114,107]⟩,Bf,Bf,Es]
theorem LnG.drew{w wr:World}{n:Mg}{l:Ls}{dA dM dF dC:Bool}(h:LnG w n l dA dM dF dC wr):LnG w n l dA dM dF dC wr.drew:=⟨h.B.drew,h.S,h.A,h.M,h.F,h.C⟩
theorem LnG.stepA{w w7 w9:World}{n:Mg}{l:Ls}{dM dF dC:Bool}(h:LnG w n l false dM dF dC w7)(us:List Value)(hul:us.length=(l.attrs.map atR).length)(hds:∀(j:Nat) (x:Rw) (u:Value),(l.attrs.map atR)[j]?=some x→us[j]?=some u→Ds true w.heap.size w7 u x.2)(ho:w7.ownsRow w.heap.size 56 2 n.attrs (l.attrs.map atR).length (ka (l.attrs.map atR) us)){row:Array Value}{g cap:Nat}
  (ho9:w9.ownsRow w.heap.size 56 2 (.slice (some ⟨g,0,none⟩) ((l.attrs.map atR).length+1) cap) ((l.attrs.map atR).length+1) ((ka (l.attrs.map atR) us)++[.string ⟨#[109,97,114,107]⟩,Sn])) (hg9:(w7.alloc (.cells row 56)).grownBy w9 n.attrs.ownBlock):
  LnB w n w9∧LnG w {n with attrs:=.slice (some ⟨g,0,none⟩) (l.attrs.map atR).length cap} l true dM dF dC (w9.setCell ⟨w.heap.size,14,none⟩ (.slice (some ⟨g,0,none⟩) (l.attrs.map atR).length cap)):=by
 have hal:=alb w7 row 56;have B9:=(h.B.below hal).grown (ge ho hal) (by decide) hg9;have K9:Kp 56 w7 w9:=(Kp.below hal).trans (Kp.grown (ge ho hal) hg9);have KS:Kp 28 w9 (w9.setCell ⟨w.heap.size,14,none⟩ (.slice (some ⟨g,0,none⟩) (l.attrs.map atR).length cap)):=Kp.set B9.hr;exact⟨B9,B9.set 14 _ (Mg.set14 _ _),(h.S.kp K9 (by decide)).kp KS (by decide),⟨us,hul,fun j x u q1 q2=>((hds j x u q1 q2).kp K9 (by decide)).kp KS (by decide),g,cap,rfl,KS _ _ _ _ _ _ (by decide) ho9⟩,(h.M.kp K9 (by decide) (by decide)).kp KS (by decide) (by decide),(h.F.kp K9 (by decide) (by decide)).kp KS (by decide) (by decide),(h.C.kp K9 (by decide)).kp KS (by decide)⟩
theorem LnG.stepM{w w7 w9:World}{n:Mg}{l:Ls}{dA dF dC:Bool}(h:LnG w n l dA false dF dC w7)(us:List Value)(hul:us.length=(l.mods.map mdR).length)(hds:∀(j:Nat) (x:Rw) (u:Value),(l.mods.map mdR)[j]?=some x→us[j]?=some u→Ds false w.heap.size w7 u x.2)(ho:w7.ownsRow w.heap.size 58 3 n.mods (l.mods.map mdR).length (ka (l.mods.map mdR) us)){row:Array Value}{g cap:Nat}
  (ho9:w9.ownsRow w.heap.size 58 3 (.slice (some ⟨g,0,none⟩) ((l.mods.map mdR).length+1) cap) ((l.mods.map mdR).length+1) ((ka (l.mods.map mdR) us)++[I0,.string ⟨#[109,97,114,107]⟩,Sn])) (hg9:(w7.alloc (.cells row 58)).grownBy w9 n.mods.ownBlock):
  LnB w n w9∧LnG w {n with mods:=.slice (some ⟨g,0,none⟩) (l.mods.map mdR).length cap} l dA true dF dC (w9.setCell ⟨w.heap.size,13,none⟩ (.slice (some ⟨g,0,none⟩) (l.mods.map mdR).length cap)):=by
 have hal:=alb w7 row 58;have B9:=(h.B.below hal).grown (ge ho hal) (by decide) hg9;have K9:Kp 58 w7 w9:=(Kp.below hal).trans (Kp.grown (ge ho hal) hg9);have KS:Kp 28 w9 (w9.setCell ⟨w.heap.size,13,none⟩ (.slice (some ⟨g,0,none⟩) (l.mods.map mdR).length cap)):=Kp.set B9.hr;exact⟨B9,B9.set 13 _ (Mg.set13 _ _),(h.S.kp K9 (by decide)).kp KS (by decide),(h.A.kp K9 (by decide) (by decide)).kp KS (by decide) (by decide),⟨us,hul,fun j x u q1 q2=>((hds j x u q1 q2).kp K9 (by decide)).kp KS (by decide),g,cap,rfl,KS _ _ _ _ _ _ (by decide) ho9⟩,(h.F.kp K9 (by decide) (by decide)).kp KS (by decide) (by decide),(h.C.kp K9 (by decide)).kp KS (by decide)⟩
theorem LnG.stepF{w w7 w9:World}{n:Mg}{l:Ls}{dA dM dC:Bool}(h:LnG w n l dA dM false dC w7)(us:List Value)(hul:us.length=(l.filt.map flR).length)(hds:∀(j:Nat) (x:Rw) (u:Value),(l.filt.map flR)[j]?=some x→us[j]?=some u→Ds false w.heap.size w7 u x.2)(ho:w7.ownsRow w.heap.size 60 7 n.filt (l.filt.map flR).length (ka (l.filt.map flR) us)){row:Array Value}{g cap:Nat}
  (ho9:w9.ownsRow w.heap.size 60 7 (.slice (some ⟨g,0,none⟩) ((l.filt.map flR).length+1) cap) ((l.filt.map flR).length+1) ((ka (l.filt.map flR) us)++[I0,I0,.string ⟨#[109,97,114,107]⟩,Es,Es,Es,Sn])) (hg9:(w7.alloc (.cells row 60)).grownBy w9 n.filt.ownBlock):
  LnB w n w9∧LnG w {n with filt:=.slice (some ⟨g,0,none⟩) (l.filt.map flR).length cap} l dA dM true dC (w9.setCell ⟨w.heap.size,11,none⟩ (.slice (some ⟨g,0,none⟩) (l.filt.map flR).length cap)):=by
 have hal:=alb w7 row 60;have B9:=(h.B.below hal).grown (ge ho hal) (by decide) hg9;have K9:Kp 60 w7 w9:=(Kp.below hal).trans (Kp.grown (ge ho hal) hg9);have KS:Kp 28 w9 (w9.setCell ⟨w.heap.size,11,none⟩ (.slice (some ⟨g,0,none⟩) (l.filt.map flR).length cap)):=Kp.set B9.hr;exact⟨B9,B9.set 11 _ (Mg.set11 _ _),(h.S.kp K9 (by decide)).kp KS (by decide),(h.A.kp K9 (by decide) (by decide)).kp KS (by decide) (by decide),(h.M.kp K9 (by decide) (by decide)).kp KS (by decide) (by decide),⟨us,hul,fun j x u q1 q2=>((hds j x u q1 q2).kp K9 (by decide)).kp KS (by decide),g,cap,rfl,KS _ _ _ _ _ _ (by decide) ho9⟩,(h.C.kp K9 (by decide)).kp KS (by decide)⟩
theorem LnG.stepC{w w7 w9:World}{n:Mg}{l:Ls}{dA dM dF:Bool}(h:LnG w n l dA dM dF false w7)(ho:w7.ownsRow w.heap.size 62 4 n.ctl l.ctl.length (ctV l.ctl)){row:Array Value}{g cap:Nat}
  (ho9:w9.ownsRow w.heap.size 62 4 (.slice (some ⟨g,0,none⟩) (l.ctl.length+1) cap) (l.ctl.length+1) ((ctV l.ctl)++[.string ⟨#[109,97,114,107]⟩,Bf,Bf,Es])) (hg9:(w7.alloc (.cells row 62)).grownBy w9 n.ctl.ownBlock):
  LnB w n w9∧LnG w {n with ctl:=.slice (some ⟨g,0,none⟩) l.ctl.length cap} l dA dM dF true (w9.setCell ⟨w.heap.size,27,none⟩ (.slice (some ⟨g,0,none⟩) l.ctl.length cap)):=by
 have hal:=alb w7 row 62;have B9:=(h.B.below hal).grown (ge ho hal) (by decide) hg9;have K9:Kp 62 w7 w9:=(Kp.below hal).trans (Kp.grown (ge ho hal) hg9);have KS:Kp 28 w9 (w9.setCell ⟨w.heap.size,27,none⟩ (.slice (some ⟨g,0,none⟩) l.ctl.length cap)):=Kp.set B9.hr;exact⟨B9,B9.set 27 _ (Mg.set27 _ _),(h.S.kp K9 (by decide)).kp KS (by decide),(h.A.kp K9 (by decide) (by decide)).kp KS (by decide) (by decide),(h.M.kp K9 (by decide) (by decide)).kp KS (by decide) (by decide),(h.F.kp K9 (by decide) (by decide)).kp KS (by decide) (by decide),⟨g,cap,rfl,KS _ _ _ _ _ _ (by decide) ho9⟩⟩
def yq(w:World)(n:Mg)(l:Ls)(i:Value)(wr:World):Prop:=
 ∃(k:Nat) (us:List Value),i=.int .i64 (k:Int)∧k≤l.attrs.length∧LnB w n wr∧wr.ownsRow w.heap.size 56 2 n.attrs (l.attrs.map atR).length (ka (l.attrs.map atR) us)∧us.length=(l.attrs.map atR).length∧Rest4 w.heap.size wr n l∧
  (∀(j:Nat) (x:Rw) (u:Value),j<k→(l.attrs.map atR)[j]?=some x→us[j]?=some u→pp w.heap.size wr u x.2)∧
  (∀(j:Nat) (x:Rw) (u:Value),k≤j→(l.attrs.map atR)[j]?=some x→us[j]?=some u→wr.ownsRow w.heap.size 9 1 u x.2.length (sV x.2))
theorem yq.step{w wr w5:World}{n:Mg}{l:Ls}{g cap k g5 cap5:Nat}{us:List Value}{x:Rw}(hx:(l.attrs.map atR)[k]?=some x)(hS:LnB w n wr)(hv:n.attrs=.slice (some ⟨g,0,none⟩) l.attrs.length cap)
  (hA:wr.ownsRow w.heap.size 56 2 n.attrs (l.attrs.map atR).length (ka (l.attrs.map atR) us)) (hul:us.length=(l.attrs.map atR).length) (hR:Rest4 w.heap.size wr n l) {cur:Array Value} (hbg:w.heap.size≤g) (hgb:wr.heap[g]?=some (.cells cur 56 (0,0)))
  (hdone:∀(j:Nat) (x:Rw) (u:Value),j<k→(l.attrs.map atR)[j]?=some x→us[j]?=some u→pp w.heap.size wr u x.2)
  (hleft:∀(j:Nat) (x:Rw) (u:Value),k≤j→(l.attrs.map atR)[j]?=some x→us[j]?=some u→wr.ownsRow w.heap.size 9 1 u x.2.length (sV x.2))
  (hb5:Below wr.heap.size wr w5) (hu5:pp wr.heap.size w5 (.slice (some ⟨g5,0,none⟩) x.2.length cap5) x.2) {i:Int} (hi:i=(k:Int)+1):
  yq w n l (.int .i64 i) (w5.setCell ⟨g,k*2+1,none⟩ (.slice (some ⟨g5,0,none⟩) x.2.length cap5)):=by
 obtain⟨u5,hu⟩:∃u,u=(.slice (some ⟨g5,0,none⟩) x.2.length cap5:Value):=⟨_,rfl⟩;rw[←hu] at hu5⊢;have hk:k<(l.attrs.map atR).length:=(List.getElem?_eq_some_iff.1 hx).1;have hg5:=(hb5.block g (gl hgb)).trans hgb;have hfl:=p9 (z:=2) rfl _ us (Cm l.attrs) hul;have K5:Kp 56 wr w5:=Kp.below hb5;have K6:Kp 56 w5 (w5.setCell ⟨g,k*2+1,none⟩ u5):=Kp.set hg5;have K7:=K5.trans K6;have hset:=ge hA hb5;rw[hv,show l.attrs.length=(l.attrs.map atR).length by simp] at hset;replace hset:=dH (x:=u5) hset (show k*2+1<(ka (l.attrs.map atR) us).length by omega);rw[xI (z:=2) rfl _ us k u5 (Cm _) hul hk] at hset;refine⟨k+1,us.set k u5,by rw[hi];rfl,by have:=hk;simp at this;omega,(hS.below hb5).other hg5 (by decide) hbg,by rw[hv];simpa using hset,by rw[List.length_set];exact hul,hR.kp K7 (by decide) (by decide) (by decide) (by decide),?_,?_⟩
 ·intro j y v hj hy hv
  by_cases hjk:j=k
  ·subst hjk
   rw[List.getElem?_set_self (by omega)] at hv;cases hv;rw[hx] at hy;cases hy;exact(hu5.mono hS.hb.size).kp K6 (by decide)
  ·rw[List.getElem?_set_ne (fun e=>hjk e.symm)] at hv
   exact(hdone j y v (by omega) hy hv).kp K7 (by decide)
 ·intro j y v hj hy hv
  rw[List.getElem?_set_ne (by omega)] at hv;exact K7 _ _ _ _ _ _ (by decide) (hleft j y v (by omega) hy hv)
theorem zH(m:Mg)(l:Ls)(w:World)(hm:MgM w m l)(hk:LsOk m l):
  Calls Tryz.prog 11 #[.agg m.row] w fun e w'=>(∃n:Mg,e=.returned (.agg n.row)∧LnE w.heap.size w' n l∧n={m with filt:=n.filt,sel:=n.sel,mods:=n.mods,attrs:=n.attrs,ctl:=n.ctl})∧Below w.heap.size w w':=by
 obtain⟨iA,hiA,hA0,hA1,hA2⟩:=info_parts Tryz.infoLA;obtain⟨iM,hiM,hM0,hM1,hM2⟩:=info_parts Tryz.infoLM;obtain⟨iF,hiF,hF0,hF1,hF2⟩:=info_parts Tryz.infoLF;obtain⟨iC,hiC,hC0,hC1,hC2⟩:=info_parts Tryz.infoLC;have LA:l.attrs.length≤100000000:=hk.attrs.1;have LM:l.mods.length≤100000000:=hk.mods;have LF:l.filt.length≤100000000:=hk.filt.1;have LC:l.ctl.length≤100000000:=hk.ctl;have HV:=hid (zi hk).2.2;obtain⟨HLS,KC⟩:=Cg (show l.sel.length≤1000000000 by have:=hk.sel;omega) (fun W (h:LnB w m W)=>zG m l W (hm.below h.hb) hk);have H0:LnB w m ((w.alloc (.cells m.row 28)).alloc (.cells Zm 28)):=⟨((ar _ _).alloc (ah _) _).alloc (by simp) _,(alloc_old _ _ _ (by simp)).trans (bi _ _ _ rfl),bi _ _ _ (by simp)⟩;clear hm hk
 go_enter Tryz.func11,Tryz.ntmps11
 go_upto_region 1 with fail
 generalize(w.alloc (.cells m.row 28)).alloc (.cells Zm 28)=w2 at H0⊢;refine aQ ?_;refine bg rfl 28 (.tmp 1) rfl w.heap.size 28 _ (0,0) (by rfl) H0.hr _ Tryz.underlying28 rfl (by rfl) ?_;refine aB rfl fun K hK=>?_
 go_simp;refine ag (show Calls _ _ _ _ _ from KC.out _ H0) ?_;rintro e w3 ⟨⟨n,fs,ms,av,rfl,O5,hsame⟩,hb3⟩;have H3:=H0.below hb3;replace O5:=O5.mono H0.hb.size;have HSAME:=hid hsame;clear KC H0 hb3 hsame;refine hK _ _ ?_;clear hK K
 have hon:n.row.all (·.oneCell')=true:=by
  obtain⟨a1,c1,e1⟩:=gf O5.F.1;obtain⟨a2,c2,e2⟩:=gf O5.S;obtain⟨a3,c3,e3⟩:=gf O5.M.1;obtain⟨a4,c4,e4⟩:=gf O5.A.1;obtain⟨a5,c5,e5⟩:=gf O5.C
  simp[Mg.row,Value.oneCell',e1,e2,e3,e4,e5]
 refine bh rfl 28 (.tmp 1) (.tmp 5) rfl w.heap.size 28 _ n.row (by rfl) (by rfl) H3.hr (by rfl) rfl hon ?_;have H4:LnB w n (w3.setRow w.heap.size n.row):=⟨bm H3.hb (ah _) _,setRow_heap w3 w.heap.size _ _ _ _ H3.hr,(setRow_other w3 w.heap.size (w.heap.size+1) _ (by omega)).trans H3.hz⟩;replace O5:=O5.kp (Kp.row (x:=n.row) H3.hr);generalize w3.setRow w.heap.size n.row=w4 at H4 O5⊢;clear H3 hon;have R4:Rest4 w.heap.size w4 n l:=⟨⟨fs,O5.F.2.1,O5.F.2.2,O5.F.1⟩,O5.S,⟨ms,O5.M.2.1,O5.M.2.2,O5.M.1⟩,O5.C⟩;have hrel0:yq w n l (I0) w4:=⟨0,av,rfl,Nat.zero_le _,H4,O5.A.1,O5.A.2.1,R4,fun j x u h=>by omega,fun j x u _ h1 h2=>O5.A.2.2 j x u h1 h2⟩;obtain⟨aV,cV,hfV⟩:=gf O5.A.1;rw[List.length_map] at hfV;obtain⟨HFV,HR0⟩:=Cg hfV hrel0;clear O5 R4 H4 hrel0 hfV;refine wpList_nil ?_;simp only[Exit.then]
 go_wp2_with fail
 go_loopw [3] (fun i wr=>yq w n l i wr) (fun i _=>l.attrs.length -(RowKit.intOf i).toNat)
 case atStart=>exact HR0.out
 case round=>
  clear HR0;obtain⟨k,us,rfl,hk,hS,hA,hul,hR,hdone,hleft⟩:=hrel;have c14:wr.cell? ⟨w.heap.size,14,none⟩=some (.slice aV l.attrs.length cV):=(ap hS.hr 14).trans (congrArg some HFV.out)
  by_cases hkl:k<l.attrs.length
  ·have hkl2:k<(l.attrs.map atR).length:=by simpa using hkl
   obtain⟨x,hx⟩:∃x,(l.attrs.map atR)[k]?=some x:=⟨_,bp hkl2⟩;obtain⟨u,hu⟩:∃u,us[k]?=some u:=⟨us[k]'(by omega),bp (by omega)⟩;obtain⟨g,cap',cur,hvg,hbg,hgb,_⟩:=Cu hA (by omega);have hae:aV=some ⟨g,0,none⟩:=by rw[List.length_map] at hvg;have:=HFV.out;rw[hvg] at this;cases this;rfl
   subst hae;have hA':=hA;rw[HFV.out,List.length_map] at hA';obtain⟨q1,_⟩:=cJ hA' (wH (z:=2) rfl _ us k x u (Cm _) hul hx hu).2;have hxv:=HV.out x (List.mem_of_getElem? hx);have hou:=hleft k x u (ah _) hx hu;have hsu:ct wr.drew u x.2:=Ds.strs (lent:=false) (B:=w.heap.size) (show wr.ownsRow w.heap.size 9 1 u x.2.length (sV x.2) from hou);obtain⟨au,cu,hfu⟩:∃a c,u=.slice a x.2.length c:=gf hou;subst hfu;have kc:=xC _ x.2 wr.drew hsu hxv;have i1:(k:Int)<(l.attrs.length:Int):=by omega
   have i3:decide ((k:Int)<(l.attrs.length:Int))=true:=aL i1;have ST:=hid (fun(w5:World) (g5 cap5:Nat) (hb5:Below wr.drew.heap.size wr.drew w5) (hu5:pp wr.drew.heap.size w5 (.slice (some ⟨g5,0,none⟩) x.2.length cap5) x.2)=>
    yq.step (wr:=wr.drew) (cur:=cur) (i:=(k:Int)+1) hx hS.drew HFV.out hA hul (hR.kp (fun _ _ _ _ _ _ _ h=>h) (k:=56) (by decide) (by decide) (by decide) (by decide)) hbg hgb hdone hleft hb5 hu5 rfl)
   have s14:wr.drew.cell? ⟨w.heap.size,14,none⟩=some (.slice (some ⟨g,0,none⟩) l.attrs.length cV):=c14;have su:wr.drew.cell? ⟨g,k*2+1,none⟩=some (.slice au x.2.length cu):=q1;have hgd:wr.drew.heap[g]?=some (.cells cur 56 (0,0)):=hgb;clear hx hu hdone hleft hA hA' hR hS hsu hou hvg hul hkl2
   go_wp2_with fail
   refine lx (S:=fun w'=>w'.cell? ⟨w.heap.size,14,none⟩=some (.slice (some ⟨g,0,none⟩) l.attrs.length cV)∧w'.cell? ⟨g,k*2+1,none⟩=some (.slice au x.2.length cu)) (st:=12) (by kernel_rfl) ?_;clear c14 q1 hgb;refine d9 0 (.pointer (some ⟨w.heap.size,14,none⟩)) rfl (by decide) (by kernel_rfl) (by kernel_rfl) (by kernel_rfl) (fun _ _ _ h=>h) (by rfl) (fun w'=>by go_simp) (.inr ⟨s14,su⟩) (kkn ?_);refine d9 2 (.int .i64 (k:Int)) rfl (by decide) (by kernel_rfl) (by kernel_rfl) (by kernel_rfl) (fun _ _ _ h=>h) (by rfl) (fun w'=>by go_simp) (.inr ⟨s14,su⟩) (kkn ?_);refine d9 3 (.pointer (some ⟨w.heap.size,14,none⟩)) rfl (by decide) (by kernel_rfl) (by kernel_rfl) (by kernel_rfl) (fun _ _ _ h=>h) (by rfl) (fun w'=>by go_simp) (.inr ⟨s14,su⟩) (kkn ?_);refine d9 5 (.int .i64 (k:Int)) rfl (by decide) (by kernel_rfl) (by kernel_rfl) (by kernel_rfl) (fun _ _ _ h=>h) (by rfl) (fun w'=>by go_simp) (.inr ⟨s14,su⟩) (kkn ?_);refine it 1 (.slice (some ⟨g,0,none⟩) l.attrs.length cV) rfl (by decide) rfl (by kernel_rfl) (by kernel_rfl) (by kernel_rfl) (by kernel_rfl) (fun _ _ _ h=>h) (by rfl) (fun w' hS=>by obtain⟨q0,q1⟩:=hS;go_simp) (by rfl) ⟨s14,su⟩ (kkn ?_);refine it 4 (.slice (some ⟨g,0,none⟩) l.attrs.length cV) rfl (by decide) rfl (by kernel_rfl) (by kernel_rfl) (by kernel_rfl) (by kernel_rfl) (fun _ _ _ h=>h) (by rfl) (fun w' hS=>by obtain⟨q0,q1⟩:=hS;go_simp) (by rfl) ⟨s14,su⟩ (kkn ?_);refine cr 6 (by kernel_rfl) rfl (by rfl) (kks (.inr ⟨s14,su⟩) ?_);refine cr 7 (by kernel_rfl) rfl (by rfl) (kks (.inr ⟨s14,su⟩) ?_);refine cr 8 (by kernel_rfl) rfl (by rfl) (kks (.inr ⟨s14,su⟩) ?_);refine cr 9 (by kernel_rfl) rfl (by rfl) (fun K hK=>?_);go_simp
   go_wp2_with fail
   refine ag kc ?_;rintro e w5 ⟨⟨u5,rfl,hu5⟩,hb5⟩;have s14':=(hb5.cell (bj s14)).trans s14;have su':=(hb5.cell (bj su)).trans su;have hg5:=(hb5.block g (gl hgd)).trans hgd;refine hK _ _ (.inr ⟨s14',su'⟩) ?_;clear hK K
   obtain⟨g5,cap5,hf5,ho5⟩:=id hu5;subst hf5;have REST:=ST.out w5 g5 cap5 hb5 hu5;clear s14 su hgd kc ho5 ST hu5 hb5;refine cr 10 (by kernel_rfl) rfl (by rfl) (kks (.inr ⟨s14',su'⟩) ?_);refine cr 11 (by kernel_rfl) rfl (by rfl) (kks (.inr ⟨s14',su'⟩) ?_);have z:=aj hg5 (k*2+1);refine cr 12 (by kernel_rfl) rfl (by rfl) (kks (.inl (by rfl)) ?_);generalize w5.setCell ⟨g,k*2+1,none⟩ (.slice (some ⟨g5,0,none⟩) x.2.length cap5)=w6 at REST⊢;clear hg5 s14' su' z;refine nP (by kernel_rfl) ?_ _;simp only[Exit.inBlock,Exit.then];refine‹∀(a:Act) (w:World),Code.wp _ _ _ a w→_› _ _ ?_
   go_wp2_with fail
   exact⟨REST,by simp[RowKit.intOf];omega⟩
  ·obtain rfl:k=l.attrs.length:=by omega
   have G1:∀w5 vS,Below wr.heap.size wr w5→pp wr.heap.size w5 vS l.sel→LnG w {n with sel:=vS} l false false false false (w5.setCell ⟨w.heap.size,12,none⟩ vS):=fun w5 vS hb5 hu5=>by
    have K5:Kp 28 wr w5:=Kp.below hb5;have B5:=hS.below hb5;have KS:Kp 28 w5 (w5.setCell ⟨w.heap.size,12,none⟩ vS):=Kp.set B5.hr;have K7:=K5.trans KS;exact⟨B5.set 12 _ (Mg.set12 _ _),(hu5.mono hS.hb.size).kp KS (by decide),⟨us,hul,fun j x u q1 q2=>pp.kp (hdone j x u (by simpa using(List.getElem?_eq_some_iff.1 q1).1) q1 q2) K7 (by decide),K7 _ _ _ _ _ _ (by decide) hA⟩,hR.M.kp K7 (by decide) (by decide),hR.F.kp K7 (by decide) (by decide),hR.C.kp K7 (by decide)⟩
   have GG:=hid G1;have kn:=xC n.sel l.sel wr (Ds.strs (lent:=false) (B:=w.heap.size) (show wr.ownsRow w.heap.size 9 1 n.sel l.sel.length (sV l.sel) from hR.S)) HLS.out;have i3:decide ((l.attrs.length:Int)<(l.attrs.length:Int))=false:=an (by omega);have c12:=cval hS.hr 12 n.sel;have HBB:=hid hS;clear hdone hleft HV hk hkl hA hR hS G1 hul
   go_wp2_with fail
   refine ag kn ?_;rintro e w5 ⟨⟨uS,rfl,hu5⟩,hb5⟩;have G:=GG.out w5 uS hb5 hu5;have hS5:=HBB.out.below hb5;obtain⟨gS,capS,hfS,_⟩:=id hu5;subst hfS;have z:=aj hS5.hr 12;have sc:=cval hS5.hr 12 n.sel;have QG:=hid G;clear kn c12 c14 G GG HBB hS5 hu5 hb5
   go_wp2_with fail
   clear z sc;obtain⟨n1,hn1⟩:∃nn:Mg,nn={n with sel:=.slice (some ⟨gS,0,none⟩) l.sel.length capS}:=⟨_,rfl⟩;have hat1:n1.attrs=.slice aV l.attrs.length cV:=by rw[hn1];exact HFV.out
   replace HSAME:=hid (show n1={m with filt:=n1.filt,sel:=n1.sel,mods:=n1.mods,attrs:=n1.attrs,ctl:=n1.ctl} by rw[hn1];have:=HSAME.out;rw[this]);rw[←hn1] at QG;clear hn1 HFV;generalize w5.setCell ⟨w.heap.size,12,none⟩ (.slice (some ⟨gS,0,none⟩) l.sel.length capS)=w6 at QG⊢;have G:=QG.out;clear QG;obtain⟨aA,cA,hfA⟩:∃a c,n1.attrs=.slice a l.attrs.length c:=by obtain⟨us,_,_,ho⟩:=G.A;have:=gf (show w6.ownsRow _ _ _ _ _ _ from ho);rwa [List.length_map] at this
   have s0:w6.cell? ⟨w.heap.size,14,none⟩=some (.slice aA l.attrs.length cA):=(ap G.B.hr 14).trans (congrArg some hfA);refine lx (S:=fun w'=>w'.cell? ⟨w.heap.size,14,none⟩=some (.slice aA l.attrs.length cA)) (st:=10) (by kernel_rfl) ?_;have s1:w6.drew.cell? ⟨w.heap.size,14,none⟩=some (.slice aA l.attrs.length cA):=s0;replace G:=G.drew;generalize w6.drew=w7 at G s1⊢;clear s0;refine d9 0 (.pointer (some ⟨w.heap.size,14,none⟩)) rfl (by decide) (by kernel_rfl) (by kernel_rfl) (by kernel_rfl) (fun _ _ _ h=>h) (by rfl) (fun w'=>by go_simp) (.inr s1) (kkn ?_);refine d9 2 (.agg #[.string ⟨#[109,97,114,107]⟩,Sn]) rfl (by decide) (by kernel_rfl) (by kernel_rfl) (by kernel_rfl) (fun _ _ _ h=>h) (by rfl) (fun w'=>by go_simp) (.inr s1) (kkn ?_);refine d9 5 (.pointer (some ⟨w.heap.size,14,none⟩)) rfl (by decide) (by kernel_rfl) (by kernel_rfl) (by kernel_rfl) (fun _ _ _ h=>h) (by rfl) (fun w'=>by go_simp) (.inr s1) (kkn ?_);refine it 1 (.slice aA l.attrs.length cA) rfl (by decide) rfl (by kernel_rfl) (by kernel_rfl) (by kernel_rfl) (by kernel_rfl) (fun _ _ _ h=>h) (by rfl) (fun w' hS=>by go_simp) (by rfl) s1 (kkn ?_);refine it 6 (.slice aA l.attrs.length cA) rfl (by decide) rfl (by kernel_rfl) (by kernel_rfl) (by kernel_rfl) (by kernel_rfl) (fun _ _ _ h=>h) (by rfl) (fun w' hS=>by go_simp) (by rfl) s1 (kkn ?_);refine d9 7 (.int .i64 (l.attrs.length)) rfl (by decide) (by kernel_rfl) (by kernel_rfl) (by kernel_rfl) (fun _ _ _ h=>h) (by rfl) (fun w'=>by go_simp) (.inr s1) (kkn ?_);have hal8:=alb w7 #[.string ⟨#[109,97,114,107]⟩,Sn] 56;have s2:=(hal8.cell (bj s1)).trans s1;refine cr 3 (by kernel_rfl) rfl (by rfl) (kks (.inr s2) ?_);have hsz:=G.B.hb.size;have hlm:(l.attrs.map atR).length=l.attrs.length:=by simp
   obtain⟨us,hul,hds,ho⟩:=G.A;have ho':w7.ownsRow w.heap.size 56 2 (.slice aA l.attrs.length cA) (l.attrs.map atR).length (ka (l.attrs.map atR) us):=by rw[←hfA];exact ho
   rw[hlm] at ho';refine cr 4 (by kernel_rfl) rfl (by rfl) (fun K hK=>?_);refine wp_append_lies _ (.tmp 30) (.tmp 32) 25 rfl w.heap.size 56 iA _ 2 40 Tryz.underlying25 hiA hA0 hA1 hA2 rfl (by decide) (.slice aA l.attrs.length cA) l.attrs.length (ka (l.attrs.map atR) us) (by rfl) (ho'.alloc _) ⟨w7.heap.size,0,none⟩ 1 1 [.string ⟨#[109,97,114,107]⟩,Sn] (by rfl) rfl (World.news_of_block (bi _ _ _ rfl)) (by simp[Value.oneCell']) (by decide) (by unfold maxLen;omega) (by omega) (by simp;omega) (w7.heap.size+1) (by simp) ?_;intro gA capA w9 ho9 hg9 _ _;have hcap9:l.attrs.length+1≤capA:=by
    rcases id ho9.2 with⟨h1,_⟩|⟨g',cap',cur,hv,_,_,hc',_⟩
    ·cases h1
    ·cases hv;exact hc'
   have ST9:=LnG.stepA (g:=gA) (cap:=capA) G us hul hds ho (by rw[hlm];exact ho9) (by rw[hfA];exact hg9);rw[hlm] at ST9;have s9:w9.cell? ⟨w.heap.size,14,none⟩=some (.slice aA l.attrs.length cA):=(ap ST9.1.hr 14).trans (congrArg some hfA);have z:=aj ST9.1.hr 14;have QG:=hid ST9.2;clear ST9 G ho ho' ho9 hg9 hal8 s1 s2 hsz hul hds;refine hK _ _ (.inr s9) ?_;clear hK K
   have hcl9:l.attrs.length≤capA:=by omega
   refine cr 8 (by kernel_rfl) rfl (by rfl) (kks (.inr s9) ?_);refine cr 9 (by kernel_rfl) rfl (by rfl) (kks (.inr s9) ?_);refine cr 10 (by kernel_rfl) rfl (by rfl) (kks (.inl (by rfl)) ?_);clear z s9 hcap9 hcl9;obtain⟨n2,hn1⟩:∃nn:Mg,nn={n1 with attrs:=.slice (some ⟨gA,0,none⟩) l.attrs.length capA}:=⟨_,rfl⟩;replace HSAME:=hid (show n2={m with filt:=n2.filt,sel:=n2.sel,mods:=n2.mods,attrs:=n2.attrs,ctl:=n2.ctl} by rw[hn1];have:=HSAME.out;rw[this]);rw[←hn1] at QG;clear hn1 hfA;generalize w9.setCell ⟨w.heap.size,14,none⟩ (.slice (some ⟨gA,0,none⟩) l.attrs.length capA)=w6 at QG⊢;have G:=QG.out;clear QG;refine nP (by kernel_rfl) ?_ _;simp only[Exit.then];refine‹∀(a:Act) (w:World),Code.wp _ _ _ a w→_› _ _ ?_
   go_wp2_with fail
   obtain⟨aM,cM,hfM⟩:∃a c,n2.mods=.slice a l.mods.length c:=by obtain⟨us,_,_,ho⟩:=G.M;have:=gf (show w6.ownsRow _ _ _ _ _ _ from ho);rwa [List.length_map] at this
   have s0:w6.cell? ⟨w.heap.size,13,none⟩=some (.slice aM l.mods.length cM):=(ap G.B.hr 13).trans (congrArg some hfM);refine lx (S:=fun w'=>w'.cell? ⟨w.heap.size,13,none⟩=some (.slice aM l.mods.length cM)) (st:=10) (by kernel_rfl) ?_;have s1:w6.drew.cell? ⟨w.heap.size,13,none⟩=some (.slice aM l.mods.length cM):=s0;replace G:=G.drew;generalize w6.drew=w7 at G s1⊢;clear s0;refine d9 0 (.pointer (some ⟨w.heap.size,13,none⟩)) rfl (by decide) (by kernel_rfl) (by kernel_rfl) (by kernel_rfl) (fun _ _ _ h=>h) (by rfl) (fun w'=>by go_simp) (.inr s1) (kkn ?_);refine d9 2 (.agg #[I0,.string ⟨#[109,97,114,107]⟩,Sn]) rfl (by decide) (by kernel_rfl) (by kernel_rfl) (by kernel_rfl) (fun _ _ _ h=>h) (by rfl) (fun w'=>by go_simp) (.inr s1) (kkn ?_);refine d9 5 (.pointer (some ⟨w.heap.size,13,none⟩)) rfl (by decide) (by kernel_rfl) (by kernel_rfl) (by kernel_rfl) (fun _ _ _ h=>h) (by rfl) (fun w'=>by go_simp) (.inr s1) (kkn ?_);refine it 1 (.slice aM l.mods.length cM) rfl (by decide) rfl (by kernel_rfl) (by kernel_rfl) (by kernel_rfl) (by kernel_rfl) (fun _ _ _ h=>h) (by rfl) (fun w' hS=>by go_simp) (by rfl) s1 (kkn ?_);refine it 6 (.slice aM l.mods.length cM) rfl (by decide) rfl (by kernel_rfl) (by kernel_rfl) (by kernel_rfl) (by kernel_rfl) (fun _ _ _ h=>h) (by rfl) (fun w' hS=>by go_simp) (by rfl) s1 (kkn ?_);refine d9 7 (.int .i64 (l.mods.length)) rfl (by decide) (by kernel_rfl) (by kernel_rfl) (by kernel_rfl) (fun _ _ _ h=>h) (by rfl) (fun w'=>by go_simp) (.inr s1) (kkn ?_);have hal8:=alb w7 #[I0,.string ⟨#[109,97,114,107]⟩,Sn] 58;have s2:=(hal8.cell (bj s1)).trans s1;refine cr 3 (by kernel_rfl) rfl (by rfl) (kks (.inr s2) ?_);have hsz:=G.B.hb.size;have hlm:(l.mods.map mdR).length=l.mods.length:=by simp
   obtain⟨us,hul,hds,ho⟩:=G.M;have ho':w7.ownsRow w.heap.size 58 3 (.slice aM l.mods.length cM) (l.mods.map mdR).length (ka (l.mods.map mdR) us):=by rw[←hfM];exact ho
   rw[hlm] at ho';refine cr 4 (by kernel_rfl) rfl (by rfl) (fun K hK=>?_);refine wp_append_lies _ (.tmp 40) (.tmp 42) 24 rfl w.heap.size 58 iM _ 3 48 Tryz.underlying24 hiM hM0 hM1 hM2 rfl (by decide) (.slice aM l.mods.length cM) l.mods.length (ka (l.mods.map mdR) us) (by rfl) (ho'.alloc _) ⟨w7.heap.size,0,none⟩ 1 1 [I0,.string ⟨#[109,97,114,107]⟩,Sn] (by rfl) rfl (World.news_of_block (bi _ _ _ rfl)) (by simp[Value.oneCell']) (by decide) (by unfold maxLen;omega) (by omega) (by simp;omega) (w7.heap.size+1) (by simp) ?_;intro gM capM w9 ho9 hg9 _ _;have hcap9:l.mods.length+1≤capM:=by
    rcases id ho9.2 with⟨h1,_⟩|⟨g',cap',cur,hv,_,_,hc',_⟩
    ·cases h1
    ·cases hv;exact hc'
   have ST9:=LnG.stepM (g:=gM) (cap:=capM) G us hul hds ho (by rw[hlm];exact ho9) (by rw[hfM];exact hg9);rw[hlm] at ST9;have s9:w9.cell? ⟨w.heap.size,13,none⟩=some (.slice aM l.mods.length cM):=(ap ST9.1.hr 13).trans (congrArg some hfM);have z:=aj ST9.1.hr 13;have QG:=hid ST9.2;clear ST9 G ho ho' ho9 hg9 hal8 s1 s2 hsz hul hds;refine hK _ _ (.inr s9) ?_;clear hK K
   have hcl9:l.mods.length≤capM:=by omega
   refine cr 8 (by kernel_rfl) rfl (by rfl) (kks (.inr s9) ?_);refine cr 9 (by kernel_rfl) rfl (by rfl) (kks (.inr s9) ?_);refine cr 10 (by kernel_rfl) rfl (by rfl) (kks (.inl (by rfl)) ?_);clear z s9 hcap9 hcl9;obtain⟨n3,hn1⟩:∃nn:Mg,nn={n2 with mods:=.slice (some ⟨gM,0,none⟩) l.mods.length capM}:=⟨_,rfl⟩;replace HSAME:=hid (show n3={m with filt:=n3.filt,sel:=n3.sel,mods:=n3.mods,attrs:=n3.attrs,ctl:=n3.ctl} by rw[hn1];have:=HSAME.out;rw[this]);rw[←hn1] at QG;clear hn1 hfM;generalize w9.setCell ⟨w.heap.size,13,none⟩ (.slice (some ⟨gM,0,none⟩) l.mods.length capM)=w6 at QG⊢;have G:=QG.out;clear QG;refine nP (by kernel_rfl) ?_ _;simp only[Exit.then];refine‹∀(a:Act) (w:World),Code.wp _ _ _ a w→_› _ _ ?_
   go_wp2_with fail
   obtain⟨aF,cF,hfF⟩:∃a c,n3.filt=.slice a l.filt.length c:=by obtain⟨us,_,_,ho⟩:=G.F;have:=gf (show w6.ownsRow _ _ _ _ _ _ from ho);rwa [List.length_map] at this
   have s0:w6.cell? ⟨w.heap.size,11,none⟩=some (.slice aF l.filt.length cF):=(ap G.B.hr 11).trans (congrArg some hfF);refine lx (S:=fun w'=>w'.cell? ⟨w.heap.size,11,none⟩=some (.slice aF l.filt.length cF)) (st:=10) (by kernel_rfl) ?_;have s1:w6.drew.cell? ⟨w.heap.size,11,none⟩=some (.slice aF l.filt.length cF):=s0;replace G:=G.drew;generalize w6.drew=w7 at G s1⊢;clear s0;refine d9 0 (.pointer (some ⟨w.heap.size,11,none⟩)) rfl (by decide) (by kernel_rfl) (by kernel_rfl) (by kernel_rfl) (fun _ _ _ h=>h) (by rfl) (fun w'=>by go_simp) (.inr s1) (kkn ?_);refine d9 2 (.agg #[I0,I0,.string ⟨#[109,97,114,107]⟩,Es,Es,Es,Sn]) rfl (by decide) (by kernel_rfl) (by kernel_rfl) (by kernel_rfl) (fun _ _ _ h=>h) (by rfl) (fun w'=>by go_simp) (.inr s1) (kkn ?_);refine d9 5 (.pointer (some ⟨w.heap.size,11,none⟩)) rfl (by decide) (by kernel_rfl) (by kernel_rfl) (by kernel_rfl) (fun _ _ _ h=>h) (by rfl) (fun w'=>by go_simp) (.inr s1) (kkn ?_);refine it 1 (.slice aF l.filt.length cF) rfl (by decide) rfl (by kernel_rfl) (by kernel_rfl) (by kernel_rfl) (by kernel_rfl) (fun _ _ _ h=>h) (by rfl) (fun w' hS=>by go_simp) (by rfl) s1 (kkn ?_);refine it 6 (.slice aF l.filt.length cF) rfl (by decide) rfl (by kernel_rfl) (by kernel_rfl) (by kernel_rfl) (by kernel_rfl) (fun _ _ _ h=>h) (by rfl) (fun w' hS=>by go_simp) (by rfl) s1 (kkn ?_);refine d9 7 (.int .i64 (l.filt.length)) rfl (by decide) (by kernel_rfl) (by kernel_rfl) (by kernel_rfl) (fun _ _ _ h=>h) (by rfl) (fun w'=>by go_simp) (.inr s1) (kkn ?_);have hal8:=alb w7 #[I0,I0,.string ⟨#[109,97,114,107]⟩,Es,Es,Es,Sn] 60;have s2:=(hal8.cell (bj s1)).trans s1;refine cr 3 (by kernel_rfl) rfl (by rfl) (kks (.inr s2) ?_);have hsz:=G.B.hb.size;have hlm:(l.filt.map flR).length=l.filt.length:=by simp
   obtain⟨us,hul,hds,ho⟩:=G.F;have ho':w7.ownsRow w.heap.size 60 7 (.slice aF l.filt.length cF) (l.filt.map flR).length (ka (l.filt.map flR) us):=by rw[←hfF];exact ho
   rw[hlm] at ho';refine cr 4 (by kernel_rfl) rfl (by rfl) (fun K hK=>?_);refine wp_append_lies _ (.tmp 50) (.tmp 52) 22 rfl w.heap.size 60 iF _ 7 104 Tryz.underlying22 hiF hF0 hF1 hF2 rfl (by decide) (.slice aF l.filt.length cF) l.filt.length (ka (l.filt.map flR) us) (by rfl) (ho'.alloc _) ⟨w7.heap.size,0,none⟩ 1 1 [I0,I0,.string ⟨#[109,97,114,107]⟩,Es,Es,Es,Sn] (by rfl) rfl (World.news_of_block (bi _ _ _ rfl)) (by simp[Value.oneCell']) (by decide) (by unfold maxLen;omega) (by omega) (by simp;omega) (w7.heap.size+1) (by simp) ?_;intro gF capF w9 ho9 hg9 _ _;have hcap9:l.filt.length+1≤capF:=by
    rcases id ho9.2 with⟨h1,_⟩|⟨g',cap',cur,hv,_,_,hc',_⟩
    ·cases h1
    ·cases hv;exact hc'
   have ST9:=LnG.stepF (g:=gF) (cap:=capF) G us hul hds ho (by rw[hlm];exact ho9) (by rw[hfF];exact hg9);rw[hlm] at ST9;have s9:w9.cell? ⟨w.heap.size,11,none⟩=some (.slice aF l.filt.length cF):=(ap ST9.1.hr 11).trans (congrArg some hfF);have z:=aj ST9.1.hr 11;have QG:=hid ST9.2;clear ST9 G ho ho' ho9 hg9 hal8 s1 s2 hsz hul hds;refine hK _ _ (.inr s9) ?_;clear hK K
   have hcl9:l.filt.length≤capF:=by omega
   refine cr 8 (by kernel_rfl) rfl (by rfl) (kks (.inr s9) ?_);refine cr 9 (by kernel_rfl) rfl (by rfl) (kks (.inr s9) ?_);refine cr 10 (by kernel_rfl) rfl (by rfl) (kks (.inl (by rfl)) ?_);clear z s9 hcap9 hcl9;obtain⟨n4,hn1⟩:∃nn:Mg,nn={n3 with filt:=.slice (some ⟨gF,0,none⟩) l.filt.length capF}:=⟨_,rfl⟩;replace HSAME:=hid (show n4={m with filt:=n4.filt,sel:=n4.sel,mods:=n4.mods,attrs:=n4.attrs,ctl:=n4.ctl} by rw[hn1];have:=HSAME.out;rw[this]);rw[←hn1] at QG;clear hn1 hfF;generalize w9.setCell ⟨w.heap.size,11,none⟩ (.slice (some ⟨gF,0,none⟩) l.filt.length capF)=w6 at QG⊢;have G:=QG.out;clear QG;refine nP (by kernel_rfl) ?_ _;simp only[Exit.then];refine‹∀(a:Act) (w:World),Code.wp _ _ _ a w→_› _ _ ?_
   go_wp2_with fail
   obtain⟨aC,cC,hfC⟩:∃a c,n4.ctl=.slice a l.ctl.length c:=gf (show w6.ownsRow _ _ _ _ _ _ from G.C);have s0:w6.cell? ⟨w.heap.size,27,none⟩=some (.slice aC l.ctl.length cC):=(ap G.B.hr 27).trans (congrArg some hfC);refine lx (S:=fun w'=>w'.cell? ⟨w.heap.size,27,none⟩=some (.slice aC l.ctl.length cC)) (st:=10) (by kernel_rfl) ?_;have s1:w6.drew.cell? ⟨w.heap.size,27,none⟩=some (.slice aC l.ctl.length cC):=s0;replace G:=G.drew;generalize w6.drew=w7 at G s1⊢;clear s0;refine d9 0 (.pointer (some ⟨w.heap.size,27,none⟩)) rfl (by decide) (by kernel_rfl) (by kernel_rfl) (by kernel_rfl) (fun _ _ _ h=>h) (by rfl) (fun w'=>by go_simp) (.inr s1) (kkn ?_);refine d9 2 (.agg #[.string ⟨#[109,97,114,107]⟩,Bf,Bf,Es]) rfl (by decide) (by kernel_rfl) (by kernel_rfl) (by kernel_rfl) (fun _ _ _ h=>h) (by rfl) (fun w'=>by go_simp) (.inr s1) (kkn ?_);refine d9 5 (.pointer (some ⟨w.heap.size,27,none⟩)) rfl (by decide) (by kernel_rfl) (by kernel_rfl) (by kernel_rfl) (fun _ _ _ h=>h) (by rfl) (fun w'=>by go_simp) (.inr s1) (kkn ?_);refine it 1 (.slice aC l.ctl.length cC) rfl (by decide) rfl (by kernel_rfl) (by kernel_rfl) (by kernel_rfl) (by kernel_rfl) (fun _ _ _ h=>h) (by rfl) (fun w' hS=>by go_simp) (by rfl) s1 (kkn ?_);refine it 6 (.slice aC l.ctl.length cC) rfl (by decide) rfl (by kernel_rfl) (by kernel_rfl) (by kernel_rfl) (by kernel_rfl) (fun _ _ _ h=>h) (by rfl) (fun w' hS=>by go_simp) (by rfl) s1 (kkn ?_);refine d9 7 (.int .i64 (l.ctl.length)) rfl (by decide) (by kernel_rfl) (by kernel_rfl) (by kernel_rfl) (fun _ _ _ h=>h) (by rfl) (fun w'=>by go_simp) (.inr s1) (kkn ?_);have hal8:=alb w7 #[.string ⟨#[109,97,114,107]⟩,Bf,Bf,Es] 62;have s2:=(hal8.cell (bj s1)).trans s1;refine cr 3 (by kernel_rfl) rfl (by rfl) (kks (.inr s2) ?_);have hsz:=G.B.hb.size;have ho:w7.ownsRow w.heap.size 62 4 n4.ctl l.ctl.length (ctV l.ctl):=G.C;have ho':w7.ownsRow w.heap.size 62 4 (.slice aC l.ctl.length cC) l.ctl.length (ctV l.ctl):=by rw[←hfC];exact ho
   refine cr 4 (by kernel_rfl) rfl (by rfl) (fun K hK=>?_);refine wp_append_lies _ (.tmp 60) (.tmp 62) 26 rfl w.heap.size 62 iC _ 4 40 Tryz.underlying26 hiC hC0 hC1 hC2 rfl (by decide) (.slice aC l.ctl.length cC) l.ctl.length (ctV l.ctl) (by rfl) (ho'.alloc _) ⟨w7.heap.size,0,none⟩ 1 1 [.string ⟨#[109,97,114,107]⟩,Bf,Bf,Es] (by rfl) rfl (World.news_of_block (bi _ _ _ rfl)) (by simp[Value.oneCell']) (by decide) (by unfold maxLen;omega) (by omega) (by simp;omega) (w7.heap.size+1) (by simp) ?_;intro gC capC w9 ho9 hg9 _ _;have hcap9:l.ctl.length+1≤capC:=by
    rcases id ho9.2 with⟨h1,_⟩|⟨g',cap',cur,hv,_,_,hc',_⟩
    ·cases h1
    ·cases hv;exact hc'
   have ST9:=LnG.stepC (g:=gC) (cap:=capC) G ho ho9 (by rw[hfC];exact hg9);have s9:w9.cell? ⟨w.heap.size,27,none⟩=some (.slice aC l.ctl.length cC):=(ap ST9.1.hr 27).trans (congrArg some hfC);have z:=aj ST9.1.hr 27;have QG:=hid ST9.2;clear ST9 G ho ho' ho9 hg9 hal8 s1 s2 hsz;refine hK _ _ (.inr s9) ?_;clear hK K
   have hcl9:l.ctl.length≤capC:=by omega
   refine cr 8 (by kernel_rfl) rfl (by rfl) (kks (.inr s9) ?_);refine cr 9 (by kernel_rfl) rfl (by rfl) (kks (.inr s9) ?_);refine cr 10 (by kernel_rfl) rfl (by rfl) (kks (.inl (by rfl)) ?_);clear z s9 hcap9 hcl9;obtain⟨n5,hn1⟩:∃nn:Mg,nn={n4 with ctl:=.slice (some ⟨gC,0,none⟩) l.ctl.length capC}:=⟨_,rfl⟩;replace HSAME:=hid (show n5={m with filt:=n5.filt,sel:=n5.sel,mods:=n5.mods,attrs:=n5.attrs,ctl:=n5.ctl} by rw[hn1];have:=HSAME.out;rw[this]);rw[←hn1] at QG;clear hn1 hfC;generalize w9.setCell ⟨w.heap.size,27,none⟩ (.slice (some ⟨gC,0,none⟩) l.ctl.length capC)=w6 at QG⊢;have G:=QG.out;clear QG;refine nP (by kernel_rfl) ?_ _;simp only[Exit.then];refine‹∀(a:Act) (w:World),Code.wp _ _ _ a w→_› _ _ ?_;have hon:n5.row.all (·.oneCell')=true:=by
    obtain⟨_,_,_,g1,c1,e1,_⟩:=G.F;obtain⟨g2,c2,e2,_⟩:=G.S;obtain⟨_,_,_,g3,c3,e3,_⟩:=G.M;obtain⟨_,_,_,g4,c4,e4,_⟩:=G.A;obtain⟨g5,c5,e5,_⟩:=G.C
    simp[Mg.row,Value.oneCell',e1,e2,e3,e4,e5]
   refine wp_seq ?_;refine aQ ?_;refine bg rfl 28 (.tmp 1) rfl w.heap.size 28 _ (0,0) (by rfl) G.B.hr _ Tryz.underlying28 rfl (by rfl) ?_;refine bh rfl 28 (.tmp 2) (.tmp 69) rfl (w.heap.size+1) 28 _ n5.row (by rfl) (by rfl) G.B.hz (by rfl) rfl hon ?_;have hq:=setRow_heap w6 (w.heap.size+1) _ n5.row _ _ G.B.hz;have hqb:=bm G.B.hb (g:=w.heap.size+1) (by omega) n5.row;have KR:Kp 28 w6 (w6.setRow (w.heap.size+1) n5.row):=Kp.row G.B.hz;have GE:LnE w.heap.size (w6.setRow (w.heap.size+1) n5.row) n5 l:=⟨G.S.kp KR (by decide),G.A.kp KR (by decide) (by decide),G.M.kp KR (by decide) (by decide),G.F.kp KR (by decide) (by decide),G.C.kp KR (by decide)⟩;generalize w6.setRow (w.heap.size+1) n5.row=wz at hq hqb GE⊢;clear G hon KR;go_simp
   go_wp2_with fail
   all_goals refine aH (v:=.agg n5.row) ?_ rfl ⟨⟨n5,rfl,GE,HSAME.out⟩,hqb⟩
   all_goals have hr:=aJ (P:=Tryz.prog) wz (w.heap.size+1) 28 28 n5.row (0,0) _ hq Tryz.underlying28 rfl (by rfl)
   all_goals simp[results,Tryz.f11]
   all_goals exact hr
end Go.Proofs.YthjaiigijbjloaaGreatDoor
