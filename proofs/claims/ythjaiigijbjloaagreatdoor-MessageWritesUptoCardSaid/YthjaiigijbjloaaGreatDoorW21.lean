/- R9T, RwK, LnT, LnC, LnM. -/
import Derived.Test.YthjaiigijbjloaaGreatDoorW20
namespace Go.Proofs.YthjaiigijbjloaaGreatDoor
open Go.RowKit Go.Lib
set_option maxRecDepth 100000
set_option maxHeartbeats 16000000
theorem zD(m:Mg)(l:Ls)(w:World)(hm:MgM w m l)(hk:LsOk m l)(hv:bH m l=false):
  Cr 13 #[.agg m.row] w (.tuple #[Es,.int .i64 70]):=by
 have P:WpS w m.row (w.alloc (.cells m.row 28)):=⟨(ar _ _).alloc (ah _) _,bi _ _ _ rfl⟩;have KV:=hid (fun W (hW:Below w.heap.size w W)=>xp m l W (hm.below hW) hk);rw[hv] at KV;clear hm hk hv
 go_enter Tryz.func13,Tryz.ntmps13
 go_upto_region 1 with fail
 generalize w.alloc (.cells m.row 28)=w1 at P⊢;have kc:=KV.out w1 P.bel
 go_wp2_with (refine bg rfl 28 (.tmp 1) rfl w.heap.size 28 _ (0,0) (by rfl) P.box _ Tryz.underlying28 rfl (by rfl) ?_)
 refine ag kc ?_;rintro e w2 ⟨rfl,hb⟩;replace P:=P.below hb
 go_wp2_with fail
 go_ret2
 exact⟨rfl,P.bel⟩
theorem zF(m:Mg)(l:Ls)(w:World)(hm:MgM w m l)(hk:LsOk m l):
  Cr 13 #[.agg m.row] w (.tuple #[.string ⟨(cR m l).1.toArray⟩,.int .i64 (cR m l).2]):=by
 unfold cR;cases hv:bH m l with
 |false=>exact zD m l w hm hk hv
 |true=>exact ze m l w hm hk hv
abbrev Rw:=List Value×List (List UInt8)
def vr(s:Nat)(xs:List Rw):Prop:=∀x∈xs,x.1.length=s∧∀y∈x.1,y.oneCell'=true
def RwM(z s:Nat)(w:World)(v:Value)(xs:List Rw):Prop:=
 ∃a cap,v=.slice a xs.length cap∧xs.length≤cap∧(xs≠[]→∃g o,a=some ⟨g,o,none⟩∧∀(j:Nat) (x:Rw),xs[j]?=some x→
  (∀i y,x.1[i]?=some y→w.cell? ⟨g,o+j*z+i,none⟩=some y)∧∃u,w.cell? ⟨g,o+j*z+s,none⟩=some u∧ct w u x.2)
theorem ct.one{w:World}{u:Value}{l:List (List UInt8)}(h:ct w u l):u.oneCell'=true:=by
 obtain⟨a,c,e,_⟩:=h;rw[e];rfl
def ka:List Rw→List Value→List Value
 |x::xs,u::us=>x.1++u::ka xs us
 |_,_=>[]
theorem vr.tail{s:Nat}{x:Rw}{xs:List Rw}(h:vr s (x::xs)):vr s xs:=fun y hy=>h y (List.mem_cons_of_mem _ hy)
theorem vr.len{s:Nat}{x:Rw}{xs:List Rw}(h:vr s (x::xs)):x.1.length=s:=(h x (List.mem_cons_self ..)).1
theorem p9{z s:Nat}(hz:z=s+1):∀(xs:List Rw) (us:List Value),vr s xs→us.length=xs.length→(ka xs us).length=xs.length*z
 |[],[],_,_=>by simp[ka]
 |[],_::_,_,h=>by simp at h
 |_::_,[],_,h=>by simp at h
 |x::xs,u::us,h,hl=>by
  have h1:=p9 hz xs us h.tail (by simpa using hl);have h2:=h.len;simp only[ka,bd,aG,h1,h2,Nat.add_mul,Nat.one_mul]
  omega
theorem wH{z s:Nat}(hz:z=s+1):∀(xs:List Rw) (us:List Value) (k:Nat) (x:Rw) (u:Value),vr s xs→us.length=xs.length→xs[k]?=some x→us[k]?=some u→
  (∀i,i<s→(ka xs us)[k*z+i]?=x.1[i]?)∧(ka xs us)[k*z+s]?=some u
 |[],_,_,_,_,_,_,h,_=>by simp at h
 |_::_,[],_,_,_,_,_,_,h=>by simp at h
 |x::xs,u::us,0,y,v,h,hl,h1,h2=>by
  simp only[List.getElem?_cons_zero,Option.some.injEq] at h1 h2;subst h1 h2;have hx:=h.len;simp only[ka,Nat.zero_mul,Nat.zero_add];refine⟨fun i hi=>List.getElem?_append_left (by omega),?_⟩;rw[List.getElem?_append_right (by omega),hx,Nat.sub_self];rfl
 |x::xs,u::us,k+1,y,v,h,hl,h1,h2=>by
  have ih:=wH hz xs us k y v h.tail (by simpa using hl) (by simpa using h1) (by simpa using h2);have hx:=h.len;have hm:∀i,(k+1)*z+i=x.1.length+(k*z+i+1):=fun i=>by rw[Nat.add_mul,Nat.one_mul,hx,hz];omega
  simp only[ka];refine⟨fun i hi=>?_,?_⟩
  ·rw[hm,List.getElem?_append_right (by omega),show x.1.length+(k*z+i+1) -x.1.length=k*z+i+1 by omega,List.getElem?_cons_succ]
   exact ih.1 i hi
  ·rw[hm,List.getElem?_append_right (by omega),show x.1.length+(k*z+s+1) -x.1.length=k*z+s+1 by omega,List.getElem?_cons_succ]
   exact ih.2
theorem xI{z s:Nat}(hz:z=s+1):∀(xs:List Rw) (us:List Value) (k:Nat) (y:Value),vr s xs→us.length=xs.length→k<xs.length→(ka xs us).set (k*z+s) y=ka xs (us.set k y)
 |[],_,_,_,_,_,h=>by simp at h
 |_::_,[],_,_,_,h,_=>by simp at h
 |x::xs,u::us,0,y,h,_,_=>by
  have hx:=h.len;simp only[ka,Nat.zero_mul,Nat.zero_add,List.set_cons_zero];rw[List.set_append_right _ _ (by omega),hx,Nat.sub_self];rfl
 |x::xs,u::us,k+1,y,h,hl,hk=>by
  have ih:=xI hz xs us k y h.tail (by simpa using hl) (by simpa using hk);have hx:=h.len;have hm:(k+1)*z+s=x.1.length+(k*z+s+1):=by rw[Nat.add_mul,Nat.one_mul,hx,hz];omega
  simp only[ka,List.set_cons_succ];rw[hm,List.set_append_right _ _ (by omega),show x.1.length+(k*z+s+1) -x.1.length=k*z+s+1 by omega,List.set_cons_succ,ih]
theorem xJ{z s:Nat}(hz:z=s+1)(P:Nat→Value→Prop):∀(xs:List Rw) (us:List Value) (o:Nat),vr s xs→us.length=xs.length→
  (∀(j:Nat) (x:Rw) (u:Value),xs[j]?=some x→us[j]?=some u→(∀i y,x.1[i]?=some y→P (o+j*z+i) y)∧P (o+j*z+s) u)→∀(i:Nat) (y:Value),(ka xs us)[i]?=some y→P (o+i) y
 |[],_,_,_,_,_,i,y,h=>by simp[ka] at h
 |_::_,[],_,_,hl,_,_,_,_=>by simp at hl
 |x::xs,u::us,o,hok,hl,hp,i,y,h=>by
  have h0:=hp 0 x u rfl rfl;have hx:=hok.len;rw[Nat.zero_mul,Nat.add_zero] at h0;simp only[ka] at h
  by_cases hi:i<s
  ·rw[List.getElem?_append_left (by omega)] at h
   exact h0.1 i y h
  ·rw[List.getElem?_append_right (by omega),hx] at h
   by_cases he:i=s
   ·subst he
    rw[Nat.sub_self] at h;cases h;exact h0.2
   ·obtain⟨k,rfl⟩:∃k,i=s+1+k:=⟨i -s -1,by omega⟩
    rw[show s+1+k -s=k+1 by omega,List.getElem?_cons_succ] at h;have:=xJ hz P xs us (o+z) hok.tail (by simpa using hl) (fun j x v h1 h2=>by
     have:=hp (j+1) x v (by simpa using h1) (by simpa using h2);rw[show o+(j+1)*z=o+z+j*z by rw[Nat.add_mul];omega] at this;exact this) k y h
    rw[show o+(s+1+k)=o+z+k by omega];exact this
theorem RwM.us{z s:Nat}(hz:z=s+1){w:World}{ad:Addr}{n cap:Nat}{xs:List Rw}(hok:vr s xs)(h:RwM z s w (.slice (some ad) n cap) xs):∃us:List Value,us.length=xs.length∧(∀i y,(ka xs us)[i]?=some y→w.cell? (ad.add i)=some y)∧
  (∀u∈ka xs us,u.oneCell'=true)∧∀(j:Nat) (x:Rw) (u:Value),xs[j]?=some x→us[j]?=some u→ct w u x.2:=by
 obtain⟨a,c,e,_,hr⟩:=h;rcases Classical.em (xs=[]) with h0|h0
 ·subst h0
  exact⟨[],rfl,fun i y h=>by simp[ka] at h,fun u hu=>by simp[ka] at hu,fun j x u h=>by simp at h⟩
 ·obtain⟨g,o,ha,hcell⟩:=hr h0
  simp only[Value.slice.injEq] at e;obtain⟨e1,_,_⟩:=e;rw[ha] at e1;cases e1;have each:∀j,∃u,∀x,xs[j]?=some x→(∀i y,x.1[i]?=some y→w.cell? ⟨g,o+j*z+i,none⟩=some y)∧w.cell? ⟨g,o+j*z+s,none⟩=some u∧ct w u x.2:=by
   intro j;cases hj:xs[j]? with
   |none=>exact⟨Sn,fun x h=>by cases h⟩
   |some x=>
    obtain⟨h1,u,h2,h3⟩:=hcell j x hj;exact⟨u,fun y hy=>by cases hy;exact⟨h1,h2,h3⟩⟩
  let f:=fun j=>Classical.choose (each j)
  have hf:∀j x,xs[j]?=some x→(∀i y,x.1[i]?=some y→w.cell? ⟨g,o+j*z+i,none⟩=some y)∧w.cell? ⟨g,o+j*z+s,none⟩=some (f j)∧ct w (f j) x.2:=fun j=>Classical.choose_spec (each j)
  have hus:∀j u,((List.range xs.length).map f)[j]?=some u→u=f j:=by
   intro j u h;have hj:=(List.getElem?_eq_some_iff.1 h).1;simp only[List.length_map,List.length_range] at hj;rw[List.getElem?_map,List.getElem?_range hj] at h;cases h
   rfl
  refine⟨(List.range xs.length).map f,by simp,?_,?_,?_⟩
  ·intro i y h
   have:=xJ hz (fun i y=>w.cell? ⟨g,o+i,none⟩=some y) xs _ 0 hok (by simp) (fun j x u h1 h2=>by
    rw[hus j u h2];obtain⟨q1,q2,_⟩:=hf j x h1;rw[Nat.zero_add];exact⟨fun i y hy=>by rw[←Nat.add_assoc];exact q1 i y hy,by rw[←Nat.add_assoc];exact q2⟩) i y h
   rw[Addr.add_lit];rw[Nat.zero_add] at this;exact this
  ·have:=xJ hz (fun _ y=>y.oneCell'=true) xs ((List.range xs.length).map f) 0 hok (by simp) (fun j x u h1 h2=>by
    rw[hus j u h2];exact⟨fun i y hy=>(hok x (List.mem_of_getElem? h1)).2 y (List.mem_of_getElem? hy),(hf j x h1).2.2.one⟩)
   intro u hu;obtain⟨i,hi⟩:=List.getElem?_of_mem hu;exact this i u hi
  ·intro j x u h1 h2
   rw[hus j u h2];exact(hf j x h1).2.2
def wB(t:TypeId)(z B:Nat)(w:World)(v:Value)(xs:List Rw)(us:List Value):Prop:=
 w.ownsRow B t z v xs.length (ka xs us)∧us.length=xs.length∧∀(j:Nat) (x:Rw) (u:Value),xs[j]?=some x→us[j]?=some u→w.ownsRow B 9 1 u x.2.length (sV x.2)
theorem wB.below{t:TypeId}{z B:Nat}{w w':World}{v:Value}{xs:List Rw}{us:List Value}(h:wB t z B w v xs us)(hb:Below w.heap.size w w'):wB t z B w' v xs us:=
 ⟨ge h.1 hb,h.2.1,fun j x u h1 h2=>ge (h.2.2 j x u h1 h2) hb⟩
theorem wB.mono{t:TypeId}{z B B':Nat}{w:World}{v:Value}{xs:List Rw}{us:List Value}(h:wB t z B w v xs us)(hB:B'≤B):wB t z B' w v xs us:=
 ⟨Cb h.1 hB,h.2.1,fun j x u h1 h2=>Cb (h.2.2 j x u h1 h2) hB⟩
theorem wB.kp{t k:TypeId}{z B:Nat}{w w':World}{v:Value}{xs:List Rw}{us:List Value}(h:wB t z B w v xs us)(hk:Kp k w w')(h1:t≠k)(h2:9≠k):wB t z B w' v xs us:=
 ⟨hk _ _ _ _ _ _ h1 h.1,h.2.1,fun j x u q1 q2=>hk _ _ _ _ _ _ h2 (h.2.2 j x u q1 q2)⟩
def Cs(t:TypeId)(z:Nat)(w:World)(xs:List Rw)(v i:Value)(wr:World):Prop:=
 ∃(k:Nat) (us:List Value),i=.int .i64 (k:Int)∧k≤xs.length∧wr.ownsRow w.heap.size t z v xs.length (ka xs us)∧us.length=xs.length∧Below w.heap.size w wr∧
  (∀(j:Nat) (x:Rw) (u:Value),j<k→xs[j]?=some x→us[j]?=some u→wr.ownsRow w.heap.size 9 1 u x.2.length (sV x.2))∧
  (∀(j:Nat) (x:Rw) (u:Value),k≤j→xs[j]?=some x→us[j]?=some u→ct w u x.2)
theorem Cs.step{t:TypeId}{z s:Nat}(hz:z=s+1)(ht:9≠t){w wr w5:World}{xs:List Rw}(hok:vr s xs){g cap k:Nat}{us:List Value}{u5:Value}{x:Rw}(hx:xs[k]?=some x)(hk:k<xs.length)
  (hown:wr.ownsRow w.heap.size t z (.slice (some ⟨g,0,none⟩) xs.length cap) xs.length (ka xs us)) (hul:us.length=xs.length) (hbe:Below w.heap.size w wr) {cur:Array Value} (hbg:w.heap.size≤g) (hgb:wr.heap[g]?=some (.cells cur t (0,0)))
  (hdone:∀(j:Nat) (x:Rw) (u:Value),j<k→xs[j]?=some x→us[j]?=some u→wr.ownsRow w.heap.size 9 1 u x.2.length (sV x.2))
  (hleft:∀(j:Nat) (x:Rw) (u:Value),k≤j→xs[j]?=some x→us[j]?=some u→ct w u x.2)
  (hb5:Below wr.heap.size wr w5) (hu5:w5.ownsRow wr.heap.size 9 1 u5 x.2.length (sV x.2)) {i:Int} (hi:i=(k:Int)+1):
  Cs t z w xs (.slice (some ⟨g,0,none⟩) xs.length cap) (.int .i64 i) (w5.setCell ⟨g,k*z+s,none⟩ u5):=by
 have hgb5:=(hb5.block g (gl hgb)).trans hgb;have hfl:=p9 hz xs us hok hul;have hlt:k*z+s<(ka xs us).length:=by
  rw[hfl];have:(k+1)*z≤xs.length*z:=Nat.mul_le_mul_right z hk;rw[Nat.add_mul,Nat.one_mul] at this
  omega
 have hset:=dH (x:=u5) (ge hown hb5) hlt;rw[xI hz xs us k u5 hok hul hk] at hset;refine⟨k+1,us.set k u5,by rw[hi];rfl,hk,hset,by rw[List.length_set];exact hul,(cL hbe hb5).setCell (p:=⟨g,k*z+s,none⟩) hbg _,?_,?_⟩
 ·intro j y v hj hy hv
  by_cases hjk:j=k
  ·subst hjk
   rw[List.getElem?_set_self (by omega)] at hv;cases hv;rw[hx] at hy;cases hy;exact yc (Cb hu5 hbe.size) hgb5 ht
  ·rw[List.getElem?_set_ne (fun e=>hjk e.symm)] at hv
   exact yc (ge (hdone j y v (by omega) hy hv) hb5) hgb5 ht
 ·intro j y v hj hy hv
  rw[List.getElem?_set_ne (by omega)] at hv;exact hleft j y v (by omega) hy hv
theorem Cu{t:TypeId}{z B n:Nat}{w:World}{v:Value}{l:List Value}(h:w.ownsRow B t z v n l)(hn:0<n):∃g cap cur,v=.slice (some ⟨g,0,none⟩) n cap∧B≤g∧w.heap[g]?=some (.cells cur t (0,0))∧n≤cap:=by
 rcases id h.2 with⟨_,h0⟩|⟨g,cap',cur,h1,h2,h3,h4,_⟩
 ·omega
 ·exact⟨g,cap',cur,h1,h2,h3,h4⟩
def atR(x:List UInt8×List (List UInt8)):Rw:=([.string ⟨x.1.toArray⟩],x.2)
def mdR(x:Md):Rw:=([.int .i64 x.1,.string ⟨x.2.1.toArray⟩],x.2.2)
def flR(p:Fl):Rw:=([.int .i64 p.op,.int .i64 p.n,.string ⟨p.typ.toArray⟩,.string ⟨p.value.toArray⟩,.string ⟨p.init.toArray⟩,.string ⟨p.final.toArray⟩],p.any)
theorem Cm(l:List (List UInt8×List (List UInt8))):vr 1 (l.map atR):=by
 intro x hx;simp only[List.mem_map] at hx;obtain⟨y,_,rfl⟩:=hx
 exact⟨rfl,by intro v hv;simp only[atR,List.mem_singleton] at hv;subst hv;rfl⟩
theorem zf(l:List Md):vr 2 (l.map mdR):=by
 intro x hx;simp only[List.mem_map] at hx;obtain⟨y,_,rfl⟩:=hx
 exact⟨rfl,by intro v hv;simp only[mdR,aY,aZ,or_false] at hv;rcases hv with rfl|rfl<;>rfl⟩
theorem zg(l:List Fl):vr 6 (l.map flR):=by
 intro x hx;simp only[List.mem_map] at hx;obtain⟨y,_,rfl⟩:=hx
 exact⟨rfl,by intro v hv;simp only[flR,aY,aZ,or_false] at hv;rcases hv with rfl|rfl|rfl|rfl|rfl|rfl<;>rfl⟩
theorem Tryz.infoString:(Tryz.prog.info? 9).map (fun i=>(i.zero,i.size,i.bytes))=some (some (Es),1,16):=by kernel_rfl
theorem ct.cells{w:World}{ad:Addr}{n cap:Nat}{l:List (List UInt8)}(h:ct w (.slice (some ad) n cap) l):∀j u,(sV l)[j]?=some u→w.cell? (ad.add j)=some u:=by
 intro j u hj;obtain⟨a,c,e,_,hr⟩:=h;have h0:l≠[]:=by rintro rfl;simp[sV] at hj
 obtain⟨g,o,ha,hcell⟩:=hr h0;simp only[Value.slice.injEq] at e;obtain⟨e1,_,_⟩:=e;rw[ha] at e1;cases e1;simp only[sV,List.getElem?_map,cp] at hj;obtain⟨y,hy,rfl⟩:=hj;rw[Addr.add_lit];exact hcell j y hy
theorem ww(v:Value)(l:List (List UInt8))(w:World)(h:ct w v l)(hl:l.length≤1000000000):
  Calls Tryz.prog 61 #[v] w fun e w'=>(∃v',e=.returned v'∧w'.ownsRow w.heap.size 9 1 v' l.length (sV l))∧Below w.heap.size w w':=by
 obtain⟨i0,hi0,hz0,hz1,hz2⟩:=info_parts Tryz.infoString;have H:=hid h;obtain⟨a,cap,rfl,hc,hr⟩:=h;cases a with
 |none=>
  have hnil:l=[]:=by
   rcases Classical.em (l=[]) with h|h
   ·exact h
   ·obtain⟨g,o,ha,_⟩:=hr h;cases ha
  subst hnil
  go_enter Tryz.func61,Tryz.ntmps61
  go_wp2_with (at_builtin;refine p8 rfl (.const (Sn)) (.tmp 3) 23 rfl w.heap.size 9 i0 1 Tryz.underlying23 hi0 (Sn) 0 [] rfl (World.ownsRow_nil _ _ _ _) cap rfl ?_)
  go_ret
  exact⟨⟨_,rfl,World.ownsRow_nil _ _ _ _⟩,ar _ _⟩
 |some ad=>
  have hcl:=H.out.cells;have HC:=hid hcl;clear hr hcl
  go_enter Tryz.func61,Tryz.ntmps61
  go_wp2_with (at_builtin;refine wpList_append_own _ rfl (.const (Sn)) (.tmp 3) 23 rfl w.heap.size 9 i0 (Es) 1 16 Tryz.underlying23 hi0 hz0 hz1 hz2 rfl (by decide) (Sn) 0 [] rfl (World.ownsRow_nil _ _ _ _) ad l.length cap (sV l) rfl (by rw[wC,Nat.mul_one]) HC.out (yh l) ?d3 ?d4 (ah _) ?_)
  case d3=>unfold maxLen;omega
  case d4=>omega
  intro v' w7 ho7 hg7 _
  go_wp2_with fail
  go_ret
  exact⟨⟨_,rfl,ho7⟩,(ar w.heap.size w).grown hg7 (ah _) (fun b hb=>by cases hb)⟩
theorem Ag(v u:Value)(r q:List (List UInt8))(w:World)(h1:ct w v r)(h2:ct w u q)(hl:r.length≤140737488355328)(_hl2:q.length≤140737488355328):
  Calls Tryz.prog 97 #[v,u] w fun e w'=>e=.returned (.bool (decide (r=q)))∧∃m,w'=w.drewN m:=by
 obtain⟨H1,H2⟩:=Cg h1 h2;obtain⟨a1,c1,rfl,hc1,hx1⟩:=h1;obtain⟨a2,c2,rfl,hc2,hx2⟩:=h2;clear hx1 hx2
 by_cases hlen:r.length=q.length
 ·have hq:((r.length:Int)==(q.length:Int))=true:=by rw[hlen];simp
  generalize hA:decide (r=q)=ANS;have HA:=hid hA;clear hA
  go_enter Tryz.func97,Tryz.ntmps97
  go_wp2_with fail
  go_loopw [5] (fun i wr=>∃k m:Nat,i=.int .i64 (k:Int)∧k≤r.length∧wr=w.drewN m∧decide (r.drop k=q.drop k)=ANS) (fun i _=>r.length -(RowKit.intOf i).toNat)
  case atStart=>exact⟨0,0,rfl,by omega,rfl,HA.out⟩
  case round=>
   obtain⟨k,m,rfl,hk,rfl,hans⟩:=hrel;clear HA
   by_cases hkl:k<r.length
   ·have hkl2:k<q.length:=by omega
    obtain⟨x,hx⟩:=nmm (r[k]);obtain⟨y,hy⟩:=nmm (q[k]);have hxk:r[k]?=some x:=by rw[bp hkl,hx]
    have hyk:q[k]?=some y:=by rw[bp hkl2,hy]
    have hr0:r≠[]:=by intro e;rw[e] at hkl;simp at hkl
    have hq0:q≠[]:=by intro e;rw[e] at hkl2;simp at hkl2
    rw[List.drop_eq_getElem_cons hkl,hx,List.drop_eq_getElem_cons hkl2,hy] at hans;obtain⟨a3,cap3,e3,_,hcell⟩:=H1.out;obtain⟨g,o,ha,hcc⟩:=hcell hr0;obtain⟨a4,cap4,e4,_,hcell4⟩:=H2.out;obtain⟨g',o',ha',hcc'⟩:=hcell4 hq0;cases e3;cases e4;subst ha ha';have p1:=hcc k x hxk;have p2:=hcc' k y hyk;clear hcc hcell hcc' hcell4 hxk hyk hx hy;have i1:(k:Int)<(r.length:Int):=by omega
    have i2:(k:Int)<(q.length:Int):=by omega
    have i3:decide ((k:Int)<(r.length:Int))=true:=aL i1
    by_cases hxy:x=y
    ·subst hxy
     have hans2:decide (r.drop (k+1)=q.drop (k+1))=ANS:=by rw[←hans];exact decide_eq_decide.2 (by simp)
     have HS:=hid hans2;clear hans hans2
     go_wp2
     go_quiet (fail)
     go_wp2
     exact⟨⟨k+1,_,by go_num,by omega,rfl,HS.out⟩,by simp[RowKit.intOf];omega⟩
    ·have e:ANS=false:=by rw[←hans];exact an (fun e=>hxy (aN e).1)
     subst e;clear hans;have b1:(x==y)=false:=by simpa using hxy
     clear hxy
     go_wp2
     go_quiet (fail)
     go_wp2
     go_ret
     exact⟨rfl,_,World.drewN_drewN _ _ _⟩
   ·obtain rfl:k=r.length:=by omega
    have e:ANS=true:=by rw[←hans,List.drop_of_length_le (ah _),hlen,List.drop_of_length_le (ah _)];rfl
    subst e
    go_wp2_with fail
    go_ret
    first|exact⟨rfl,_,rfl⟩|exact⟨rfl,_,World.drewN_drewN _ _ _⟩
 ·have hq:((r.length:Int)==(q.length:Int))=false:=by simpa using(fun e=>hlen (by omega))
  have e:decide (r=q)=false:=an (fun e=>hlen (by rw[e]));rw[e]
  go_enter Tryz.func97,Tryz.ntmps97
  go_wp2_with fail
  go_ret
  exact⟨rfl,0,rfl⟩
def Ah:List (List UInt8):=[[109,97,114,107],[77,97,114,107]]
def pp(B:Nat)(w:World)(v:Value)(l:List (List UInt8)):Prop:=
 ∃g cap,v=.slice (some ⟨g,0,none⟩) l.length cap∧w.ownsRow B 9 1 (.slice (some ⟨g,0,none⟩) (l.length+2) cap) (l.length+2) (sV (l++Ah))
theorem pp.strs{B:Nat}{w:World}{v:Value}{l:List (List UInt8)}(h:pp B w v l):ct w v l:=by
 obtain⟨g,cap,rfl,ho⟩:=h;rcases id ho.2 with⟨h1,_⟩|⟨g',cap',cur,hv,hb,hg,hc,_,_,ht⟩
 ·cases h1
 ·cases hv
  refine⟨some ⟨g,0,none⟩,cap,rfl,by omega,fun _=>⟨g,0,rfl,fun j y hj=>?_⟩⟩;rw[Nat.zero_add];have hjl:=(List.getElem?_eq_some_iff.1 hj).1;exact(cJ ho (by simp only[sV,List.getElem?_map];rw[List.getElem?_append_left hjl,hj];rfl)).1
theorem xC(v:Value)(l:List (List UInt8))(w:World)(h:ct w v l)(hl:l.length≤1000000000):
  Calls Tryz.prog 29 #[v] w fun e w'=>(∃v',e=.returned v'∧pp w.heap.size w' v' l)∧Below w.heap.size w w':=by
 obtain⟨i0,hi0,hz0,hz1,hz2⟩:=info_parts Tryz.infoString;have H:=hid h;obtain⟨a,cap,rfl,hc,hr⟩:=h;have fin:∀(v1:Value) (w1:World),w1.ownsRow w.heap.size 9 1 v1 l.length (sV l)→Below w.heap.size w w1→True:=fun _ _ _ _=>trivial
 cases a with
 |none=>
  have hnil:l=[]:=by
   rcases Classical.em (l=[]) with h|h
   ·exact h
   ·obtain⟨g,o,ha,_⟩:=hr h;cases ha
  subst hnil
  go_enter Tryz.func29,Tryz.ntmps29
  go_wp2_with (first|(at_builtin;refine p8 rfl (.const (Sn)) (.tmp 4) 23 rfl w.heap.size 9 i0 1 Tryz.underlying23 hi0 (Sn) 0 [] rfl (World.ownsRow_nil _ _ _ _) cap rfl ?_)|(at_builtin;refine wpList_append_lies _ rfl (.tmp 5) (.tmp 6) 23 rfl w.heap.size 9 i0 (Es) 1 16 Tryz.underlying23 hi0 hz0 hz1 hz2 rfl (by decide) (Sn) 0 [] rfl (World.ownsRow_nil _ _ _ _) ⟨w.heap.size,0,none⟩ 2 2 (sV Ah) rfl rfl (World.news_of_block (bi _ _ _ rfl)) (yh _) (by decide) (by decide) (by decide) (by simp) (w.heap.size+1) (by simp) ?_;intro g7 cap7 w7 ho7 hg7 hat7 hlt7))
  go_ret
  refine⟨⟨_,rfl,g7,cap7,rfl,by simpa using ho7⟩,((ar w.heap.size w).alloc (ah _) _).grown hg7 (by simp) (fun b hb=>by cases hb)⟩
 |some ad=>
  have hcl:=H.out.cells;have HC:=hid hcl;clear hr hcl fin
  go_enter Tryz.func29,Tryz.ntmps29
  go_wp2_with (at_builtin;refine wpList_append_own _ rfl (.const (Sn)) (.tmp 4) 23 rfl w.heap.size 9 i0 (Es) 1 16 Tryz.underlying23 hi0 hz0 hz1 hz2 rfl (by decide) (Sn) 0 [] rfl (World.ownsRow_nil _ _ _ _) ad l.length cap (sV l) rfl (by rw[wC,Nat.mul_one]) HC.out (yh l) ?d3 ?d4 (ah _) ?_)
  case d3=>unfold maxLen;omega
  case d4=>omega
  intro v' w7 ho7 hg7 _;have hb7:Below w.heap.size w w7:=(ar w.heap.size w).grown hg7 (ah _) (fun b hb=>by cases hb);have hs7:=hb7.size;have hlt7:=ho7.lt
  go_wp2_with (at_builtin;refine wpList_append_lies _ rfl (.tmp 5) (.tmp 6) 23 rfl w.heap.size 9 i0 (Es) 1 16 Tryz.underlying23 hi0 hz0 hz1 hz2 rfl (by decide) v' l.length (sV l) rfl (ho7.alloc _) ⟨w7.heap.size,0,none⟩ 2 2 (sV Ah) rfl rfl (World.news_of_block (bi _ _ _ rfl)) (yh _) (by decide) ?d5 ?d6 ?d7 (w7.heap.size+1) (by simp) ?_)
  case d5=>unfold maxLen;omega
  case d6=>omega
  case d7=>simp;omega
  intro g8 cap8 w8 ho8 hg8 hat8 hlt8;have hcap:l.length+2≤cap8:=by
   rcases id ho8.2 with⟨h1,_⟩|⟨g',cap',cur,hv,_,_,hc',_⟩
   ·cases h1
   ·cases hv;exact hc'
  go_wp2_with fail
  go_ret
  refine⟨⟨_,rfl,g8,cap8,rfl,by rw[xE];exact ho8⟩,(hb7.alloc hs7 _).grown hg8 (by simp;omega) (fun b hb=>(hlt7 b hb).1)⟩
theorem pp.form{B:Nat}{w:World}{v:Value}{l:List (List UInt8)}(h:pp B w v l):∃g cap,v=.slice (some ⟨g,0,none⟩) l.length cap∧l.length+2≤cap∧w.cell? ⟨g,l.length,none⟩=some (.string ⟨#[109,97,114,107]⟩)∧w.cell? ⟨g,l.length+1,none⟩=some (.string ⟨#[77,97,114,107]⟩):=by
 obtain⟨g,cap,rfl,ho⟩:=h;have hcap:l.length+2≤cap:=by
  rcases id ho.2 with⟨h1,_⟩|⟨g',cap',cur,hv,_,_,hc',_⟩
  ·cases h1
  ·cases hv;exact hc'
 refine⟨g,cap,rfl,hcap,(cJ ho ?_).1,(cJ ho ?_).1⟩
 ·rw[xE,List.getElem?_append_right (by rw[wC];omega),wC,Nat.sub_self]
  rfl
 ·rw[xE,List.getElem?_append_right (by rw[wC];omega),wC,show l.length+1 -l.length=1 by omega]
  rfl
theorem xt(B:Nat)(v u:Value)(l r:List (List UInt8))(w:World)(h:pp B w v l)(h2:ct w u r)(hl:l.length≤1000000000)(hr:r.length≤140737488355328):
  Calls Tryz.prog 45 #[v,u] w fun e w'=>e=.returned (.bool (decide (l=r)))∧∃m,w'=w.drewN m:=by
 have ks:=Ag v u l r w h.strs h2 (Nat.le_trans hl (by decide)) hr;obtain⟨g,cap,rfl,hcap,m1,m2⟩:=h.form;obtain⟨b,hb⟩:=nmm (decide (l=r));rw[hb] at ks⊢;obtain⟨a2,c2,rfl,_,_⟩:=h2;clear hb h;cases b
 ·go_enter Tryz.func45,Tryz.ntmps45
  go_wp2_with fail
  refine ag ks ?_;rintro e w3 ⟨rfl,m,rfl⟩
  go_wp2_with fail
  go_ret
  exact⟨rfl,m,rfl⟩
 ·go_enter Tryz.func45,Tryz.ntmps45
  go_wp2_with fail
  refine ag ks ?_;rintro e w3 ⟨rfl,m,rfl⟩
  go_wp2_with fail
  go_ret
  exact⟨rfl,m,rfl⟩
theorem Tryz.infoLA:(Tryz.prog.info? 56).map (fun i=>(i.zero,i.size,i.bytes))=some (some (.agg #[Es,Sn]),2,40):=by kernel_rfl
theorem yQ(v:Value)(xs:List Rw)(w:World)(hok:vr 1 xs)(h:RwM 2 1 w v xs)(hl:xs.length≤1000000000)(hv:∀x∈xs,x.2.length≤1000000000):
  Calls Tryz.prog 63 #[v] w fun e w'=>(∃v' us,e=.returned v'∧wB 56 2 w.heap.size w' v' xs us)∧Below w.heap.size w w':=by
 obtain⟨i0,hi0,hz0,hz1,hz2⟩:=info_parts Tryz.infoLA;obtain⟨H,HV,HOK⟩:=Ch h hv hok;clear hv hok;obtain⟨a,cap,rfl,hc,hr⟩:=h;cases a with
 |none=>
  have hnil:xs=[]:=by
   rcases Classical.em (xs=[]) with h|h
   ·exact h
   ·obtain⟨g,o,ha,_⟩:=hr h;cases ha
  subst hnil
  go_enter Tryz.func63,Tryz.ntmps63
  go_wp2_with (at_builtin;refine p8 rfl (.const (Sn)) (.tmp 4) 25 rfl w.heap.size 56 i0 2 Tryz.underlying25 hi0 (Sn) 0 [] rfl (World.ownsRow_nil _ _ _ _) cap rfl ?_)
  go_loopw [3] (fun i wr=>i=.int .i64 0∧wr=w) (fun _ _=>0)
  case atStart=>exact⟨rfl,rfl⟩
  case round=>
   obtain⟨rfl,rfl⟩:=hrel
   go_wp2_with fail
   go_ret
   exact⟨⟨_,[],rfl,World.ownsRow_nil _ _ _ _,rfl,fun j x u h=>by simp at h⟩,ar _ _⟩
 |some ad=>
  obtain⟨us,hul,hcl,hone,hst⟩:=RwM.us (z:=2) rfl HOK.out H.out;obtain⟨HC,HO,HS⟩:=Ch hcl hone hst;clear hr hcl hone hst;have hfl:=p9 (z:=2) rfl xs us HOK.out hul
  go_enter Tryz.func63,Tryz.ntmps63
  go_wp2_with (at_builtin;refine wpList_append_own _ rfl (.const (Sn)) (.tmp 4) 25 rfl w.heap.size 56 i0 (.agg #[Es,Sn]) 2 40 Tryz.underlying25 hi0 hz0 hz1 hz2 rfl (by decide) (Sn) 0 [] rfl (World.ownsRow_nil _ _ _ _) ad xs.length cap (ka xs us) rfl hfl HC.out HO.out ?d3 ?d4 (ah _) ?_)
  case d3=>unfold maxLen;omega
  case d4=>omega
  intro v' w7 ho7 hg7 _;have hb7:Below w.heap.size w w7:=(ar w.heap.size w).grown hg7 (ah _) (fun b hb=>by cases hb);have HO7:=hid ho7;clear ho7 hg7 hfl
  go_wp2_with fail
  go_loopw [3] (fun i wr=>Cs 56 2 w xs v' i wr) (fun i _=>xs.length -(RowKit.intOf i).toNat)
  case atStart=>exact⟨0,us,rfl,by omega,by have:=HO7.out;simpa using this,hul,hb7,fun j x u h=>by omega,fun j x u _ h1 h2=>HS.out j x u h1 h2⟩
  case round=>
   clear HO7 hb7;obtain⟨k,us,rfl,hk,hown,hul,hbe,hdone,hleft⟩:=hrel
   by_cases hkl:k<xs.length
   ·obtain⟨x,hx⟩:∃x,xs[k]?=some x:=⟨xs[k],bp hkl⟩
    obtain⟨u,hu⟩:∃u,us[k]?=some u:=⟨us[k]'(by omega),bp (by omega)⟩;obtain⟨g,cap',cur,rfl,hbg,hgb,hcap'⟩:=Cu hown (by omega);obtain⟨q1,_⟩:=cJ hown (wH (z:=2) rfl xs us k x u HOK.out hul hx hu).2;have kc:=ww u x.2 wr ((hleft k x u (ah _) hx hu).below hbe) (HV.out x (List.mem_of_getElem? hx));have hfl:=p9 (z:=2) rfl xs us HOK.out hul;have i1:(k:Int)<(xs.length:Int):=by omega
    have i3:decide ((k:Int)<(xs.length:Int))=true:=aL i1;obtain⟨HX,HD,HL,HB⟩:=Ci hx hdone hleft hbe;clear hx hu hdone hleft hbe
    go_wp2_with fail
    refine ag kc ?_;rintro e w5 ⟨⟨u5,rfl,hu5⟩,hb5⟩;obtain⟨a5,cp5,h5f⟩:=gf hu5;subst h5f;obtain⟨y5,hy5⟩:∃y,(ka xs us)[k*2+1]?=some y:=⟨_,bp (by omega)⟩;obtain⟨q2,q3⟩:=cJ (ge hown hb5) hy5;have HST:=hid (Cs.step (z:=2) (s:=1) rfl (by decide) HOK.out HX.out hkl hown hul HB.out hbg hgb HD.out HL.out hb5 hu5 rfl);clear hb5 hu5 kc q1 hown hgb hfl
    go_wp2_with fail
    exact⟨HST.out,by simp[RowKit.intOf];omega⟩
   ·obtain rfl:k=xs.length:=by omega
    obtain⟨av,cv,hvf⟩:=gf hown;subst hvf;have HD:=hid hdone;clear hdone hleft
    go_wp2_with fail
    go_ret
    exact⟨⟨_,us,rfl,hown,hul,fun j x u h1 h2=>HD.out j x u (List.getElem?_eq_some_iff.1 h1).1 h1 h2⟩,hbe⟩
theorem Tryz.infoLM:(Tryz.prog.info? 58).map (fun i=>(i.zero,i.size,i.bytes))=some (some (.agg #[I0,Es,Sn]),3,48):=by kernel_rfl
theorem zh(v:Value)(xs:List Rw)(w:World)(hok:vr 2 xs)(h:RwM 3 2 w v xs)(hl:xs.length≤1000000000)(hv:∀x∈xs,x.2.length≤1000000000):
  Calls Tryz.prog 62 #[v] w fun e w'=>(∃v' us,e=.returned v'∧wB 58 3 w.heap.size w' v' xs us)∧Below w.heap.size w w':=by
 obtain⟨i0,hi0,hz0,hz1,hz2⟩:=info_parts Tryz.infoLM;obtain⟨H,HV,HOK⟩:=Ch h hv hok;clear hv hok;obtain⟨a,cap,rfl,hc,hr⟩:=h;cases a with
 |none=>
  have hnil:xs=[]:=by
   rcases Classical.em (xs=[]) with h|h
   ·exact h
   ·obtain⟨g,o,ha,_⟩:=hr h;cases ha
  subst hnil
  go_enter Tryz.func62,Tryz.ntmps62
  go_wp2_with (at_builtin;refine p8 rfl (.const (Sn)) (.tmp 4) 24 rfl w.heap.size 58 i0 3 Tryz.underlying24 hi0 (Sn) 0 [] rfl (World.ownsRow_nil _ _ _ _) cap rfl ?_)
  go_loopw [3] (fun i wr=>i=.int .i64 0∧wr=w) (fun _ _=>0)
  case atStart=>exact⟨rfl,rfl⟩
  case round=>
   obtain⟨rfl,rfl⟩:=hrel
   go_wp2_with fail
   go_ret
   exact⟨⟨_,[],rfl,World.ownsRow_nil _ _ _ _,rfl,fun j x u h=>by simp at h⟩,ar _ _⟩
 |some ad=>
  obtain⟨us,hul,hcl,hone,hst⟩:=RwM.us (z:=3) rfl HOK.out H.out;obtain⟨HC,HO,HS⟩:=Ch hcl hone hst;clear hr hcl hone hst;have hfl:=p9 (z:=3) rfl xs us HOK.out hul
  go_enter Tryz.func62,Tryz.ntmps62
  go_wp2_with (at_builtin;refine wpList_append_own _ rfl (.const (Sn)) (.tmp 4) 24 rfl w.heap.size 58 i0 (.agg #[I0,Es,Sn]) 3 48 Tryz.underlying24 hi0 hz0 hz1 hz2 rfl (by decide) (Sn) 0 [] rfl (World.ownsRow_nil _ _ _ _) ad xs.length cap (ka xs us) rfl hfl HC.out HO.out ?d3 ?d4 (ah _) ?_)
  case d3=>unfold maxLen;omega
  case d4=>omega
  intro v' w7 ho7 hg7 _;have hb7:Below w.heap.size w w7:=(ar w.heap.size w).grown hg7 (ah _) (fun b hb=>by cases hb);have HO7:=hid ho7;clear ho7 hg7 hfl
  go_wp2_with fail
  go_loopw [3] (fun i wr=>Cs 58 3 w xs v' i wr) (fun i _=>xs.length -(RowKit.intOf i).toNat)
  case atStart=>exact⟨0,us,rfl,by omega,by have:=HO7.out;simpa using this,hul,hb7,fun j x u h=>by omega,fun j x u _ h1 h2=>HS.out j x u h1 h2⟩
  case round=>
   clear HO7 hb7;obtain⟨k,us,rfl,hk,hown,hul,hbe,hdone,hleft⟩:=hrel
   by_cases hkl:k<xs.length
   ·obtain⟨x,hx⟩:∃x,xs[k]?=some x:=⟨xs[k],bp hkl⟩
    obtain⟨u,hu⟩:∃u,us[k]?=some u:=⟨us[k]'(by omega),bp (by omega)⟩;obtain⟨g,cap',cur,rfl,hbg,hgb,hcap'⟩:=Cu hown (by omega);obtain⟨q1,_⟩:=cJ hown (wH (z:=3) rfl xs us k x u HOK.out hul hx hu).2;have kc:=ww u x.2 wr ((hleft k x u (ah _) hx hu).below hbe) (HV.out x (List.mem_of_getElem? hx));have hfl:=p9 (z:=3) rfl xs us HOK.out hul;have i1:(k:Int)<(xs.length:Int):=by omega
    have i3:decide ((k:Int)<(xs.length:Int))=true:=aL i1;obtain⟨HX,HD,HL,HB⟩:=Ci hx hdone hleft hbe;clear hx hu hdone hleft hbe
    go_wp2_with fail
    refine ag kc ?_;rintro e w5 ⟨⟨u5,rfl,hu5⟩,hb5⟩;obtain⟨a5,cp5,h5f⟩:=gf hu5;subst h5f;obtain⟨y5,hy5⟩:∃y,(ka xs us)[k*3+2]?=some y:=⟨_,bp (by omega)⟩;obtain⟨q2,q3⟩:=cJ (ge hown hb5) hy5;have HST:=hid (Cs.step (z:=3) (s:=2) rfl (by decide) HOK.out HX.out hkl hown hul HB.out hbg hgb HD.out HL.out hb5 hu5 rfl);clear hb5 hu5 kc q1 hown hgb hfl
    go_wp2_with fail
    exact⟨HST.out,by simp[RowKit.intOf];omega⟩
   ·obtain rfl:k=xs.length:=by omega
    obtain⟨av,cv,hvf⟩:=gf hown;subst hvf;have HD:=hid hdone;clear hdone hleft
    go_wp2_with fail
    go_ret
    exact⟨⟨_,us,rfl,hown,hul,fun j x u h1 h2=>HD.out j x u (List.getElem?_eq_some_iff.1 h1).1 h1 h2⟩,hbe⟩
theorem Tryz.infoLF:(Tryz.prog.info? 60).map (fun i=>(i.zero,i.size,i.bytes))=some (some (.agg Zf),7,104):=by kernel_rfl
theorem yp(v:Value)(xs:List Rw)(w:World)(hok:vr 6 xs)(h:RwM 7 6 w v xs)(hl:xs.length≤1000000000)(hv:∀x∈xs,x.2.length≤1000000000):
  Calls Tryz.prog 60 #[v] w fun e w'=>(∃v' us,e=.returned v'∧wB 60 7 w.heap.size w' v' xs us)∧Below w.heap.size w w':=by
 obtain⟨i0,hi0,hz0,hz1,hz2⟩:=info_parts Tryz.infoLF;obtain⟨H,HV,HOK⟩:=Ch h hv hok;clear hv hok;obtain⟨a,cap,rfl,hc,hr⟩:=h;cases a with
 |none=>
  have hnil:xs=[]:=by
   rcases Classical.em (xs=[]) with h|h
   ·exact h
   ·obtain⟨g,o,ha,_⟩:=hr h;cases ha
  subst hnil
  go_enter Tryz.func60,Tryz.ntmps60
  go_wp2_with (at_builtin;refine p8 rfl (.const (Sn)) (.tmp 4) 22 rfl w.heap.size 60 i0 7 Tryz.underlying22 hi0 (Sn) 0 [] rfl (World.ownsRow_nil _ _ _ _) cap rfl ?_)
  go_loopw [3] (fun i wr=>i=.int .i64 0∧wr=w) (fun _ _=>0)
  case atStart=>exact⟨rfl,rfl⟩
  case round=>
   obtain⟨rfl,rfl⟩:=hrel
   go_wp2_with fail
   go_ret
   exact⟨⟨_,[],rfl,World.ownsRow_nil _ _ _ _,rfl,fun j x u h=>by simp at h⟩,ar _ _⟩
 |some ad=>
  obtain⟨us,hul,hcl,hone,hst⟩:=RwM.us (z:=7) rfl HOK.out H.out;obtain⟨HC,HO,HS⟩:=Ch hcl hone hst;clear hr hcl hone hst;have hfl:=p9 (z:=7) rfl xs us HOK.out hul
  go_enter Tryz.func60,Tryz.ntmps60
  go_wp2_with (at_builtin;refine wpList_append_own _ rfl (.const (Sn)) (.tmp 4) 22 rfl w.heap.size 60 i0 (.agg Zf) 7 104 Tryz.underlying22 hi0 hz0 hz1 hz2 rfl (by decide) (Sn) 0 [] rfl (World.ownsRow_nil _ _ _ _) ad xs.length cap (ka xs us) rfl hfl HC.out HO.out ?d3 ?d4 (ah _) ?_)
  case d3=>unfold maxLen;omega
  case d4=>omega
  intro v' w7 ho7 hg7 _;have hb7:Below w.heap.size w w7:=(ar w.heap.size w).grown hg7 (ah _) (fun b hb=>by cases hb);have HO7:=hid ho7;clear ho7 hg7 hfl
  go_wp2_with fail
  go_loopw [3] (fun i wr=>Cs 60 7 w xs v' i wr) (fun i _=>xs.length -(RowKit.intOf i).toNat)
  case atStart=>exact⟨0,us,rfl,by omega,by have:=HO7.out;simpa using this,hul,hb7,fun j x u h=>by omega,fun j x u _ h1 h2=>HS.out j x u h1 h2⟩
  case round=>
   clear HO7 hb7;obtain⟨k,us,rfl,hk,hown,hul,hbe,hdone,hleft⟩:=hrel
   by_cases hkl:k<xs.length
   ·obtain⟨x,hx⟩:∃x,xs[k]?=some x:=⟨xs[k],bp hkl⟩
    obtain⟨u,hu⟩:∃u,us[k]?=some u:=⟨us[k]'(by omega),bp (by omega)⟩;obtain⟨g,cap',cur,rfl,hbg,hgb,hcap'⟩:=Cu hown (by omega);obtain⟨q1,_⟩:=cJ hown (wH (z:=7) rfl xs us k x u HOK.out hul hx hu).2;have kc:=ww u x.2 wr ((hleft k x u (ah _) hx hu).below hbe) (HV.out x (List.mem_of_getElem? hx));have hfl:=p9 (z:=7) rfl xs us HOK.out hul;have i1:(k:Int)<(xs.length:Int):=by omega
    have i3:decide ((k:Int)<(xs.length:Int))=true:=aL i1;obtain⟨HX,HD,HL,HB⟩:=Ci hx hdone hleft hbe;clear hx hu hdone hleft hbe
    go_wp2_with fail
    refine ag kc ?_;rintro e w5 ⟨⟨u5,rfl,hu5⟩,hb5⟩;obtain⟨a5,cp5,h5f⟩:=gf hu5;subst h5f;obtain⟨y5,hy5⟩:∃y,(ka xs us)[k*7+6]?=some y:=⟨_,bp (by omega)⟩;obtain⟨q2,q3⟩:=cJ (ge hown hb5) hy5;have HST:=hid (Cs.step (z:=7) (s:=6) rfl (by decide) HOK.out HX.out hkl hown hul HB.out hbg hgb HD.out HL.out hb5 hu5 rfl);clear hb5 hu5 kc q1 hown hgb hfl
    go_wp2_with fail
    exact⟨HST.out,by simp[RowKit.intOf];omega⟩
   ·obtain rfl:k=xs.length:=by omega
    obtain⟨av,cv,hvf⟩:=gf hown;subst hvf;have HD:=hid hdone;clear hdone hleft
    go_wp2_with fail
    go_ret
    exact⟨⟨_,us,rfl,hown,hul,fun j x u h1 h2=>HD.out j x u (List.getElem?_eq_some_iff.1 h1).1 h1 h2⟩,hbe⟩
theorem Tryz.infoLC:(Tryz.prog.info? 62).map (fun i=>(i.zero,i.size,i.bytes))=some (some (.agg #[Es,Bf,Bf,Es]),4,40):=by kernel_rfl
def ctV(cl:List Ct):List Value:=cl.flatMap fun c=>[.string ⟨c.oid.toArray⟩,.bool c.crit,.bool c.has,.string ⟨c.value.toArray⟩]
theorem wS(cl:List Ct):(ctV cl).length=cl.length*4:=by
 induction cl with
 |nil=>rfl
 |cons c r ih=>simp only[ctV,List.flatMap_cons,bd,aG,aU] at ih⊢;omega
theorem Bx(cl:List Ct):∀u∈ctV cl,u.oneCell'=true:=by
 intro u hu;simp only[ctV,List.mem_flatMap,aY,aZ,or_false] at hu;obtain⟨c,_,rfl|rfl|rfl|rfl⟩:=hu<;>rfl
theorem yD:∀(cl:List Ct) (j:Nat) (c:Ct),cl[j]?=some c→(ctV cl)[j*4]?=some (.string ⟨c.oid.toArray⟩)∧(ctV cl)[j*4+1]?=some (.bool c.crit)∧(ctV cl)[j*4+2]?=some (.bool c.has)∧(ctV cl)[j*4+3]?=some (.string ⟨c.value.toArray⟩)
 |[],_,_,h=>by simp at h
 |d::r,0,c,h=>by simp at h;subst h;exact⟨rfl,rfl,rfl,rfl⟩
 |d::r,j+1,c,h=>by
  have ih:=yD r j c (by simpa using h);have e:ctV (d::r)=[.string ⟨d.oid.toArray⟩,.bool d.crit,.bool d.has,.string ⟨d.value.toArray⟩]++ctV r:=by simp[ctV]
  have m:∀i,(ctV (d::r))[(j+1)*4+i]?=(ctV r)[j*4+i]?:=fun i=>by
   rw[e,List.getElem?_append_right (by simp;omega)];exact congrArg (fun x=>(ctV r)[x]?) (by simp;omega)
  exact⟨by have:=m 0;simp only[Nat.add_zero] at this;rw[this];exact ih.1,by rw[m];exact ih.2.1,by rw[m];exact ih.2.2.1,by rw[m];exact ih.2.2.2⟩
theorem ig.cells{w:World}{ad:Addr}{n cap:Nat}{cl:List Ct}(h:ig w (.slice (some ad) n cap) cl):∀j u,(ctV cl)[j]?=some u→w.cell? (ad.add j)=some u:=by
 intro j u hj;obtain⟨a,c,e,_,hr⟩:=h;have h0:cl≠[]:=by rintro rfl;simp[ctV] at hj
 obtain⟨g,o,ha,hcell⟩:=hr h0;simp only[Value.slice.injEq] at e;obtain⟨e1,_,_⟩:=e;rw[ha] at e1;cases e1;have hjl:=(List.getElem?_eq_some_iff.1 hj).1;rw[wS] at hjl;obtain⟨x,hx⟩:∃x,cl[j/4]?=some x:=⟨cl[j/4]'(by omega),bp (by omega)⟩;obtain⟨c0,c1,c2,c3⟩:=hcell _ x hx;obtain⟨g0,g1,g2,g3⟩:=yD cl _ x hx;rw[Addr.add_lit];have hm:j% 4=0∨j% 4=1∨j% 4=2∨j% 4=3:=by omega
 rcases hm with hm|hm|hm|hm
 ·rw[show j=j/4*4 by omega,g0] at hj;cases hj;rw[show o+j=o+j/4*4 by omega];exact c0
 ·rw[show j=j/4*4+1 by omega,g1] at hj;cases hj;rw[show o+j=o+j/4*4+1 by omega];exact c1
 ·rw[show j=j/4*4+2 by omega,g2] at hj;cases hj;rw[show o+j=o+j/4*4+2 by omega];exact c2
 ·rw[show j=j/4*4+3 by omega,g3] at hj;cases hj;rw[show o+j=o+j/4*4+3 by omega];exact c3
theorem yg(v:Value)(cl:List Ct)(w:World)(h:ig w v cl)(hl:cl.length≤1000000000):
  Calls Tryz.prog 64 #[v] w fun e w'=>(∃v',e=.returned v'∧w'.ownsRow w.heap.size 62 4 v' cl.length (ctV cl))∧Below w.heap.size w w':=by
 obtain⟨i0,hi0,hz0,hz1,hz2⟩:=info_parts Tryz.infoLC;have H:=hid h;obtain⟨a,cap,rfl,hc,hr⟩:=h;cases a with
 |none=>
  have hnil:cl=[]:=by
   rcases Classical.em (cl=[]) with h|h
   ·exact h
   ·obtain⟨g,o,ha,_⟩:=hr h;cases ha
  subst hnil
  go_enter Tryz.func64,Tryz.ntmps64
  go_wp2_with (at_builtin;refine p8 rfl (.const (Sn)) (.tmp 3) 26 rfl w.heap.size 62 i0 4 Tryz.underlying26 hi0 (Sn) 0 [] rfl (World.ownsRow_nil _ _ _ _) cap rfl ?_)
  go_ret
  exact⟨⟨_,rfl,World.ownsRow_nil _ _ _ _⟩,ar _ _⟩
 |some ad=>
  have HC:=hid H.out.cells;clear hr
  go_enter Tryz.func64,Tryz.ntmps64
  go_wp2_with (at_builtin;refine wpList_append_own _ rfl (.const (Sn)) (.tmp 3) 26 rfl w.heap.size 62 i0 (.agg #[Es,Bf,Bf,Es]) 4 40 Tryz.underlying26 hi0 hz0 hz1 hz2 rfl (by decide) (Sn) 0 [] rfl (World.ownsRow_nil _ _ _ _) ad cl.length cap (ctV cl) rfl (wS cl) HC.out (Bx cl) ?d3 ?d4 (ah _) ?_)
  case d3=>unfold maxLen;omega
  case d4=>omega
  intro v' w7 ho7 hg7 _
  go_wp2_with fail
  go_ret
  exact⟨⟨_,rfl,by simpa using ho7⟩,(ar w.heap.size w).grown hg7 (ah _) (fun b hb=>by cases hb)⟩
structure Own5 (B:Nat) (w:World) (m:Mg) (l:Ls) (fs ms av:List Value):Prop where
 F:wB 60 7 B w m.filt (l.filt.map flR) fs
 S:w.ownsRow B 9 1 m.sel l.sel.length (sV l.sel)
 M:wB 58 3 B w m.mods (l.mods.map mdR) ms
 A:wB 56 2 B w m.attrs (l.attrs.map atR) av
 C:w.ownsRow B 62 4 m.ctl l.ctl.length (ctV l.ctl)
theorem Own5.kp{B:Nat}{w w':World}{m:Mg}{l:Ls}{fs ms av:List Value}(h:Own5 B w m l fs ms av)(hk:Kp 28 w w'):Own5 B w' m l fs ms av:=
 ⟨h.F.kp hk (by decide) (by decide),hk _ _ _ _ _ _ (by decide) h.S,h.M.kp hk (by decide) (by decide),h.A.kp hk (by decide) (by decide),hk _ _ _ _ _ _ (by decide) h.C⟩
theorem Own5.below{B:Nat}{w w':World}{m:Mg}{l:Ls}{fs ms av:List Value}(h:Own5 B w m l fs ms av)(hb:Below w.heap.size w w'):Own5 B w' m l fs ms av:=h.kp (Kp.below hb)
theorem Own5.mono{B B':Nat}{w:World}{m:Mg}{l:Ls}{fs ms av:List Value}(h:Own5 B w m l fs ms av)(hB:B'≤B):Own5 B' w m l fs ms av:=
 ⟨h.F.mono hB,Cb h.S hB,h.M.mono hB,h.A.mono hB,Cb h.C hB⟩
theorem BG{w:World}{v:Value}{l:List (List UInt8×List (List UInt8))}(h:eG w v l):RwM 2 1 w v (l.map atR):=by
 obtain⟨a,c,e,hc,hr⟩:=h;refine⟨a,c,by simpa using e,by simpa using hc,fun h0=>?_⟩;obtain⟨g,o,ha,hcell⟩:=hr (by rintro rfl;exact h0 rfl);refine⟨g,o,ha,fun j x hj=>?_⟩;rw[List.getElem?_map,cp] at hj;obtain⟨y,hy,rfl⟩:=hj;obtain⟨h1,u,h2,h3⟩:=hcell j y hy;refine⟨fun i z hz=>?_,u,h2,h3⟩
 match i,hz with
 |0,hz=>cases hz;exact h1
 |i+1,hz=>simp[atR] at hz
theorem BH{w:World}{v:Value}{l:List Md}(h:eY w v l):RwM 3 2 w v (l.map mdR):=by
 obtain⟨a,c,e,hc,hr⟩:=h;refine⟨a,c,by simpa using e,by simpa using hc,fun h0=>?_⟩;obtain⟨g,o,ha,hcell⟩:=hr (by rintro rfl;exact h0 rfl);refine⟨g,o,ha,fun j x hj=>?_⟩;rw[List.getElem?_map,cp] at hj;obtain⟨y,hy,rfl⟩:=hj;obtain⟨h0',h1,u,h2,h3⟩:=hcell j y hy;refine⟨fun i z hz=>?_,u,h2,h3⟩
 match i,hz with
 |0,hz=>cases hz;exact h0'
 |1,hz=>cases hz;exact h1
 |i+2,hz=>simp[mdR] at hz
theorem BI{w:World}{v:Value}{l:List Fl}(h:de w v l):RwM 7 6 w v (l.map flR):=by
 obtain⟨a,c,e,hc,hr⟩:=h;refine⟨a,c,by simpa using e,by simpa using hc,fun h0=>?_⟩;obtain⟨g,o,ha,hcell⟩:=hr (by rintro rfl;exact h0 rfl);refine⟨g,o,ha,fun j x hj=>?_⟩;rw[List.getElem?_map,cp] at hj;obtain⟨y,hy,rfl⟩:=hj;obtain⟨h0',h1,h2,h3,h4,h5,u,h6,h7⟩:=hcell j y hy;refine⟨fun i z hz=>?_,u,h6,h7⟩
 match i,hz with
 |0,hz=>cases hz;exact h0'
 |1,hz=>cases hz;exact h1
 |2,hz=>cases hz;exact h2
 |3,hz=>cases hz;exact h3
 |4,hz=>cases hz;exact h4
 |5,hz=>cases hz;exact h5
 |i+6,hz=>simp[flR] at hz
theorem Mg.set11(m:Mg)(u:Value):m.row.setIfInBounds 11 u=({m with filt:=u}:Mg).row:=rfl
theorem Mg.set12(m:Mg)(u:Value):m.row.setIfInBounds 12 u=({m with sel:=u}:Mg).row:=rfl
theorem Mg.set13(m:Mg)(u:Value):m.row.setIfInBounds 13 u=({m with mods:=u}:Mg).row:=rfl
theorem Mg.set14(m:Mg)(u:Value):m.row.setIfInBounds 14 u=({m with attrs:=u}:Mg).row:=rfl
theorem Mg.set27(m:Mg)(u:Value):m.row.setIfInBounds 27 u=({m with ctl:=u}:Mg).row:=rfl
theorem zi{l:Ls}{m:Mg}(hk:LsOk m l):(∀x∈l.filt.map flR,x.2.length≤1000000000)∧(∀x∈l.mods.map mdR,x.2.length≤1000000000)∧(∀x∈l.attrs.map atR,x.2.length≤1000000000):=by
 refine⟨fun x hx=>?_,fun x hx=>?_,fun x hx=>?_⟩<;>simp only[List.mem_map] at hx<;>obtain⟨y,hy,rfl⟩:=hx
 ·have:=(hk.filt.2 y hy).1
  unfold Fl.ok at this;simp only[flR];omega
 ·have:=(hk.modss y hy).2.1
  simp only[mdR];omega
 ·have:=(hk.attrs.2 y hy).2.1
  simp only[atR];omega
theorem zG(m:Mg)(l:Ls)(w:World)(hm:MgM w m l)(hk:LsOk m l):
  Calls Tryz.prog 28 #[.agg m.row] w fun e w'=>(∃(n:Mg) (fs ms av:List Value),e=.returned (.agg n.row)∧Own5 w.heap.size w' n l fs ms av∧n={m with filt:=n.filt,sel:=n.sel,mods:=n.mods,attrs:=n.attrs,ctl:=n.ctl})∧Below w.heap.size w w':=by
 have HM:=hid hm;obtain⟨hF9,hM9,hA9⟩:=zi hk;have hF1:(l.filt.map flR).length≤1000000000:=by have:=hk.filt.1;simp;omega
 have hM1:(l.mods.map mdR).length≤1000000000:=by have:=hk.mods;simp;omega
 have hA1:(l.attrs.map atR).length≤1000000000:=by have:=hk.attrs.1;simp;omega
 have hS1:l.sel.length≤1000000000:=by have:=hk.sel;omega
 have hC1:l.ctl.length≤1000000000:=by have:=hk.ctl;omega
 obtain⟨KF,KM,KA,KS,KC⟩:=Cj (fun w' (hb:Below w.heap.size w w')=>yp m.filt _ w' (zg l.filt) (BI (hm.filt.below hb)) hF1 hF9) (fun w' (hb:Below w.heap.size w w')=>zh m.mods _ w' (zf l.mods) (BH (hm.mods.below hb)) hM1 hM9) (fun w' (hb:Below w.heap.size w w')=>yQ m.attrs _ w' (Cm l.attrs) (BG (hm.attrs.below hb)) hA1 hA9) (fun w' (hb:Below w.heap.size w w')=>ww m.sel _ w' (hm.sel.below hb) hS1) (fun w' (hb:Below w.heap.size w w')=>yg m.ctl _ w' (hm.ctl.below hb) hC1);clear hF9 hM9 hA9 hF1 hM1 hA1 hS1 hC1 hm hk
 go_enter Tryz.func28,Tryz.ntmps28
 go_upto_region 1 with fail
 have k1:((w.alloc (.cells m.row 28)).alloc (.cells Zm 28)).heap[w.heap.size]?=some (.cells m.row 28 (0,0)):=(alloc_old _ _ _ (by simp)).trans (bi _ _ _ rfl);have k2:((w.alloc (.cells m.row 28)).alloc (.cells Zm 28)).heap[w.heap.size+1]?=some (.cells (Mg.row {}) 28 (0,0)):=bi _ _ _ (by simp);have kb:Below w.heap.size w ((w.alloc (.cells m.row 28)).alloc (.cells Zm 28)):=((ar _ _).alloc (ah _) _).alloc (by simp) _;generalize(w.alloc (.cells m.row 28)).alloc (.cells Zm 28)=w2 at k1 k2 kb⊢;refine lx (S:=fun w'=>w'.heap[w.heap.size]?=some (.cells m.row 28 (0,0))) (st:=16) (by kernel_rfl) ?_;replace k1:w2.drew.heap[w.heap.size]?=some (.cells m.row 28 (0,0)):=k1;replace k2:w2.drew.heap[w.heap.size+1]?=some (.cells (Mg.row {}) 28 (0,0)):=k2;replace kb:Below w.heap.size w w2.drew:=kb.drew;generalize w2.drew=w3 at k1 k2 kb⊢;refine d9 0 (.pointer (some ⟨w.heap.size,11,none⟩)) rfl (by decide) (by kernel_rfl) (by kernel_rfl) (by kernel_rfl) (fun _ _ _ h=>h) (by rfl) (fun w'=>by go_simp) (.inr k1) (kkn ?_);refine d9 3 (.pointer (some ⟨w.heap.size,12,none⟩)) rfl (by decide) (by kernel_rfl) (by kernel_rfl) (by kernel_rfl) (fun _ _ _ h=>h) (by rfl) (fun w'=>by go_simp) (.inr k1) (kkn ?_);refine d9 6 (.pointer (some ⟨w.heap.size,13,none⟩)) rfl (by decide) (by kernel_rfl) (by kernel_rfl) (by kernel_rfl) (fun _ _ _ h=>h) (by rfl) (fun w'=>by go_simp) (.inr k1) (kkn ?_);refine d9 9 (.pointer (some ⟨w.heap.size,14,none⟩)) rfl (by decide) (by kernel_rfl) (by kernel_rfl) (by kernel_rfl) (fun _ _ _ h=>h) (by rfl) (fun w'=>by go_simp) (.inr k1) (kkn ?_);refine d9 12 (.pointer (some ⟨w.heap.size,27,none⟩)) rfl (by decide) (by kernel_rfl) (by kernel_rfl) (by kernel_rfl) (fun _ _ _ h=>h) (by rfl) (fun w'=>by go_simp) (.inr k1) (kkn ?_);refine it 1 m.filt rfl (by decide) rfl (by kernel_rfl) (by kernel_rfl) (by kernel_rfl) (by kernel_rfl) (fun _ _ _ h=>h) (by rfl) (fun w' hS=>by have q:=cval hS 11 m.filt;go_simp) (by rfl) k1 (kkn ?_);refine it 4 m.sel rfl (by decide) rfl (by kernel_rfl) (by kernel_rfl) (by kernel_rfl) (by kernel_rfl) (fun _ _ _ h=>h) (by rfl) (fun w' hS=>by have q:=cval hS 12 m.sel;go_simp) (by rfl) k1 (kkn ?_);refine it 7 m.mods rfl (by decide) rfl (by kernel_rfl) (by kernel_rfl) (by kernel_rfl) (by kernel_rfl) (fun _ _ _ h=>h) (by rfl) (fun w' hS=>by have q:=cval hS 13 m.mods;go_simp) (by rfl) k1 (kkn ?_);refine it 10 m.attrs rfl (by decide) rfl (by kernel_rfl) (by kernel_rfl) (by kernel_rfl) (by kernel_rfl) (fun _ _ _ h=>h) (by rfl) (fun w' hS=>by have q:=cval hS 14 m.attrs;go_simp) (by rfl) k1 (kkn ?_);refine it 13 m.ctl rfl (by decide) rfl (by kernel_rfl) (by kernel_rfl) (by kernel_rfl) (by kernel_rfl) (fun _ _ _ h=>h) (by rfl) (fun w' hS=>by have q:=cval hS 27 m.ctl;go_simp) (by rfl) k1 (kkn ?_)
 have kc:=KF.out w3 kb;refine cr 2 (by kernel_rfl) rfl (by rfl) (fun K hK=>?_);go_simp
 go_wp2_with fail
 refine ag kc ?_;rintro e w4 ⟨⟨uF,fs,rfl,oF⟩,hb⟩;replace oF:=oF.mono kb.size;have k14:=bkk hb k1;have k24:=bkk hb k2;have kb4:=cL kb hb;clear kc hb k1 k2 kb;have k1:=k14;have k2:=k24;have kb:=kb4;clear k14 k24 kb4;refine hK _ _ (.inr k1) ?_;clear hK K
 refine d9 15 (.pointer (some ⟨w.heap.size,11,none⟩)) rfl (by decide) (by kernel_rfl) (by kernel_rfl) (by kernel_rfl) (fun _ _ _ h=>h) (by rfl) (fun w'=>by go_simp) (.inr k1) (kkn ?_);have kc:=KS.out w4 kb;refine cr 5 (by kernel_rfl) rfl (by rfl) (fun K hK=>?_);go_simp
 go_wp2_with fail
 refine ag kc ?_;rintro e w5 ⟨⟨uS,rfl,oS⟩,hb⟩;replace oS:=Cb oS kb.size;have k15:=bkk hb k1;have k25:=bkk hb k2;have kb5:=cL kb hb;replace oF:=oF.below hb;clear kc hb k1 k2 kb;have k1:=k15;have k2:=k25;have kb:=kb5;clear k15 k25 kb5;refine hK _ _ (.inr k1) ?_;clear hK K
 have kc:=KM.out w5 kb;refine cr 8 (by kernel_rfl) rfl (by rfl) (fun K hK=>?_);go_simp
 go_wp2_with fail
 refine ag kc ?_;rintro e w6 ⟨⟨uM,ms,rfl,oM⟩,hb⟩;replace oM:=oM.mono kb.size;have k16:=bkk hb k1;have k26:=bkk hb k2;have kb6:=cL kb hb;replace oF:=oF.below hb;replace oS:=ge oS hb;clear kc hb k1 k2 kb;have k1:=k16;have k2:=k26;have kb:=kb6;clear k16 k26 kb6;refine hK _ _ (.inr k1) ?_;clear hK K
 have kc:=KA.out w6 kb;refine cr 11 (by kernel_rfl) rfl (by rfl) (fun K hK=>?_);go_simp
 go_wp2_with fail
 refine ag kc ?_;rintro e w7 ⟨⟨uA,av,rfl,oA⟩,hb⟩;replace oA:=oA.mono kb.size;have k17:=bkk hb k1;have k27:=bkk hb k2;have kb7:=cL kb hb;replace oF:=oF.below hb;replace oS:=ge oS hb;replace oM:=oM.below hb;clear kc hb k1 k2 kb;have k1:=k17;have k2:=k27;have kb:=kb7;clear k17 k27 kb7;refine hK _ _ (.inr k1) ?_;clear hK K
 have kc:=KC.out w7 kb;refine cr 14 (by kernel_rfl) rfl (by rfl) (fun K hK=>?_);go_simp
 go_wp2_with fail
 refine ag kc ?_;rintro e w8 ⟨⟨uC,rfl,oC⟩,hb⟩;replace oC:=Cb oC kb.size;have k18:=bkk hb k1;have k28:=bkk hb k2;have kb8:=cL kb hb;replace oF:=oF.below hb;replace oS:=ge oS hb;replace oM:=oM.below hb;replace oA:=oA.below hb;clear kc hb k1 k2 kb;have k1:=k18;have k2:=k28;have kb:=kb8;clear k18 k28 kb8;refine hK _ _ (.inr k1) ?_;clear hK K
 have O5:Own5 w.heap.size w8 {m with filt:=uF,sel:=uS,mods:=uM,attrs:=uA,ctl:=uC} l fs ms av:=⟨oF,oS,oM,oA,oC⟩;obtain⟨aF,cF,eF⟩:=gf oF.1;obtain⟨aS,cS,eS⟩:=gf oS;obtain⟨aM,cM,eM⟩:=gf oM.1;obtain⟨aA,cA,eA⟩:=gf oA.1;obtain⟨aC,cC,eC⟩:=gf oC;rw[List.length_map] at eF eM eA;clear oF oS oM oA oC KF KM KA KS KC;subst eF;have z:=aj k1 11;have s:=cval k1 11 m.filt;refine cr 16 (by kernel_rfl) rfl (by rfl) (kks (.inl (by rfl)) ?_);have k19:=bw (i:=11) (u:=(.slice aF l.filt.length cF)) k1;rw[Mg.set11] at k19;have k29:=(aX w8 ⟨w.heap.size,11,none⟩ (.slice aF l.filt.length cF) (w.heap.size+1) (by show w.heap.size+1≠w.heap.size;omega)).trans k2;have kb9:=kb.setCell (p:=⟨w.heap.size,11,none⟩) (ah _) (.slice aF l.filt.length cF);replace O5:=O5.kp (Kp.set (i:=11) (x:=(.slice aF l.filt.length cF)) k1);clear z s;generalize w8.setCell ⟨w.heap.size,11,none⟩ (.slice aF l.filt.length cF)=w9 at k19 k29 kb9 O5⊢;clear k1 k2 kb;have k1:=k19;have k2:=k29;have kb:=kb9;clear k19 k29 kb9;obtain⟨m0,hm0⟩:∃m':Mg,m'={m with filt:=(.slice aF l.filt.length cF)}:=⟨_,rfl⟩;rw[←hm0] at k1;subst eS;have z:=aj k1 12;have s:=cval k1 12 m0.sel;refine cr 17 (by kernel_rfl) rfl (by rfl) (kks (.inl (by rfl)) ?_);refine cr 18 (by kernel_rfl) rfl (by rfl) (kks (.inl (by rfl)) ?_);have k110:=bw (i:=12) (u:=(.slice aS l.sel.length cS)) k1;rw[Mg.set12] at k110;have k210:=(aX w9 ⟨w.heap.size,12,none⟩ (.slice aS l.sel.length cS) (w.heap.size+1) (by show w.heap.size+1≠w.heap.size;omega)).trans k2;have kb10:=kb.setCell (p:=⟨w.heap.size,12,none⟩) (ah _) (.slice aS l.sel.length cS);replace O5:=O5.kp (Kp.set (i:=12) (x:=(.slice aS l.sel.length cS)) k1);clear z s;generalize w9.setCell ⟨w.heap.size,12,none⟩ (.slice aS l.sel.length cS)=w10 at k110 k210 kb10 O5⊢;clear k1 k2 kb;have k1:=k110;have k2:=k210;have kb:=kb10;clear k110 k210 kb10;obtain⟨m1,hm1⟩:∃m':Mg,m'={m0 with sel:=(.slice aS l.sel.length cS)}:=⟨_,rfl⟩;rw[←hm1] at k1;subst eM;have z:=aj k1 13;have s:=cval k1 13 m1.mods;refine cr 19 (by kernel_rfl) rfl (by rfl) (kks (.inl (by rfl)) ?_);refine cr 20 (by kernel_rfl) rfl (by rfl) (kks (.inl (by rfl)) ?_);have k111:=bw (i:=13) (u:=(.slice aM l.mods.length cM)) k1;rw[Mg.set13] at k111;have k211:=(aX w10 ⟨w.heap.size,13,none⟩ (.slice aM l.mods.length cM) (w.heap.size+1) (by show w.heap.size+1≠w.heap.size;omega)).trans k2;have kb11:=kb.setCell (p:=⟨w.heap.size,13,none⟩) (ah _) (.slice aM l.mods.length cM);replace O5:=O5.kp (Kp.set (i:=13) (x:=(.slice aM l.mods.length cM)) k1);clear z s;generalize w10.setCell ⟨w.heap.size,13,none⟩ (.slice aM l.mods.length cM)=w11 at k111 k211 kb11 O5⊢;clear k1 k2 kb;have k1:=k111;have k2:=k211;have kb:=kb11;clear k111 k211 kb11;obtain⟨m2,hm2⟩:∃m':Mg,m'={m1 with mods:=(.slice aM l.mods.length cM)}:=⟨_,rfl⟩;rw[←hm2] at k1;subst eA;have z:=aj k1 14
 have s:=cval k1 14 m2.attrs;refine cr 21 (by kernel_rfl) rfl (by rfl) (kks (.inl (by rfl)) ?_);refine cr 22 (by kernel_rfl) rfl (by rfl) (kks (.inl (by rfl)) ?_);have k112:=bw (i:=14) (u:=(.slice aA l.attrs.length cA)) k1;rw[Mg.set14] at k112;have k212:=(aX w11 ⟨w.heap.size,14,none⟩ (.slice aA l.attrs.length cA) (w.heap.size+1) (by show w.heap.size+1≠w.heap.size;omega)).trans k2;have kb12:=kb.setCell (p:=⟨w.heap.size,14,none⟩) (ah _) (.slice aA l.attrs.length cA);replace O5:=O5.kp (Kp.set (i:=14) (x:=(.slice aA l.attrs.length cA)) k1);clear z s;generalize w11.setCell ⟨w.heap.size,14,none⟩ (.slice aA l.attrs.length cA)=w12 at k112 k212 kb12 O5⊢;clear k1 k2 kb;have k1:=k112;have k2:=k212;have kb:=kb12;clear k112 k212 kb12;obtain⟨m3,hm3⟩:∃m':Mg,m'={m2 with attrs:=(.slice aA l.attrs.length cA)}:=⟨_,rfl⟩;rw[←hm3] at k1;subst eC;have z:=aj k1 27;have s:=cval k1 27 m3.ctl;refine cr 23 (by kernel_rfl) rfl (by rfl) (kks (.inl (by rfl)) ?_);refine cr 24 (by kernel_rfl) rfl (by rfl) (kks (.inl (by rfl)) ?_);have k113:=bw (i:=27) (u:=(.slice aC l.ctl.length cC)) k1;rw[Mg.set27] at k113;have k213:=(aX w12 ⟨w.heap.size,27,none⟩ (.slice aC l.ctl.length cC) (w.heap.size+1) (by show w.heap.size+1≠w.heap.size;omega)).trans k2;have kb13:=kb.setCell (p:=⟨w.heap.size,27,none⟩) (ah _) (.slice aC l.ctl.length cC);replace O5:=O5.kp (Kp.set (i:=27) (x:=(.slice aC l.ctl.length cC)) k1);clear z s;generalize w12.setCell ⟨w.heap.size,27,none⟩ (.slice aC l.ctl.length cC)=w13 at k113 k213 kb13 O5⊢;clear k1 k2 kb;have k1:=k113;have k2:=k213;have kb:=kb13;clear k113 k213 kb13;obtain⟨m4,hm4⟩:∃m':Mg,m'={m3 with ctl:=(.slice aC l.ctl.length cC)}:=⟨_,rfl⟩;rw[←hm4] at k1;refine nP (by kernel_rfl) ?_ _;simp only[Exit.then];refine‹∀(a:Act) (w:World),Code.wp _ _ _ a w→_› _ _ ?_;have hn:({m with filt:=.slice aF l.filt.length cF,sel:=.slice aS l.sel.length cS,mods:=.slice aM l.mods.length cM,attrs:=.slice aA l.attrs.length cA,ctl:=.slice aC l.ctl.length cC}:Mg)=m4:=by rw[hm4,hm3,hm2,hm1,hm0]
 rw[hn] at O5;have hsz:m4.row.size=28:=rfl;have hon:m4.row.all (·.oneCell')=true:=by rw[←hn];simp[Mg.row,Value.oneCell']
 have hsame:m4={m with filt:=m4.filt,sel:=m4.sel,mods:=m4.mods,attrs:=m4.attrs,ctl:=m4.ctl}:=by rw[←hn]
 have HSAME:=hid hsame;clear hn hm0 hm1 hm2 hm3 hm4 hsame;refine wp_seq ?_;refine aQ ?_;refine bg rfl 28 (.tmp 1) rfl w.heap.size 28 _ (0,0) (by rfl) k1 _ Tryz.underlying28 rfl (by rfl) ?_;refine bh rfl 28 (.tmp 2) (.tmp 23) rfl (w.heap.size+1) 28 _ m4.row (by rfl) (by rfl) k2 (by rfl) rfl hon ?_;have hq:=setRow_heap w13 (w.heap.size+1) _ m4.row _ _ k2;have hqb:=bm kb (g:=w.heap.size+1) (by omega) m4.row;replace O5:=O5.kp (Kp.row (x:=m4.row) k2);generalize w13.setRow (w.heap.size+1) m4.row=wz at hq hqb O5⊢;clear k1 k2 kb hsz hon;go_simp
 go_wp2_with fail
 all_goals refine aH (v:=.agg m4.row) ?_ rfl ⟨⟨m4,fs,ms,av,rfl,O5,HSAME.out⟩,hqb⟩
 all_goals have hr:=aJ (P:=Tryz.prog) wz (w.heap.size+1) 28 28 m4.row (0,0) _ hq Tryz.underlying28 rfl (by rfl)
 all_goals simp[results,Tryz.f28]
 all_goals exact hr
end Go.Proofs.YthjaiigijbjloaaGreatDoor
