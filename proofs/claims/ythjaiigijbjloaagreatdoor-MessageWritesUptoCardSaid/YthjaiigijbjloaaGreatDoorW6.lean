/- R2E, R9E, PlainDn, PlainFlt, FlM, ElF. -/
import Derived.Lib.IndexLaws
import Derived.Lib.Split
import Derived.Lib.ValidLaws
import Derived.Test.YthjaiigijbjloaaGreatDoorW5
namespace Go.Proofs.YthjaiigijbjloaaGreatDoor
open Go.RowKit Go.Lib
open Go.Lib
set_option maxRecDepth 100000
set_option maxHeartbeats 16000000
theorem le{fn:Func}{R:Ending→World→Prop}{a:Act}{w:World}{s g:Nat}{cs:Array Value}(hf:fn.results=#[.cell s 45])(hd:a.defers=[])(hs:a.tmps[s]?=some (.pointer (some ⟨g,0,none⟩)))
  (hg:w.heap[g]?=some (.cells cs 45 (0,0))) (h5:cs.size=5) (hR:R (.returned (.agg cs)) w):bodyPost Tryz.prog fn R .ret a w:=by
 refine aH (v:=.agg cs) ?_ hd hR;have hr:=aJ (P:=Tryz.prog) w g 45 45 cs (0,0) _ hg (show Tryz.prog.underlying 45=_ from Tryz.underlying45) rfl (by rw[h5];kernel_rfl)
 simp[results,hf,hs]
 exact hr
theorem AP(t:Int)(s:List UInt8)(w:World):
  Cr 86 #[.int .i64 t,.string ⟨s.toArray⟩] w (.agg #[I0,.int .i64 t,Bf,.string ⟨s.toArray⟩,Sn]):=by
 have hb:=alb w #[I0,.int .i64 t,Bf,.string ⟨s.toArray⟩,Sn] 45;have hr:=alz w #[I0,.int .i64 t,Bf,.string ⟨s.toArray⟩,Sn] 45
 go_enter Tryz.func86,Tryz.ntmps86
 go_wp2_with fail
 all_goals exact le (s:=4) (g:=w.heap.size) rfl rfl rfl hr rfl ⟨rfl,hb⟩
theorem yM(t:Int)(v:Nat)(hv:v≤2147483647)(w:World):
  Cr 79 #[.int .i64 t,.int .i64 (v:Int)] w (.agg #[I0,.int .i64 t,Bf,.string ⟨(sgB v).toArray⟩,Sn]):=by
 have hb:=alb w Ze 45;have hr:=alz w Ze 45;have k:=yE v hv (w.alloc (.cells Ze 45))
 go_enter Tryz.func79,Tryz.ntmps79
 go_wp2_with fail
 refine ag k ?_;rintro e w2 ⟨rfl,hb2⟩;have hr2:=bkk hb2 hr;have hb3:=btt hb hb2;have hq:=setRow_heap w2 w.heap.size _ #[I0,.int .i64 t,Bf,.string ⟨(sgB v).toArray⟩,Sn] _ _ hr2;have hb4:=bm hb3 (g:=w.heap.size) (ah _) #[I0,.int .i64 t,Bf,.string ⟨(sgB v).toArray⟩,Sn]
 go_wp2_with (refine bh rfl 45 (.tmp 4) (.tmp 8) rfl w.heap.size 45 _ #[I0,.int .i64 t,Bf,.string ⟨(sgB v).toArray⟩,Sn] (by rfl) (by rfl) hr2 (by rfl) (by rfl) (by simp[Value.oneCell']) ?_)
 all_goals exact le (s:=4) (g:=w.heap.size) rfl rfl rfl hq rfl ⟨rfl,hb4⟩
theorem zJ(t:Int)(w:World):
  Cr 36 #[.int .i64 t,.bool true] w (.agg #[I0,.int .i64 t,Bf,.string ⟨#[255]⟩,Sn]):=by
 have hb:=alb w #[I0,.int .i64 t,Bf,.string ⟨#[255]⟩,Sn] 45;have hr:=alz w #[I0,.int .i64 t,Bf,.string ⟨#[255]⟩,Sn] 45
 go_enter Tryz.func36,Tryz.ntmps36
 go_wp2_with fail
 all_goals exact le (s:=4) (g:=w.heap.size) rfl rfl rfl hr rfl ⟨rfl,hb⟩
theorem zp(t:Int)(w:World):
  Cr 36 #[.int .i64 t,Bf] w (.agg #[I0,.int .i64 t,Bf,.string ⟨#[0]⟩,Sn]):=by
 have hb:=alb w #[I0,.int .i64 t,Bf,.string ⟨#[0]⟩,Sn] 45;have hr:=alz w #[I0,.int .i64 t,Bf,.string ⟨#[0]⟩,Sn] 45
 go_enter Tryz.func36,Tryz.ntmps36
 go_wp2_with fail
 all_goals exact le (s:=4) (g:=w.heap.size) rfl rfl rfl hr rfl ⟨rfl,hb⟩
theorem wL(t:Int)(b:Bool)(w:World):Cr 36 #[.int .i64 t,.bool b] w (.agg #[I0,.int .i64 t,Bf,.string ⟨(blB b).toArray⟩,Sn]):=by
 cases b
 ·exact zp t w
 ·exact zJ t w
theorem AQ(a:Option Addr)(n c:Nat)(w:World):
  Cr 78 #[.slice a n c] w (.agg #[I0,.int .i64 16,.bool true,Es,.slice a n c]):=by
 have hb:=alb w #[I0,.int .i64 16,.bool true,Es,.slice a n c] 45;have hr:=alz w #[I0,.int .i64 16,.bool true,Es,.slice a n c] 45
 go_enter Tryz.func78,Tryz.ntmps78
 go_wp2_with fail
 all_goals exact le (s:=2) (g:=w.heap.size) rfl rfl rfl hr rfl ⟨rfl,hb⟩
theorem l9(p q:Int)(k:Bool)(s:List UInt8)(a:Option Addr)(n z:Nat)(c t:Int)(w:World):
  Cr 85 #[.agg #[.int .i64 p,.int .i64 q,.bool k,.string ⟨s.toArray⟩,.slice a n z],.int .i64 c,.int .i64 t] w (.agg #[.int .i64 c,.int .i64 t,.bool k,.string ⟨s.toArray⟩,.slice a n z]):=by
 obtain⟨w1,hw1⟩:=nmm ((w.alloc (.cells #[.int .i64 p,.int .i64 q,.bool k,.string ⟨s.toArray⟩,.slice a n z] 45)).alloc (.cells Ze 45));have hb:Below w.heap.size w w1:=by rw[←hw1];exact((ar _ _).alloc (ah _) _).alloc (by simp) _
 have hm:w1.heap[w.heap.size]?=some (.cells #[.int .i64 p,.int .i64 q,.bool k,.string ⟨s.toArray⟩,.slice a n z] 45 (0,0)):=by rw[←hw1];exact(alloc_old _ _ _ (by simp)).trans (bi _ _ _ rfl)
 have hr:w1.heap[w.heap.size+1]?=some (.cells Ze 45 (0,0)):=by rw[←hw1];exact bi _ _ _ (by simp)
 go_enter Tryz.func85,Tryz.ntmps85
 go_upto_region 1 with fail
 clear hw1;have z0:=aj hm 0;have z1:=aj hm 1;have q0:=cval hm 0 (.int .i64 p);have q1:=cval hm 1 (.int .i64 q);have n1:(w1.setCell ⟨w.heap.size,0,none⟩ (.int .i64 c)).heap[w.heap.size]?=some (.cells #[.int .i64 c,.int .i64 q,.bool k,.string ⟨s.toArray⟩,.slice a n z] 45 (0,0)):=bw (i:=0) (u:=.int .i64 c) hm;have n2:((w1.setCell ⟨w.heap.size,0,none⟩ (.int .i64 c)).setCell ⟨w.heap.size,1,none⟩ (.int .i64 t)).heap[w.heap.size]?=some (.cells #[.int .i64 c,.int .i64 t,.bool k,.string ⟨s.toArray⟩,.slice a n z] 45 (0,0)):=bw (i:=1) (u:=.int .i64 t) n1;have m2:((w1.setCell ⟨w.heap.size,0,none⟩ (.int .i64 c)).setCell ⟨w.heap.size,1,none⟩ (.int .i64 t)).heap[w.heap.size+1]?=some (.cells Ze 45 (0,0)):=(aX _ ⟨w.heap.size,1,none⟩ _ _ (by show w.heap.size+1≠w.heap.size;omega)).trans ((aX _ ⟨w.heap.size,0,none⟩ _ _ (by show w.heap.size+1≠w.heap.size;omega)).trans hr);have b2:Below w.heap.size w ((w1.setCell ⟨w.heap.size,0,none⟩ (.int .i64 c)).setCell ⟨w.heap.size,1,none⟩ (.int .i64 t)):=(hb.setCell (p:=⟨w.heap.size,0,none⟩) (ah _) _).setCell (p:=⟨w.heap.size,1,none⟩) (ah _) _;obtain⟨HN,HM,HB⟩:=Ch n2 m2 b2;clear n1 n2 m2 b2 hb hm hr
 go_wp2_with (first
  |(generalize(w1.setCell ⟨w.heap.size,0,none⟩ (.int .i64 c)).setCell ⟨w.heap.size,1,none⟩ (.int .i64 t)=w3 at HN HM HB⊢;refine bg rfl 45 (.tmp 3) rfl w.heap.size 45 _ (0,0) (by rfl) HN.out _ Tryz.underlying45 rfl (by rfl) ?_)
  |(refine bh rfl 45 (.tmp 6) (.tmp 11) rfl (w.heap.size+1) 45 _ #[.int .i64 c,.int .i64 t,.bool k,.string ⟨s.toArray⟩,.slice a n z] (by rfl) (by rfl) HM.out (by rfl) (by rfl) (by simp[Value.oneCell']) ?_))
 have hq:=setRow_heap w3 (w.heap.size+1) _ #[.int .i64 c,.int .i64 t,.bool k,.string ⟨s.toArray⟩,.slice a n z] _ _ HM.out;have hb4:=bm HB.out (g:=w.heap.size+1) (by omega) #[.int .i64 c,.int .i64 t,.bool k,.string ⟨s.toArray⟩,.slice a n z]
 all_goals exact le (s:=6) (g:=w.heap.size+1) rfl rfl rfl hq rfl ⟨rfl,hb4⟩
theorem dr(s:List UInt8)(w:World):
  Cr 35 #[.string ⟨s.toArray⟩] w (.agg #[I0,.int .i64 4,Bf,.string ⟨s.toArray⟩,Sn]):=by
 have hb:=alb w Ze 45;have hr:=alz w Ze 45;have k:=AP 4 s (w.alloc (.cells Ze 45))
 go_enter Tryz.func35,Tryz.ntmps35
 go_wp2_with fail
 refine ag k ?_;rintro e w2 ⟨rfl,hb2⟩;have hr2:=bkk hb2 hr;have hb3:=btt hb hb2;have hq:=setRow_heap w2 (w.heap.size) _ #[I0,.int .i64 4,Bf,.string ⟨s.toArray⟩,Sn] _ _ hr2;have hb4:=bm hb3 (g:=w.heap.size) (by omega) #[I0,.int .i64 4,Bf,.string ⟨s.toArray⟩,Sn]
 go_wp2_with (refine bh rfl 45 (.tmp 2) (.tmp 4) rfl (w.heap.size) 45 _ #[I0,.int .i64 4,Bf,.string ⟨s.toArray⟩,Sn] (by rfl) (by rfl) hr2 (by rfl) (by rfl) (by simp[Value.oneCell']) ?_)
 all_goals exact le (s:=2) (g:=w.heap.size) rfl rfl rfl hq rfl ⟨rfl,hb4⟩
theorem tm(v:Nat)(hv:v≤2147483647)(w:World):
  Cr 33 #[.int .i64 (v:Int)] w (.agg #[I0,.int .i64 2,Bf,.string ⟨(sgB v).toArray⟩,Sn]):=by
 have hb:=alb w Ze 45;have hr:=alz w Ze 45;have k:=yM 2 v hv (w.alloc (.cells Ze 45))
 go_enter Tryz.func33,Tryz.ntmps33
 go_wp2_with fail
 refine ag k ?_;rintro e w2 ⟨rfl,hb2⟩;have hr2:=bkk hb2 hr;have hb3:=btt hb hb2;have hq:=setRow_heap w2 (w.heap.size) _ #[I0,.int .i64 2,Bf,.string ⟨(sgB v).toArray⟩,Sn] _ _ hr2;have hb4:=bm hb3 (g:=w.heap.size) (by omega) #[I0,.int .i64 2,Bf,.string ⟨(sgB v).toArray⟩,Sn]
 go_wp2_with (refine bh rfl 45 (.tmp 2) (.tmp 4) rfl (w.heap.size) 45 _ #[I0,.int .i64 2,Bf,.string ⟨(sgB v).toArray⟩,Sn] (by rfl) (by rfl) hr2 (by rfl) (by rfl) (by simp[Value.oneCell']) ?_)
 all_goals exact le (s:=2) (g:=w.heap.size) rfl rfl rfl hq rfl ⟨rfl,hb4⟩
theorem sf(v:Nat)(hv:v≤2147483647)(w:World):
  Cr 80 #[.int .i64 (v:Int)] w (.agg #[I0,.int .i64 10,Bf,.string ⟨(sgB v).toArray⟩,Sn]):=by
 have hb:=alb w Ze 45;have hr:=alz w Ze 45;have k:=yM 10 v hv (w.alloc (.cells Ze 45))
 go_enter Tryz.func80,Tryz.ntmps80
 go_wp2_with fail
 refine ag k ?_;rintro e w2 ⟨rfl,hb2⟩;have hr2:=bkk hb2 hr;have hb3:=btt hb hb2;have hq:=setRow_heap w2 (w.heap.size) _ #[I0,.int .i64 10,Bf,.string ⟨(sgB v).toArray⟩,Sn] _ _ hr2;have hb4:=bm hb3 (g:=w.heap.size) (by omega) #[I0,.int .i64 10,Bf,.string ⟨(sgB v).toArray⟩,Sn]
 go_wp2_with (refine bh rfl 45 (.tmp 2) (.tmp 4) rfl (w.heap.size) 45 _ #[I0,.int .i64 10,Bf,.string ⟨(sgB v).toArray⟩,Sn] (by rfl) (by rfl) hr2 (by rfl) (by rfl) (by simp[Value.oneCell']) ?_)
 all_goals exact le (s:=2) (g:=w.heap.size) rfl rfl rfl hq rfl ⟨rfl,hb4⟩
theorem dd(a:Option Addr)(n c:Nat)(w:World):
  Cr 32 #[.slice a n c] w (.agg #[I0,.int .i64 16,.bool true,Es,.slice a n c]):=by
 have hb:=alb w Ze 45;have hr:=alz w Ze 45;have k:=AQ a n c (w.alloc (.cells Ze 45))
 go_enter Tryz.func32,Tryz.ntmps32
 go_wp2_with fail
 refine ag k ?_;rintro e w2 ⟨rfl,hb2⟩;have hr2:=bkk hb2 hr;have hb3:=btt hb hb2;have hq:=setRow_heap w2 (w.heap.size) _ #[I0,.int .i64 16,.bool true,Es,.slice a n c] _ _ hr2;have hb4:=bm hb3 (g:=w.heap.size) (by omega) #[I0,.int .i64 16,.bool true,Es,.slice a n c]
 go_wp2_with (refine bh rfl 45 (.tmp 2) (.tmp 4) rfl (w.heap.size) 45 _ #[I0,.int .i64 16,.bool true,Es,.slice a n c] (by rfl) (by rfl) hr2 (by rfl) (by rfl) (by simp[Value.oneCell']) ?_)
 all_goals exact le (s:=2) (g:=w.heap.size) rfl rfl rfl hq rfl ⟨rfl,hb4⟩
theorem l7(t:Int)(p q:Int)(k:Bool)(s:List UInt8)(a:Option Addr)(n z:Nat)(w:World):
  Cr 37 #[.int .i64 t,.agg #[.int .i64 p,.int .i64 q,.bool k,.string ⟨s.toArray⟩,.slice a n z]] w (.agg #[.int .i64 2,.int .i64 t,.bool k,.string ⟨s.toArray⟩,.slice a n z]):=by
 have hb:Below w.heap.size w ((w.alloc (.cells #[.int .i64 p,.int .i64 q,.bool k,.string ⟨s.toArray⟩,.slice a n z] 45)).alloc (.cells Ze 45)):=((ar _ _).alloc (ah _) _).alloc (by simp) _;have hm:((w.alloc (.cells #[.int .i64 p,.int .i64 q,.bool k,.string ⟨s.toArray⟩,.slice a n z] 45)).alloc (.cells Ze 45)).heap[w.heap.size]?=some (.cells #[.int .i64 p,.int .i64 q,.bool k,.string ⟨s.toArray⟩,.slice a n z] 45 (0,0)):=(alloc_old _ _ _ (by simp)).trans (bi _ _ _ rfl);have hr:((w.alloc (.cells #[.int .i64 p,.int .i64 q,.bool k,.string ⟨s.toArray⟩,.slice a n z] 45)).alloc (.cells Ze 45)).heap[w.heap.size+1]?=some (.cells Ze 45 (0,0)):=bi _ _ _ (by simp);have kk:=l9 p q k s a n z 2 t ((w.alloc (.cells #[.int .i64 p,.int .i64 q,.bool k,.string ⟨s.toArray⟩,.slice a n z] 45)).alloc (.cells Ze 45))
 go_enter Tryz.func37,Tryz.ntmps37
 go_wp2_with (refine bg rfl 45 (.tmp 3) rfl w.heap.size 45 _ (0,0) (by rfl) hm _ Tryz.underlying45 rfl (by rfl) ?_)
 refine ag kk ?_;rintro e w2 ⟨rfl,hb2⟩;have hr2:=bkk hb2 hr;have hb3:=btt hb hb2;have hq:=setRow_heap w2 (w.heap.size+1) _ #[.int .i64 2,.int .i64 t,.bool k,.string ⟨s.toArray⟩,.slice a n z] _ _ hr2;have hb4:=bm hb3 (g:=w.heap.size+1) (by omega) #[.int .i64 2,.int .i64 t,.bool k,.string ⟨s.toArray⟩,.slice a n z]
 go_wp2_with (refine bh rfl 45 (.tmp 4) (.tmp 7) rfl (w.heap.size+1) 45 _ #[.int .i64 2,.int .i64 t,.bool k,.string ⟨s.toArray⟩,.slice a n z] (by rfl) (by rfl) hr2 (by rfl) (by rfl) (by simp[Value.oneCell']) ?_)
 all_goals exact le (s:=4) (g:=w.heap.size+1) rfl rfl rfl hq rfl ⟨rfl,hb4⟩
def xN(P:Nat→Prop)(w:World):List El→List Value→Prop
 |e::L,u::us=>bf P w u e.kids∧xN P w L us
 |_,_=>True
theorem xN.get{P:Nat→Prop}{w:World}:∀(L:List El) (us:List Value),xN P w L us→∀(j:Nat) (e:El) (u:Value),L[j]?=some e→us[j]?=some u→bf P w u e.kids
 |[],_,_,j,e,u,h,_=>by simp at h
 |_::_,[],_,j,e,u,_,h=>by simp at h
 |x::L,y::us,hk,0,e,u,h1,h2=>by simp at h1 h2;subst h1 h2;exact hk.1
 |x::L,y::us,hk,j+1,e,u,h1,h2=>xN.get L us hk.2 j e u (by simpa using h1) (by simpa using h2)
abbrev zE:Array Value:=Ze
structure EaS (g:Nat) (C:Array Value) (w:World) (v:Value) (L:List El) (wr:World):Prop where
 own:∃us:List Value,us.length=L.length∧wr.ownsRow (g+1) 45 5 v L.length (cx L us)∧∀(j:Nat) (e:El) (u:Value),L[j]?=some e→us[j]?=some u→bf (fun h=>g<h∧v.ownBlock≠some h) wr u e.kids
 box:wr.heap[g]?=some (.cells C 45 (0,0))
 bel:Below w.heap.size w wr
 lo:w.heap.size≤g
theorem EaS.nil{g:Nat}{C:Array Value}{w wr:World}(h1:wr.heap[g]?=some (.cells C 45 (0,0)))(h2:Below w.heap.size w wr)(h3:w.heap.size≤g):EaS g C w (Sn) [] wr:=
 ⟨⟨[],rfl,World.ownsRow_nil _ _ _ _,fun j e u h=>by simp at h⟩,h1,h2,h3⟩
theorem EaS.below{g:Nat}{C:Array Value}{w wr w':World}{v:Value}{L:List El}(h:EaS g C w v L wr)(hb:Below wr.heap.size wr w'):EaS g C w v L w':=by
 obtain⟨us,hl,ho,hk⟩:=h.own;exact⟨⟨us,hl,ge ho hb,fun j e u q1 q2=>(hk j e u q1 q2).below hb⟩,(hb.block _ (gl h.box)).trans h.box,cL h.bel hb,h.lo⟩
theorem EaS.shape{g:Nat}{C:Array Value}{w wr:World}{v:Value}{L:List El}(h:EaS g C w v L wr):∃a c,v=.slice a L.length c:=by
 obtain⟨us,hl,ho,hk⟩:=h.own;exact gf ho
theorem EaS.lt{g:Nat}{C:Array Value}{w wr:World}{v:Value}{L:List El}(h:EaS g C w v L wr){k:Nat}(hk:v.ownBlock=some k):g+1≤k∧k<wr.heap.size:=by
 obtain⟨us,hl,ho,_⟩:=h.own;exact ho.lt k hk
theorem EaS.glt{g:Nat}{C:Array Value}{w wr:World}{v:Value}{L:List El}(h:EaS g C w v L wr):g<wr.heap.size:=(gl h.box)
theorem EaS.fresh{g:Nat}{C:Array Value}{w wr w2:World}{v u:Value}{L ks:List El}(h:EaS g C w v L wr)(hk:bf (fun k=>wr.heap.size≤k) w2 u ks):bf (fun k=>g<k∧v.ownBlock≠some k) w2 u ks:=
 hk.mono fun k hk _=>⟨by have:=h.glt;omega,fun e=>by have:=(h.lt e).2;omega⟩
theorem EaS.kids{g:Nat}{C:Array Value}{w wr:World}{v:Value}{L:List El}(h:EaS g C w v L wr):bf (fun k=>g<k) wr v L:=by
 obtain⟨us,hl,ho,hk⟩:=h.own;exact jI ho hl (fun j e u q1 q2=>(hk j e u q1 q2).mono fun _ q _=>q.1) (fun k hk=>hk)
theorem EaS.done{g:Nat}{C:Array Value}{w wr:World}{v:Value}{L:List El}(h:EaS g C w v L wr)(R:Array Value):bf (fun k=>w.heap.size≤k) (wr.setRow g R) v L∧Below w.heap.size w (wr.setRow g R)∧(wr.setRow g R).heap[g]?=some (.cells R 45 (0,0)):=
 ⟨h.kids.kept fun k hk _=>⟨setRow_other _ _ _ _ (by omega),by have:=h.lo;omega⟩,bm h.bel h.lo R,setRow_heap _ _ _ _ _ _ h.box⟩
theorem EaS.row{g b:Nat}{C:Array Value}{w wr:World}{L:List El}{us:List Value}{cs:Array Value}(h1:wr.heap[g]?=some (.cells C 45 (0,0)))(h2:Below w.heap.size w wr)(h3:w.heap.size≤g)(hb:wr.heap[b]?=some (.cells cs 45 (0,0)))
  (hgb:g<b) (hcs:cs.toList=cx L us) (hl:us.length=L.length) (hn:L.length≤1000000000) (hk:xN (fun h=>g<h∧h<b) wr L us):EaS g C w (.slice (some ⟨b,0,none⟩) L.length L.length) L wr:=by
 have hfl:=iY L us hl;refine⟨⟨us,hl,⟨by rw[hfl],.inr ⟨b,L.length,cs,rfl,hgb,hb,ah _,by unfold maxLen;omega,by rw[←Array.length_toList,hcs,hfl],by rw[hcs,←hfl,List.take_length]⟩⟩,fun j e u q1 q2=>(xN.get L us hk j e u q1 q2).mono fun k hk _=>⟨hk.1,fun e=>?_⟩⟩,h1,h2,h3⟩;simp only[Value.ownBlock,Option.some.injEq] at e
 omega
theorem EaS.set{g:Nat}{C:Array Value}{w wr:World}{v:Value}{L:List El}(h:EaS g C w v L wr)(i:Nat)(x:Value):EaS g (C.setIfInBounds i x) w v L (wr.setCell ⟨g,i,none⟩ x):=by
 obtain⟨us,hl,ho,hk⟩:=h.own;refine⟨⟨us,hl,ho.kept (kW wr g i x) ?_,fun j e u q1 q2=>(hk j e u q1 q2).kept fun k hk _=>⟨aX wr ⟨g,i,none⟩ x k (by show k≠g;omega),hk⟩⟩,bw h.box,h.bel.setCell (p:=⟨g,i,none⟩) h.lo x,h.lo⟩;cases hb:v.ownBlock with
 |none=>exact .inl rfl
 |some k=>exact .inr (fun e=>by cases e;have:=(h.lt hb).1;omega)
theorem EaS.put{g:Nat}{C:Array Value}{w wr:World}{v:Value}{L:List El}(h:EaS g C w v L wr)(R:Array Value):EaS g R w v L (wr.setRow g R):=by
 obtain⟨us,hl,ho,hk⟩:=h.own;refine⟨⟨us,hl,ho.kept (pP wr g R) ?_,fun j e u q1 q2=>(hk j e u q1 q2).kept fun k hk _=>⟨setRow_other _ _ _ _ (by omega),hk⟩⟩,setRow_heap _ _ _ _ _ _ h.box,bm h.bel h.lo R,h.lo⟩;cases hb:v.ownBlock with
 |none=>exact .inl rfl
 |some k=>exact .inr (fun e=>by cases e;have:=(h.lt hb).1;omega)
theorem l5{P:Program}{w:World}{o:Oper}{a:Act}{K:Act→World→Prop}{Q:Exit→Act→World→Prop}(t:TypeId)(x y:Operand)(ho:o.op=.store t x y)
  (g:Nat) (ty:TypeId) (old cs:Array Value) (hx:a.eval x=.pointer (some ⟨g,0,none⟩)) (hy:a.eval y=.agg cs) (hg:w.heap[g]?=some (.cells old ty (0,0))) (hi:(P.info? t).map (·.size)=some cs.size) (hs:old.size=cs.size) (h1:cs.all (·.oneCell')=true)
  (h:K (a.put o.dst (.tuple #[])) (w.setRow g cs)):Oper.wp P o a w K Q:=by
 have hr:=run_storeVar_row (P:=P) w g ty t old cs hg hi hs h1;unfold Oper.wp execOp;simp only[ho,hx,hy,Instr.storeAt,Instr.sureAddr,Sem.run_bind,Sem.run_pure,Result.andThen_ok,hr];exact h
theorem wU{g:Nat}{C:Array Value}{w wr:World}{v:Value}{L:List El}{o:Oper}{a:Act}{K:Act→World→Prop}{Q:Exit→Act→World→Prop}(S:EaS g C w v L wr)(e:El)(au:Option Addr)(n cu:Nat)(s x:Operand)
  (ho:o.op=.call {callee:=.builtin .append,args:=#[s,x],argTypes:=#[43,43]}) (hs:a.eval s=v) (hx:a.eval x=.slice (some ⟨wr.heap.size,0,none⟩) 1 1)
  (hke:bf (fun k=>g<k∧v.ownBlock≠some k) wr (.slice au n cu) e.kids) (hl:L.length≤1000000000)
  (h:∀a' c' w',EaS g C w (.slice a' (L.length+1) c') (L++[e]) w'→K (a.put o.dst (.slice a' (L.length+1) c')) w'):Oper.wp Tryz.prog o a (wr.alloc (.cells (elA e (.slice au n cu)) 45)) K Q:=by
 obtain⟨i0,hi0,hz0,hz1,hz2⟩:=info_parts Tryz.infoElement;have hal:Below wr.heap.size wr (wr.alloc (.cells (elA e (.slice au n cu)) 45)):=(ar _ _).alloc (ah _) _;have S1:=S.below hal;have hkeb:=hke.below hal;obtain⟨us,hu,hown,hk⟩:=S1.own;refine wp_append_lies _ s x 43 ho (g+1) 45 i0 _ 5 64 Tryz.underlying43 hi0 hz0 hz1 hz2 rfl (by decide) v L.length (cx L us) hs hown ⟨wr.heap.size,0,none⟩ 1 1 [.int .i64 e.cls,.int .i64 e.tag,.bool e.cons,.string ⟨e.bytes.toArray⟩,.slice au n cu] hx rfl (World.news_of_block (bi _ _ _ rfl)) (by simp[Value.oneCell']) (by decide) (by unfold maxLen;omega) (by omega) S1.glt _ rfl ?_;intro g' cap w' q1 q2 q3 _;refine h _ _ _ ?_;have hkeep:∀(u:Value) (ks:List El),bf (fun k=>g<k∧v.ownBlock≠some k) (wr.alloc (.cells (elA e (.slice au n cu)) 45)) u ks→bf (fun k=>g<k∧(.slice (some ⟨g',0,none⟩) (L.length+1) cap:Value).ownBlock≠some k) w' u ks:=by
  intro u ks q;refine q.kept fun k hk' hl'=>⟨q2.block k hl' (fun h=>hk'.2 h.symm),hk'.1,fun h=>?_⟩
  have hgg:g'=k:=by simpa[Value.ownBlock] using h
  rcases q3 with h1|h1
  ·exact hk'.2 (hgg▸h1)
  ·omega
 have hlen:(L++[e]).length=L.length+1:=by simp
 refine⟨⟨us++[.slice au n cu],by simp[hu],?_,fun j x y r1 r2=>?_⟩,(q2.block _ (gl S1.box) (fun q=>?_)).trans S1.box,S1.bel.grown q2 (by have:=S1.glt;have:=S1.lo;omega) (fun b hb=>by have:=(S1.lt hb).1;have:=S1.lo;omega),S1.lo⟩
 ·rw[wt _ _ _ _ hu,hlen]
  exact q1
 ·by_cases hj:j<L.length
  ·rw[List.getElem?_append_left hj] at r1
   rw[List.getElem?_append_left (by omega)] at r2;exact hkeep _ _ (hk j x y r1 r2)
  ·have hj':j=L.length:=by
    have:=(List.getElem?_eq_some_iff.1 r1).1
    simp at this
    omega
   subst hj';rw[List.getElem?_append_right (ah _)] at r1;rw[List.getElem?_append_right (by omega)] at r2
   simp[hu] at r1 r2
   subst r1;subst r2;exact hkeep _ _ hkeb
 ·have:=(S1.lt q.symm).1
  omega
theorem wu{g:Nat}{C:Array Value}{w wr:World}{v:Value}{L:List El}{ops:Array Oper}{rest:List Oper}{o:Oper}{a:Act}{Q:Exit→Act→World→Prop}(S:EaS g C w v L wr)(e:El)(au:Option Addr)(n cu:Nat)(hgd:o.guard=none)(s x:Operand)
  (ho:o.op=.call {callee:=.builtin .append,args:=#[s,x],argTypes:=#[43,43]}) (hs:a.eval s=v) (hx:a.eval x=.slice (some ⟨wr.heap.size,0,none⟩) 1 1)
  (hke:bf (fun k=>g<k∧v.ownBlock≠some k) wr (.slice au n cu) e.kids) (hl:L.length≤1000000000)
  (h:∀a' c' w',EaS g C w (.slice a' (L.length+1) c') (L++[e]) w'→wpList Tryz.prog ops Q rest (a.put o.dst (.slice a' (L.length+1) c')) w'):wpList Tryz.prog ops Q (o::rest) a (wr.alloc (.cells (elA e (.slice au n cu)) 45)):=
 aB hgd fun _ hK=>wU S e au n cu s x ho hs hx hke hl fun a' c' w' h1=>hK _ _ (h a' c' w' h1)
theorem yu(vs:Value)(ls:List (List UInt8))(w:World)(h:ct w vs ls)(hl:ls.length≤100000000):
  Calls Tryz.prog 82 #[vs] w fun e w'=>(∃u,e=.returned (.agg (elA (.mk 0 16 true [] (ls.map cP)) u))∧bf (fun g=>w.heap.size≤g) w' u (ls.map cP))∧Below w.heap.size w w':=by
 obtain⟨a,cap,rfl,hcap,hcells⟩:=h;have HC:=hid hcells;have S0:EaS w.heap.size zE w (Sn) [] (w.alloc (.cells zE 45)):=EaS.nil (bi _ _ _ rfl) ((ar _ _).alloc (ah _) _) (ah _);clear hcells
 go_enter Tryz.func82,Tryz.ntmps82
 go_upto_region 1 with fail
 generalize w.alloc (.cells Ze 45)=w1 at S0⊢;have HS0:=hid S0;clear S0
 go_wp2_with fail
 go_loopw [3,4] (fun v i wr=>∃k:Nat,i=.int .i64 (k:Int)∧k≤ls.length∧EaS w.heap.size zE w v ((ls.take k).map cP) wr) (fun _ i _=>ls.length -(RowKit.intOf i).toNat)
 case atStart=>exact⟨0,rfl,Nat.zero_le _,HS0.out⟩
 case round=>
  clear HS0;obtain⟨k,rfl,hk,S⟩:=hrel;obtain⟨av,cv,hsh⟩:=S.shape;subst hsh;have hlen:((ls.take k).map cP).length=k:=by simp;omega
  rw[hlen] at S⊢
  by_cases hkl:k<ls.length
  ·obtain⟨s,hs⟩:∃s,ls[k]?=some s:=⟨_,by simp[hkl];rfl⟩
   obtain⟨g,o,ha,hc⟩:=HC.out (by intro h0;rw[h0] at hkl;simp at hkl);subst ha;have q0:=(S.bel.cell (bj (hc k s hs))).trans (hc k s hs);have i1:decide ((k:Int)<(ls.length:Int))=true:=aL (by omega);have i2:(k:Int)<(ls.length:Int):=by omega
   obtain⟨HO,HS⟩:=Cg S hs;have kc:=dr s wr;clear hc hs S
   go_wp2_with fail
   refine ag kc ?_;rintro e w2 ⟨rfl,hb2⟩;have S2:=HO.out.below hb2;clear q0 kc HO hb2
   go_wp2_with (at_builtin;refine wu S2 (cP s) none 0 0 rfl (.tmp 11) (.tmp 17) rfl rfl rfl (bf.nil _ _) (by omega) ?_;rw[hlen];intro a' c' w5 S5)
   have hts:(ls.take (k+1)).map cP=(ls.take k).map cP++[cP s]:=by rw[List.take_add_one,HS.out];simp
   exact⟨⟨k+1,by go_num,by omega,by rw[hts];exact S5⟩,by simp[RowKit.intOf];omega⟩
  ·obtain rfl:k=ls.length:=by omega
   rw[List.take_of_length_le (ah _)] at S;have kc:=dd av ls.length cv wr;have i1:decide ((ls.length:Int)<(ls.length:Int))=false:=an (by omega);have HO:=hid S;clear S
   go_wp2_with fail
   refine ag kc ?_;rintro e w2 ⟨rfl,hb2⟩;have S2:=HO.out.below hb2;obtain⟨d1,d2,d3⟩:=S2.done #[I0,.int .i64 16,.bool true,Es,.slice av ls.length cv];clear kc HO hb2
   go_wp2_with (refine bh rfl 45 (.tmp 2) (.tmp 20) rfl w.heap.size 45 _ #[I0,.int .i64 16,.bool true,Es,.slice av ls.length cv] (by rfl) (by rfl) S2.box (by rfl) (by rfl) (by simp[Value.oneCell']) ?_)
   all_goals exact le (s:=2) (g:=w.heap.size) rfl rfl rfl d3 rfl ⟨⟨_,rfl,d1⟩,d2⟩
def kR(c:UInt8):Bool:=(decide (97≤c.toNat)&&decide (c.toNat≤122))||(decide (65≤c.toNat)&&decide (c.toNat≤90))
def eN(c:UInt8):Bool:=decide (48≤c.toNat)&&decide (c.toNat≤57)
def jz(c:UInt8):Bool:=kR c||eN c||c==45||c==46
def mQ(n:List UInt8):Bool:=!n.isEmpty&&!(decide (1<n.length)&&n.getD 0 0==48)&&n.all eN
def sq(s:List UInt8):Bool:=(split s [46]).all mQ&&decide (1<(split s [46]).length)
def gr(s:List UInt8):Bool:=
 if s=[]∨64<s.length then false
 else if kR (s.getD 0 0) then s.all (fun c=>jz c&&c !=46)
 else sq s
structure Fl where
 op:Int
 n:Int
 typ:List UInt8
 value:List UInt8
 init:List UInt8
 final:List UInt8
 any:List (List UInt8)
def bU(p:Fl):Bool:=
 if p.op=0∨p.op=1∨p.op=2 then decide (p.typ=[])&&decide (p.value=[])&&decide (p.init=[])&&decide (p.final=[])&&decide (p.any=[])&&decide (0≤p.n)&&(decide (p.op≠2)||decide (p.n=1))
 else if p.op=3∨p.op=5∨p.op=6∨p.op=8 then decide (p.n=0)&&decide (p.init=[])&&decide (p.final=[])&&decide (p.any=[])&&gr p.typ
 else if p.op=4 then !(decide (p.init=[])&&decide (p.final=[])&&decide (p.any=[]))&&!p.any.contains []&&decide (p.n=0)&&decide (p.value=[])&&gr p.typ
 else if p.op=7 then decide (p.n=0)&&decide (p.value=[])&&decide (p.init=[])&&decide (p.final=[])&&decide (p.any=[])&&gr p.typ
 else false
def nx(g:List Fl→Option (List Fl)):Nat→List Fl→Option (List Fl)
 |0,f=>some f
 |n+1,f=>match g f with
  |none=>none
  |some r=>nx g n r
def bG:Nat→List Fl→Option (List Fl)
 |0,_=>none
 |_+1,[]=>none
 |k+1,p::f=>if bU p then nx (bG k) p.n.toNat f else none
def dz(f:List Fl):Bool:=decide (f.length≤100)&&(match bG 20 f with|some []=>true|_=>false)
def cj(s:List UInt8):El:=.mk 0 4 false s []
def bL(p:Fl):List El:=
 (if p.init=[] then[] else[.mk 2 0 false p.init []])++p.any.map (fun s=>.mk 2 1 false s [])++(if p.final=[] then[] else[.mk 2 2 false p.final []])
def er(p:Fl):El:=
 if p.op=7 then .mk 2 7 false p.typ [] else if p.op=4 then .mk 2 4 true [] [cj p.typ,.mk 0 16 true [] (bL p)] else .mk 2 p.op true [] [cj p.typ,cj p.value]
def cT(g:List Fl→El×List Fl):Nat→List Fl→List El×List Fl
 |0,f=>([],f)
 |n+1,f=>((g f).1::(cT g n (g f).2).1,(cT g n (g f).2).2)
def cD:Nat→List Fl→El×List Fl
 |0,f=>(.mk 0 0 false [] [],f)
 |_+1,[]=>(.mk 0 0 false [] [],[])
 |k+1,p::f=>if p.op=0∨p.op=1∨p.op=2 then(.mk 2 p.op true [] (cT (cD k) p.n.toNat f).1,(cT (cD k) p.n.toNat f).2) else(er p,f)
theorem iQ{p:Fl}(h:bU p=true)(h2:¬(p.op=0∨p.op=1∨p.op=2)):p.n=0:=by
 unfold bU at h;rw[if_neg h2] at h
 by_cases h3:p.op=3∨p.op=5∨p.op=6∨p.op=8
 ·rw[if_pos h3] at h;simp only[aI,aT] at h;exact h.1.1.1.1
 ·rw[if_neg h3] at h
  by_cases h4:p.op=4
  ·rw[if_pos h4] at h;simp only[aI,aT] at h;exact h.1.1.2
  ·rw[if_neg h4] at h
   by_cases h5:p.op=7
   ·rw[if_pos h5] at h;simp only[aI,aT] at h;exact h.1.1.1.1.1
   ·rw[if_neg h5] at h;cases h
theorem mR{g:List Fl→Option (List Fl)}{e:List Fl→El×List Fl}(hg:∀f r,g f=some r→(e f).2=r):∀(n:Nat) (f r:List Fl),nx g n f=some r→(cT e n f).2=r
 |0,f,r,h=>by simp[nx] at h;simp[cT,h]
 |n+1,f,r,h=>by
  unfold nx at h;unfold cT;cases hf:g f with
  |none=>rw[hf] at h;cases h
  |some r'=>
   rw[hf] at h;rw[hg f r' hf];exact mR hg n r' r h
theorem xw:∀(k:Nat) (f r:List Fl),bG k f=some r→(cD k f).2=r
 |0,_,_,h=>by cases h
 |k+1,[],_,h=>by cases h
 |k+1,p::f,r,h=>by
  unfold bG at h;unfold cD
  by_cases h0:bU p=true
  ·rw[if_pos h0] at h
   by_cases h1:p.op=0∨p.op=1∨p.op=2
   ·rw[if_pos h1]
    exact mR (xw k) _ _ _ h
   ·rw[if_neg h1]
    rw[iQ h0 h1] at h
    simpa[nx] using h
  ·rw[if_neg h0] at h;cases h
theorem lL{g:List Fl→Option (List Fl)}(hg:∀f r,g f=some r→r<:+f):∀(n:Nat) (f r:List Fl),nx g n f=some r→r<:+f
 |0,f,r,h=>by simp[nx] at h;rw[h];exact List.suffix_refl _
 |n+1,f,r,h=>by
  unfold nx at h;cases hf:g f with
  |none=>rw[hf] at h;cases h
  |some r'=>
   rw[hf] at h;exact(lL hg n r' r h).trans (hg f r' hf)
theorem fR:∀(k:Nat) (f r:List Fl),bG k f=some r→r<:+f
 |0,_,_,h=>by cases h
 |k+1,[],_,h=>by cases h
 |k+1,p::f,r,h=>by
  unfold bG at h
  split at h
  ·exact(lL (fR k) _ _ _ h).trans (List.suffix_cons _ _)
  ·cases h
theorem Cv{g:List Fl→Option (List Fl)}(hg:∀f r,g f=some r→r.length<f.length):∀(n:Nat) (f r:List Fl),nx g n f=some r→n+r.length≤f.length
 |0,f,r,h=>by simp[nx] at h;simp[h]
 |n+1,f,r,h=>by
  unfold nx at h;cases hf:g f with
  |none=>rw[hf] at h;cases h
  |some r'=>
   rw[hf] at h;have h1:=hg f r' hf;have h2:=Cv hg n r' r h
   omega
theorem gt:∀(k:Nat) (f r:List Fl),bG k f=some r→r.length<f.length
 |0,_,_,h=>by cases h
 |k+1,[],_,h=>by cases h
 |k+1,p::f,r,h=>by
  unfold bG at h
  split at h
  ·have:=Cv (gt k) _ _ _ h
   simp only[aG]
   omega
  ·cases h
def Fl.ok(p:Fl):Prop:=p.typ.length≤100000000∧p.value.length≤100000000∧p.init.length≤100000000∧p.final.length≤100000000∧p.any.length≤100000000∧∀s∈p.any,s.length≤100000000
theorem wP:∀(a b:List El),SmL a→SmL b→SmL (a++b)
 |[],b,_,hb=>hb
 |e::r,b,ha,hb=>by simp only[SmL] at ha;simp only[List.cons_append,SmL];exact⟨ha.1,wP r b ha.2 hb⟩
theorem qX:∀l:List (List UInt8),(∀s∈l,s.length≤100000000)→SmL (l.map (fun s=>El.mk 2 1 false s []))
 |[],_=>by simp[SmL]
 |s::r,h=>by
  simp only[List.map_cons,SmL,SmE];exact⟨⟨by have:=h s (by simp);omega,by simp,trivial⟩,qX r (fun x hx=>h x (by simp[hx]))⟩
theorem jq(p:Fl)(h:p.ok):SmL (bL p):=by
 obtain⟨h1,h2,h3,h4,h5,h6⟩:=h;unfold bL;refine wP _ _ (wP _ _ ?_ (qX p.any h6)) ?_
 ·split
  ·trivial
  ·simp[SmL,SmE];omega
 ·split
  ·trivial
  ·simp[SmL,SmE];omega
theorem iR(p:Fl)(h:p.ok):(bL p).length≤1000000000:=by
 have h5:=h.2.2.2.2.1;unfold bL
 split<;>split<;>simp<;>omega
theorem tu(p:Fl)(h:p.ok):SmE (er p):=by
 have hp:=jq p h;have hl:=iR p h;obtain⟨h1,h2,h3,h4,h5,h6⟩:=h;unfold er
 split
 ·simp[SmE,SmL];omega
 ·split
  ·simp only[SmE,SmL,cj]
   simp
   exact⟨by omega,hl,hp⟩
  ·simp only[SmE,SmL,cj]
   simp
   omega
theorem yN{e:List Fl→El×List Fl}:∀(n:Nat) (f:List Fl),(cT e n f).1.length=n
 |0,f=>rfl
 |n+1,f=>by simp[cT,yN n]
theorem kT{g:List Fl→Option (List Fl)}{e:List Fl→El×List Fl}(hg:∀f r,g f=some r→(e f).2=r∧r<:+f)(he:∀f r,(∀p∈f,p.ok)→f.length≤100→g f=some r→SmE (e f).1):
  ∀(n:Nat) (f r:List Fl),(∀p∈f,p.ok)→f.length≤100→nx g n f=some r→SmL (cT e n f).1
 |0,f,r,_,_,_=>by simp[cT,SmL]
 |n+1,f,r,hk,hl,h=>by
  unfold nx at h;unfold cT;cases hf:g f with
  |none=>rw[hf] at h;cases h
  |some r'=>
   rw[hf] at h;obtain⟨h1,h2⟩:=hg f r' hf;simp only[SmL];rw[h1];exact⟨he f r' hk hl hf,kT hg he n r' r (fun p hp=>hk p (h2.subset hp)) (by have:=h2.length_le;omega) h⟩
theorem jr:∀(k:Nat) (f r:List Fl),(∀p∈f,p.ok)→f.length≤100→bG k f=some r→SmE (cD k f).1
 |0,_,_,_,_,h=>by cases h
 |k+1,[],_,_,_,h=>by cases h
 |k+1,p::f,r,hk,hl,h=>by
  have hlen:=gt (k+1) _ _ h;unfold bG at h;unfold cD
  by_cases h0:bU p=true
  ·rw[if_pos h0] at h
   by_cases h1:p.op=0∨p.op=1∨p.op=2
   ·rw[if_pos h1]
    have h2:=Cv (gt k) _ _ _ h;simp only[aG] at hl;have hs:=kT (fun f r hf=>⟨xw k f r hf,fR k f r hf⟩) (jr k) p.n.toNat f r (fun q hq=>hk q (by simp[hq])) (by omega) h;simp only[SmE,yN];exact⟨by simp,by omega,hs⟩
   ·rw[if_neg h1]
    exact tu p (hk p (by simp))
  ·rw[if_neg h0] at h;cases h
def mU(w:World)(g o:Nat)(p:Fl):Prop:=
 w.cell? ⟨g,o,none⟩=some (.int .i64 p.op)∧w.cell? ⟨g,o+1,none⟩=some (.int .i64 p.n)∧w.cell? ⟨g,o+2,none⟩=some (.string ⟨p.typ.toArray⟩)∧w.cell? ⟨g,o+3,none⟩=some (.string ⟨p.value.toArray⟩)∧
  w.cell? ⟨g,o+4,none⟩=some (.string ⟨p.init.toArray⟩)∧w.cell? ⟨g,o+5,none⟩=some (.string ⟨p.final.toArray⟩)∧∃u,w.cell? ⟨g,o+6,none⟩=some u∧ct w u p.any
def de(w:World)(v:Value)(f:List Fl):Prop:=
 ∃a cap,v=.slice a f.length cap∧f.length≤cap∧(f≠[]→∃g o,a=some ⟨g,o,none⟩∧∀(j:Nat) (p:Fl),f[j]?=some p→mU w g (o+j*7) p)
theorem mU.below{w w':World}{g o:Nat}{p:Fl}(h:mU w g o p)(hb:Below w.heap.size w w'):mU w' g o p:=by
 obtain⟨h0,h1,h2,h3,h4,h5,u,h6,h7⟩:=h;exact⟨(hb.cell (bj h0)).trans h0,(hb.cell (bj h1)).trans h1,(hb.cell (bj h2)).trans h2,(hb.cell (bj h3)).trans h3,(hb.cell (bj h4)).trans h4,(hb.cell (bj h5)).trans h5,u,(hb.cell (bj h6)).trans h6,h7.below hb⟩
theorem de.below{w w':World}{v:Value}{f:List Fl}(h:de w v f)(hb:Below w.heap.size w w'):de w' v f:=by
 obtain⟨a,cap,hv,hc,hr⟩:=h;refine⟨a,cap,hv,hc,fun h0=>?_⟩;obtain⟨g,o,ha,hcell⟩:=hr h0;exact⟨g,o,ha,fun j p hj=>(hcell j p hj).below hb⟩
def eH:Value→Value
 | .slice (some ⟨g,o,q⟩) n cap=>if cap=1 then .slice (some ⟨g,o,q⟩) 0 0 else .slice (some ⟨g,o+7,q⟩) (n -1) (cap -1)
 |v=>v
theorem de.drop{w:World}{v:Value}{p:Fl}{f:List Fl}(h:de w v (p::f)):de w (eH v) f:=by
 obtain⟨a,cap,rfl,hc,hr⟩:=h;obtain⟨g,o,rfl,hcell⟩:=hr (by simp);simp only[aG] at hc;unfold eH
 by_cases h1:cap=1
 ·obtain rfl:f=[]:=List.length_eq_zero_iff.1 (by omega)
  simp only[h1,if_true];exact⟨_,_,rfl,ah _,fun h=>absurd rfl h⟩
 ·simp only[h1,if_false]
  refine⟨_,_,rfl,by omega,fun _=>⟨g,o+7,rfl,fun j q hj=>?_⟩⟩;have:=hcell (j+1) q (by simpa using hj);rw[show o+7+j*7=o+(j+1)*7 by omega];exact this
theorem de.shape{w:World}{v:Value}{f:List Fl}(h:de w v f):∃a c,v=.slice a f.length c:=by
 obtain⟨a,cap,rfl,_,_⟩:=h;exact⟨a,cap,rfl⟩
theorem de.first{w:World}{v:Value}{p:Fl}{f:List Fl}(h:de w v (p::f)):∃g o cap,v=.slice (some ⟨g,o,none⟩) (f.length+1) cap∧f.length+1≤cap∧mU w g o p:=by
 obtain⟨a,cap,rfl,hc,hr⟩:=h;obtain⟨g,o,rfl,hcell⟩:=hr (by simp);have:=hcell 0 p (by simp);exact⟨g,o,cap,by simp,by simpa using hc,by simpa using this⟩
theorem pG(b:Nat)(A:Array Value)(oid:List UInt8)(w:World)(h0:w.heap[b]?=some (.cells A 28 (0,0)))(h21:A[21]?=some (.string ⟨oid.toArray⟩))(h22:A[22]?=some (.bool false))(ho:oid.length≤1000000000):
  Calls Tryz.prog 126 #[.pointer (some ⟨b,0,none⟩)] w fun e w'=>(∃u,e=.returned (.agg (elA (.mk 0 16 true [] [.mk 2 0 false oid []]) u))∧bf (fun g=>w.heap.size≤g) w' u [.mk 2 0 false oid []])∧Below w.heap.size w w':=by
 have b1:=alb w Ze 45;have t1:=alz w Ze 45;have m1:=bkk b1 h0;obtain⟨G21,G22⟩:=Cg h21 h22;clear h0 h21 h22
 go_enter Tryz.func126,Tryz.ntmps126
 go_upto_region 1 with fail
 generalize w.alloc (.cells Ze 45)=w1 at b1 t1 m1⊢;have q:=(ap m1 21).trans G21.out;have kc:=bz oid w1
 go_wp2_with fail
 refine ag kc ?_;rintro e w2 ⟨rfl,hb⟩;clear kc q;have t2:=bkk hb t1;have m2:=bkk hb m1;have b2:=btt b1 hb;clear hb t1 m1 b1;have kc:=BY (.mk 0 4 false oid []) (Sn) 0 w2 (bf.nil _ _) (by simp[SmE,SmL];exact ho)
 go_wp2_with fail
 refine ag kc ?_;rintro e w3 ⟨⟨u3,rfl,hu3⟩,hb⟩;obtain⟨a3,c3,rfl⟩:=hu3.empty;clear kc hu3;have t3:=bkk hb t2;have m3:=bkk hb m2;have b3:=btt b2 hb;clear hb t2 m2 b2;simp only[elA,El.cls,El.tag,El.cons,El.bytes];have hb:=alb w3 #[.int .i64 2,I0,Bf,.string ⟨oid.toArray⟩,.slice a3 0 c3] 45;have x4:=alz w3 #[.int .i64 2,I0,Bf,.string ⟨oid.toArray⟩,.slice a3 0 c3] 45;have z4:w.heap.size+1≤w3.heap.size:=(gl t3);have o4:bJ (w.heap.size+1) (w3.alloc (.cells #[.int .i64 2,I0,Bf,.string ⟨oid.toArray⟩,.slice a3 0 c3] 45)) (.slice (some ⟨w3.heap.size,0,none⟩) 1 1) [.mk 2 0 false oid []]:=
  bJ.flat (l:=[.mk 2 0 false oid []]) (us:=[.slice a3 0 c3]) x4 (by simp[cx,El.cls,El.tag,El.cons,El.bytes]) rfl z4 (by simp) (fun j e u q1 q2=>by
   have h3:j=0:=by have h9:=(List.getElem?_eq_some_iff.1 q1).1;simp at h9;omega
   subst h3
   simp at q1 q2
   subst q1;subst q2;exact bf.no _ _ _ _)
 have t4:=bkk hb t3;have m4:=bkk hb m3;have b4:=btt b3 hb;clear hb t3 m3 b3 x4 z4
 go_upto_region 2 with fail
 generalize w3.alloc (.cells #[.int .i64 2,I0,Bf,.string ⟨oid.toArray⟩,.slice a3 0 c3] 45)=w4 at t4 m4 b4 o4⊢;generalize w3.heap.size=x3 at o4⊢;have q:=(ap m4 22).trans G22.out;have kc:=cH [.mk 2 0 false oid []] _ w4 o4.kids (by simp[SmE,SmL];exact ho) (by simp);clear o4
 go_wp2_with fail
 refine ag kc ?_;rintro e w5 ⟨⟨u,rfl,hu⟩,hb⟩;have z:=(gl t4);clear kc q;have t5:=bkk hb t4;have m5:=bkk hb m4;have b5:=btt b4 hb;clear hb t4 m4 b4;obtain⟨E,hE⟩:=nmm (elA (El.mk 0 16 true [] [.mk 2 0 false oid []]) u);have hE1:E.all (·.oneCell')=true:=by
  obtain⟨a,c,hsl⟩:=hu.shape;subst hsl;rw[←hE];simp[elA,Value.oneCell']
 have hE2:E.size=5:=by rw[←hE];rfl
 rw[hE];have hsz:=(gl t5);have bF:=bm b5 (g:=w.heap.size) (ah _) E;have tF:=setRow_heap w5 w.heap.size _ E _ _ t5;have uF:bf (fun g=>w.heap.size≤g) (w5.setRow w.heap.size E) u (El.mk 0 16 true [] [.mk 2 0 false oid []]).kids:=hu.kept fun g hg hl=>⟨setRow_other w5 w.heap.size g E (by omega),by omega⟩
 obtain⟨HE,HE1,HE2,UF⟩:=Ci hE hE1 hE2 uF;clear hu hE hE1 hE2 uF b5
 go_wp2_with (refine bh rfl 45 (.tmp 1) (.tmp 18) rfl w.heap.size 45 _ E (by rfl) (by rfl) t5 (by rw[HE2.out];rfl) (by rw[HE2.out];rfl) HE1.out ?_)
 refine aH (v:=.agg E) ?_ rfl ⟨⟨u,by rw[←HE.out]<;>rfl,UF.out⟩,bF⟩;have hr:=aJ (P:=Tryz.prog) (w5.setRow w.heap.size E) w.heap.size 45 45 E (0,0) _ tF (show Tryz.prog.underlying 45=_ from Tryz.underlying45) (by rfl) (by rw[HE2.out];rfl)
 simp[results,Tryz.f126]
 exact hr
theorem pH(b:Nat)(A:Array Value)(oid val:List UInt8)(w:World)(h0:w.heap[b]?=some (.cells A 28 (0,0)))(h21:A[21]?=some (.string ⟨oid.toArray⟩))(h22:A[22]?=some (.bool true))(h20:A[20]?=some (.string ⟨val.toArray⟩))(ho:oid.length≤1000000000)(hv:val.length≤1000000000):
  Calls Tryz.prog 126 #[.pointer (some ⟨b,0,none⟩)] w fun e w'=>(∃u,e=.returned (.agg (elA (.mk 0 16 true [] [.mk 2 0 false oid [],.mk 2 1 false val []]) u))∧bf (fun g=>w.heap.size≤g) w' u [.mk 2 0 false oid [],.mk 2 1 false val []])∧Below w.heap.size w w':=by
 have b1:=alb w Ze 45;have t1:=alz w Ze 45;have m1:=bkk b1 h0;obtain⟨G21,G22,G20⟩:=Ch h21 h22 h20;clear h0 h21 h22 h20
 go_enter Tryz.func126,Tryz.ntmps126
 go_upto_region 1 with fail
 generalize w.alloc (.cells Ze 45)=w1 at b1 t1 m1⊢;have q:=(ap m1 21).trans G21.out;have kc:=bz oid w1
 go_wp2_with fail
 refine ag kc ?_;rintro e w2 ⟨rfl,hb⟩;clear kc q;have t2:=bkk hb t1;have m2:=bkk hb m1;have b2:=btt b1 hb;clear hb t1 m1 b1;have kc:=BY (.mk 0 4 false oid []) (Sn) 0 w2 (bf.nil _ _) (by simp[SmE,SmL];exact ho)
 go_wp2_with fail
 refine ag kc ?_;rintro e w3 ⟨⟨u3,rfl,hu3⟩,hb⟩;obtain⟨a3,c3,rfl⟩:=hu3.empty;clear kc hu3;have t3:=bkk hb t2;have m3:=bkk hb m2;have b3:=btt b2 hb;clear hb t2 m2 b2;simp only[elA,El.cls,El.tag,El.cons,El.bytes];have hb:=alb w3 #[.int .i64 2,I0,Bf,.string ⟨oid.toArray⟩,.slice a3 0 c3] 45;have x4:=alz w3 #[.int .i64 2,I0,Bf,.string ⟨oid.toArray⟩,.slice a3 0 c3] 45;have z4:w.heap.size+1≤w3.heap.size:=(gl t3);have o4:bJ (w.heap.size+1) (w3.alloc (.cells #[.int .i64 2,I0,Bf,.string ⟨oid.toArray⟩,.slice a3 0 c3] 45)) (.slice (some ⟨w3.heap.size,0,none⟩) 1 1) [.mk 2 0 false oid []]:=
  bJ.flat (l:=[.mk 2 0 false oid []]) (us:=[.slice a3 0 c3]) x4 (by simp[cx,El.cls,El.tag,El.cons,El.bytes]) rfl z4 (by simp) (fun j e u q1 q2=>by
   have h3:j=0:=by have h9:=(List.getElem?_eq_some_iff.1 q1).1;simp at h9;omega
   subst h3
   simp at q1 q2
   subst q1;subst q2;exact bf.no _ _ _ _)
 have t4:=bkk hb t3;have m4:=bkk hb m3;have b4:=btt b3 hb;clear hb t3 m3 b3 x4 z4
 go_upto_region 2 with fail
 generalize w3.alloc (.cells #[.int .i64 2,I0,Bf,.string ⟨oid.toArray⟩,.slice a3 0 c3] 45)=w4 at t4 m4 b4 o4⊢;generalize w3.heap.size=x3 at o4⊢;have q:=(ap m4 22).trans G22.out
 go_upto_region 3 with fail
 clear q;have q:=(ap m4 20).trans G20.out;have kc:=bz val w4
 go_wp2_with fail
 refine ag kc ?_;rintro e w5 ⟨rfl,hb⟩;clear kc q;have t5:=bkk hb t4;have b5:=btt b4 hb;have o5:=o4.below hb;clear hb t4 b4 o4;have kc:=BY (.mk 0 4 false val []) (Sn) 1 w5 (bf.nil _ _) (by simp[SmE,SmL];exact hv)
 go_wp2_with fail
 refine ag kc ?_;rintro e w6 ⟨⟨u6,rfl,hu6⟩,hb⟩;obtain⟨a6,c6,rfl⟩:=hu6.empty;clear kc hu6;have t6:=bkk hb t5;have b6:=btt b5 hb;have o6:=o5.below hb;clear hb t5 b5 o5;simp only[elA,El.cls,El.tag,El.cons,El.bytes];have hb:=alb w6 #[.int .i64 2,.int .i64 1,Bf,.string ⟨val.toArray⟩,.slice a6 0 c6] 45;have x7:(w6.alloc (.cells #[.int .i64 2,.int .i64 1,Bf,.string ⟨val.toArray⟩,.slice a6 0 c6] 45)).heap[w6.heap.size]?=some (.cells (elA (.mk 2 1 false val []) (.slice a6 0 c6)) 45 (0,0)):=bi _ _ _ rfl;have t7:=bkk hb t6;have b7:=btt b6 hb;have o7:=o6.below hb;clear hb t6 b6 o6;have hs7:=b7.size;have z7:=(gl t7);obtain⟨O7,X7,T7,B7⟩:=Ci o7 x7 t7 b7;clear o7 x7 t7 b7
 go_wp2_with (at_builtin;refine bO rfl (.tmp 10) (.tmp 15) rfl (w.heap.size+1) (.slice (some ⟨x3,0,none⟩) 1 1) [.mk 2 0 false oid []] rfl O7.out (.mk 2 1 false val []) a6 0 c6 w6.heap.size rfl X7.out (bf.no _ _ _ _) (by simp) z7 ?_;intro a8 c8 w8 o8 g8)
 have t8:=(g8.block w.heap.size z7 (fun h=>by have:=(O7.out.lt h.symm).1;omega)).trans T7.out;have b8:=B7.out.grown g8 hs7 (fun b hb=>by have:=(O7.out.lt hb).1;omega);clear g8 hs7 z7 O7 X7 T7 B7;have kc:=cH [.mk 2 0 false oid [],.mk 2 1 false val []] _ w8 o8.kids (by simp[SmE,SmL];exact⟨ho,hv⟩) (by simp);clear o8
 go_wp2_with fail
 refine ag kc ?_;rintro e w9 ⟨⟨u,rfl,hu⟩,hb⟩;have z:=(gl t8);clear kc;have t9:=bkk hb t8;have b9:=btt b8 hb;clear hb t8 b8;obtain⟨E,hE⟩:=nmm (elA (El.mk 0 16 true [] [.mk 2 0 false oid [],.mk 2 1 false val []]) u);have hE1:E.all (·.oneCell')=true:=by
  obtain⟨a,c,hsl⟩:=hu.shape;subst hsl;rw[←hE];simp[elA,Value.oneCell']
 have hE2:E.size=5:=by rw[←hE];rfl
 rw[hE];have hsz:=(gl t9);have bF:=bm b9 (g:=w.heap.size) (ah _) E;have tF:=setRow_heap w9 w.heap.size _ E _ _ t9;have uF:bf (fun g=>w.heap.size≤g) (w9.setRow w.heap.size E) u (El.mk 0 16 true [] [.mk 2 0 false oid [],.mk 2 1 false val []]).kids:=hu.kept fun g hg hl=>⟨setRow_other w9 w.heap.size g E (by omega),by omega⟩
 obtain⟨HE,HE1,HE2,UF⟩:=Ci hE hE1 hE2 uF;clear hu hE hE1 hE2 uF b9
 go_wp2_with (refine bh rfl 45 (.tmp 1) (.tmp 18) rfl w.heap.size 45 _ E (by rfl) (by rfl) t9 (by rw[HE2.out];rfl) (by rw[HE2.out];rfl) HE1.out ?_)
 refine aH (v:=.agg E) ?_ rfl ⟨⟨u,by rw[←HE.out]<;>rfl,UF.out⟩,bF⟩;have hr:=aJ (P:=Tryz.prog) (w9.setRow w.heap.size E) w.heap.size 45 45 E (0,0) _ tF (show Tryz.prog.underlying 45=_ from Tryz.underlying45) (by rfl) (by rw[HE2.out];rfl)
 simp[results,Tryz.f126]
 exact hr
end Go.Proofs.YthjaiigijbjloaaGreatDoor
