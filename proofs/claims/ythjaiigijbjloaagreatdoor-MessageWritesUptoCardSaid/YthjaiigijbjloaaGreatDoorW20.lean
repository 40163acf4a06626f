/- R9S. -/
import Derived.Test.YthjaiigijbjloaaGreatDoorW19
namespace Go.Proofs.YthjaiigijbjloaaGreatDoor
open Go.RowKit Go.Lib
set_option maxRecDepth 100000
set_option maxHeartbeats 16000000
structure EbS (lo g:Nat) (C:Array Value) (w:World) (v:Value) (L:List El) (wr:World):Prop where
 own:∃us:List Value,us.length=L.length∧wr.ownsRow lo 45 5 v L.length (cx L us)∧∀(j:Nat) (e:El) (u:Value),L[j]?=some e→us[j]?=some u→bf (fun k=>lo≤k∧k≠g∧v.ownBlock≠some k) wr u e.kids
 ne:v.ownBlock≠some g
 box:wr.heap[g]?=some (.cells C 45 (0,0))
 bel:Below w.heap.size w wr
 lo1:w.heap.size≤lo
 lo2:lo≤g
theorem EbS.below{lo g:Nat}{C:Array Value}{w wr w':World}{v:Value}{L:List El}(h:EbS lo g C w v L wr)(hb:Below wr.heap.size wr w'):EbS lo g C w v L w':=by
 obtain⟨us,hl,ho,hk⟩:=h.own;exact⟨⟨us,hl,ge ho hb,fun j e u q1 q2=>(hk j e u q1 q2).below hb⟩,h.ne,(hb.block _ (gl h.box)).trans h.box,cL h.bel hb,h.lo1,h.lo2⟩
theorem EbS.lt{lo g:Nat}{C:Array Value}{w wr:World}{v:Value}{L:List El}(h:EbS lo g C w v L wr){k:Nat}(hk:v.ownBlock=some k):lo≤k∧k<wr.heap.size:=by
 obtain⟨us,hl,ho,_⟩:=h.own;exact ho.lt k hk
theorem EbS.glt{lo g:Nat}{C:Array Value}{w wr:World}{v:Value}{L:List El}(h:EbS lo g C w v L wr):g<wr.heap.size:=(gl h.box)
theorem EbS.kids{lo g:Nat}{C:Array Value}{w wr:World}{v:Value}{L:List El}(h:EbS lo g C w v L wr):bf (fun _=>True) wr v L:=by
 obtain⟨us,hl,ho,hk⟩:=h.own;exact jI ho hl (fun j e u q1 q2=>(hk j e u q1 q2).mono fun _ _ _=>trivial) (fun k hk=>trivial)
theorem EbS.set{lo g:Nat}{C:Array Value}{w wr:World}{v:Value}{L:List El}(h:EbS lo g C w v L wr)(i:Nat)(x:Value):EbS lo g (C.setIfInBounds i x) w v L (wr.setCell ⟨g,i,none⟩ x):=by
 obtain⟨us,hl,ho,hk⟩:=h.own;exact⟨⟨us,hl,ho.kept (kW wr g i x) (.inr h.ne),fun j e u q1 q2=>(hk j e u q1 q2).kept fun k hk _=>⟨aX wr ⟨g,i,none⟩ x k hk.2.1,hk⟩⟩,h.ne,bw h.box,h.bel.setCell (p:=⟨g,i,none⟩) (Nat.le_trans h.lo1 h.lo2) x,h.lo1,h.lo2⟩
theorem yo{lo g:Nat}{C:Array Value}{w wr:World}{v:Value}{L:List El}{o:Oper}{a:Act}{K:Act→World→Prop}{Q:Exit→Act→World→Prop}(S:EbS lo g C w v L wr)(e:El)(au:Option Addr)(n cu:Nat)(s x:Operand)
  (ho:o.op=.call {callee:=.builtin .append,args:=#[s,x],argTypes:=#[43,43]}) (hs:a.eval s=v) (hx:a.eval x=.slice (some ⟨wr.heap.size,0,none⟩) 1 1)
  (hke:bf (fun k=>lo≤k∧k≠g∧v.ownBlock≠some k) wr (.slice au n cu) e.kids) (hl:L.length≤1000000000)
  (h:∀a' c' w',EbS lo g C w (.slice a' (L.length+1) c') (L++[e]) w'→(∀k,k<wr.heap.size→v.ownBlock≠some k→w'.heap[k]?=wr.heap[k]?)→K (a.put o.dst (.slice a' (L.length+1) c')) w'):Oper.wp Tryz.prog o a (wr.alloc (.cells (elA e (.slice au n cu)) 45)) K Q:=by
 obtain⟨i0,hi0,hz0,hz1,hz2⟩:=info_parts Tryz.infoElement;have hal:Below wr.heap.size wr (wr.alloc (.cells (elA e (.slice au n cu)) 45)):=(ar _ _).alloc (ah _) _;have S1:=S.below hal;have hkeb:=hke.below hal;obtain⟨us,hu,hown,hk⟩:=S1.own;refine wp_append_lies _ s x 43 ho lo 45 i0 _ 5 64 Tryz.underlying43 hi0 hz0 hz1 hz2 rfl (by decide) v L.length (cx L us) hs hown ⟨wr.heap.size,0,none⟩ 1 1 [.int .i64 e.cls,.int .i64 e.tag,.bool e.cons,.string ⟨e.bytes.toArray⟩,.slice au n cu] hx rfl (World.news_of_block (bi _ _ _ rfl)) (by simp[Value.oneCell']) (by decide) (by unfold maxLen;omega) (by omega) (by have:=S1.glt;have:=S1.lo2;omega) _ rfl ?_;intro g' cap w' q1 q2 q3 _;refine h _ _ _ ?_ fun k hk hne=>(q2.block k (by have:=hal.size;omega) (fun h=>hne h.symm)).trans (hal.block k hk)
 have hg':g'≠g:=by
  intro e;rcases q3 with h1|h1
  ·exact S.ne (e▸h1)
  ·have:=S1.glt;omega
 have hkeep:∀(u:Value) (ks:List El),bf (fun k=>lo≤k∧k≠g∧v.ownBlock≠some k) (wr.alloc (.cells (elA e (.slice au n cu)) 45)) u ks→bf (fun k=>lo≤k∧k≠g∧(.slice (some ⟨g',0,none⟩) (L.length+1) cap:Value).ownBlock≠some k) w' u ks:=by
  intro u ks q;refine q.kept fun k hk' hl'=>⟨q2.block k hl' (fun h=>hk'.2.2 h.symm),hk'.1,hk'.2.1,fun h=>?_⟩
  have hgg:g'=k:=by simpa[Value.ownBlock] using h
  rcases q3 with h1|h1
  ·exact hk'.2.2 (hgg▸h1)
  ·omega
 have hlen:(L++[e]).length=L.length+1:=by simp
 refine⟨⟨us++[.slice au n cu],by simp[hu],?_,fun j x y r1 r2=>?_⟩,fun q=>hg' (by simpa[Value.ownBlock] using q),(q2.block _ (gl S1.box) (fun q=>S.ne q.symm)).trans S1.box,S1.bel.grown q2 (by have:=S1.glt;have:=S1.lo1;have:=S1.lo2;omega) (fun b hb=>by have:=(S1.lt hb).1;have:=S1.lo1;omega),S1.lo1,S1.lo2⟩
 ·rw[wt _ _ _ _ hu,hlen]
  exact q1
 ·by_cases hj:j<L.length
  ·rw[List.getElem?_append_left hj] at r1
   rw[List.getElem?_append_left (by omega)] at r2;exact hkeep _ _ (hk j x y r1 r2)
  ·have hj':j=L.length:=by
    have:=(List.getElem?_eq_some_iff.1 r1).1
    simp at this
    omega
   subst hj';rw[List.getElem?_append_right (ah _)] at r1;rw[List.getElem?_append_right (by omega)] at r2
   simp[hu] at r1 r2
   subst r1;subst r2;exact hkeep _ _ hkeb
theorem atb{w w':World}{g:Nat}{x:Obj}(h:Below w.heap.size w w')(hx:w.heap[g]?=some x):w'.heap[g]?=some x:=(h.block g (gl hx)).trans hx
theorem EbS.k{lo g n:Nat}{C X:Array Value}{w W:World}{v K:Value}{L:List El}{t:TypeId}(S:EbS lo g C w v L W)(hx:w.heap[n]?=some (.cells X t (0,0)))(hl:n<w.heap.size)(hv:C[4]?=some K:=by rfl):W.heap[n]?=some (.cells X t (0,0))∧W.cell? ⟨g,4,none⟩=some K:=
 ⟨(S.bel.block _ hl).trans hx,(ap S.box 4).trans hv⟩
theorem EbS.from{lo g:Nat}{C:Array Value}{w wr:World}{v:Value}{L:List El}(h:EbS lo g C w v L wr):bf (fun k=>lo≤k) wr v L:=by
 obtain⟨us,hl,ho,hk⟩:=h.own;exact jI ho hl (fun j e u q1 q2=>(hk j e u q1 q2).mono fun _ q _=>q.1) (fun k hk=>hk)
theorem EbS.shape{lo g:Nat}{C:Array Value}{w wr:World}{v:Value}{L:List El}(h:EbS lo g C w v L wr):∃a c,v=.slice a L.length c:=by
 obtain⟨us,hl,ho,hk⟩:=h.own;exact gf ho
structure WpS (w:World) (A:Array Value) (W:World):Prop where
 bel:Below w.heap.size w W
 box:W.heap[w.heap.size]?=some (.cells A 28 (0,0))
theorem WpS.below{w W W':World}{A:Array Value}(h:WpS w A W)(hb:Below W.heap.size W W'):WpS w A W':=⟨cL h.bel hb,(hb.block _ (gl h.box)).trans h.box⟩
theorem WpS.lt{w W:World}{A:Array Value}(h:WpS w A W):w.heap.size<W.heap.size:=(gl h.box)
theorem ze(m:Mg)(l:Ls)(w:World)(hm:MgM w m l)(hk:LsOk m l)(hv:bH m l=true):
  Cr 13 #[.agg m.row] w (.tuple #[.string ⟨(dD (wm m l)).1.toArray⟩,.int .i64 (dD (wm m l)).2]):=by
 obtain⟨_,⟨hi0,hi1⟩,_⟩:=bT hv;obtain⟨nid,enid⟩:=nmm m.id.toNat;have hid:m.id=(nid:Int):=by omega
 have bid:nid≤2147483647:=by omega
 have P:WpS w m.row (w.alloc (.cells m.row 28)):=⟨(ar _ _).alloc (ah _) _,bi _ _ _ rfl⟩;have KV:=Lib.hid (fun W (hW:Below w.heap.size w W)=>xp m l W (hm.below hW) hk);rw[hv] at KV;have KO:=Lib.hid (fun W (hW:Below w.heap.size w W)=>yj m l W (hm.below hW) hk hv);obtain⟨EE,hEE⟩:=nmm (opE m l);obtain⟨OUT,hOUT⟩:=nmm (dD (wm m l));rw[hEE] at KO;rw[hOUT];obtain⟨oc,ot,okk,ob,oks⟩:=EE;obtain⟨HOUT,HEE,HSM,HNID,HC,HCL,HCS⟩:=Ck hOUT hEE (tM hk hv) enid hm.ctl (show l.ctl.length≤100000000 from hk.ctl) hk.ctls;clear hm hk hv hi0 hi1 hEE hOUT enid
 go_enter Tryz.func13,Tryz.ntmps13
 go_upto_region 1 with fail
 generalize w.alloc (.cells m.row 28)=w1 at P⊢;have kc:=KV.out w1 P.bel
 go_upto_region 3 with(first|(refine bg rfl 28 (.tmp 1) rfl w.heap.size 28 _ (0,0) (by rfl) P.box _ Tryz.underlying28 rfl (by rfl) ?_)|(refine ag kc ?_;rintro e w2 ⟨rfl,hb⟩;replace P:=P.below hb))
 clear kc hb KV
 go_cut [4] from 12 to 18 (fun s4 wy=>∃(be:Nat) (v:Value),s4=.pointer (some ⟨be,0,none⟩)∧EbS (w.heap.size+1) be #[.int .i64 0,.int .i64 16,.bool true,Es,v] w v [.mk 0 2 false (sgB nid) [],.mk oc ot okk ob oks] wy∧wy.heap[w.heap.size]?=some (.cells m.row 28 (0,0)))
 case first=>
  refine aR (S:=fun w'=>w'.heap[w.heap.size]?=some (.cells m.row 28 (0,0))) (by kernel_rfl) ?_
  change wpAnyH _ _ _ _ _ _ _ _ w2.drew
  replace P:=P.below (ar w2.heap.size w2).drew;generalize w2.drew=w2 at P⊢;have T:=P.box;refine tp 0 ⟨w.heap.size,0,none⟩ rfl T ?_;refine tn 3 (.agg m.row) rfl (fun w' hS=>by exact cU 28 (.tmp 1) rfl w.heap.size 28 _ (0,0) (by rfl) hS _ Tryz.underlying28 rfl (by rfl)) T ?_;refine tn 1 (.int .i64 (nid:Int)) rfl (fun w' hS=>by have q:=(ap hS 0).trans (show m.row[0]?=some (.int .i64 (nid:Int):Value) by rw[←hid];rfl);go_simp) T ?_;clear T;refine fq 2 7 (by kernel_rfl) rfl (by rfl) rfl (by rfl) (fun K hK=>?_) (fun K hK=>?_)
  ·
   have kc:=tm nid bid w2;go_simp;go_wp2_with fail
   refine ag kc ?_;rintro e w3 ⟨rfl,hb⟩;replace P:=P.below hb;clear kc hb;generalize w3=w2 at P⊢;refine hK _ _ P.box ?_;clear hK K
   refine fq 4 7 (by kernel_rfl) rfl (by rfl) rfl (by rfl) (fun K hK=>?_) (fun K hK=>?_)
   ·
    have kc:=KO.out w2 P.bel;go_simp;go_wp2_with fail
    refine ag kc ?_;rintro e w3 ⟨⟨uu,rfl,hu⟩,hb⟩;obtain⟨ua,uc,hsh⟩:=hu.shape;subst hsh;have hgl:=P.lt;replace P:=P.below hb;simp only[elA,El.cls,El.tag,El.cons,El.bytes,El.kids] at hu⊢;replace hu:bf (fun k=>w.heap.size<k) w3 (.slice ua oks.length uc) oks:=hu.mono fun k hk _=>by omega
    clear kc hb hgl;generalize w3=w2 at P hu⊢;refine hK _ _ P.box ?_;clear hK K
    refine fq 5 7 (by kernel_rfl) rfl (by rfl) rfl (by rfl) (fun K hK=>?_) (fun K hK=>?_)
    ·
     have hgl:=P.lt;obtain⟨b,hbn⟩:=nmm w2.heap.size;have hb:=alb w2 #[.int .i64 0,.int .i64 2,Bf,.string ⟨(sgB nid).toArray⟩,Sn,.int .i64 oc,.int .i64 ot,.bool okk,.string ⟨ob.toArray⟩,.slice ua oks.length uc] 45;replace hu:bf (fun k=>w.heap.size<k∧k≠b) w2 (.slice ua oks.length uc) oks:=hu.mono fun k hk hl=>⟨hk,by omega⟩
     have xr:(w2.alloc (.cells #[.int .i64 0,.int .i64 2,Bf,.string ⟨(sgB nid).toArray⟩,Sn,.int .i64 oc,.int .i64 ot,.bool okk,.string ⟨ob.toArray⟩,.slice ua oks.length uc] 45)).heap[b]?=some (.cells #[.int .i64 0,.int .i64 2,Bf,.string ⟨(sgB nid).toArray⟩,Sn,.int .i64 oc,.int .i64 ot,.bool okk,.string ⟨ob.toArray⟩,.slice ua oks.length uc] 45 (0,0)):=bi _ _ _ hbn.symm;replace P:=P.below hb;replace hu:=hu.below hb;have hbg:w.heap.size<b:=by omega
     go_simp;refine hK _ _ P.box ?_;clear hK K
     clear hgl hb;generalize w2.alloc (.cells #[.int .i64 0,.int .i64 2,Bf,.string ⟨(sgB nid).toArray⟩,Sn,.int .i64 oc,.int .i64 ot,.bool okk,.string ⟨ob.toArray⟩,.slice ua oks.length uc] 45)=w3 at P hu xr⊢;clear hbn;generalize w3=w2 at P hu xr⊢;refine fq 6 7 (by kernel_rfl) rfl (by rfl) rfl (by rfl) (fun K hK=>?_) (fun K hK=>?_)
     ·
      have kc:=dd (some ⟨b,0,none⟩) 2 2 w2;go_simp;go_wp2_with fail
      refine ag kc ?_;rintro e w3 ⟨rfl,hb⟩;replace P:=P.below hb;replace hu:=hu.below hb;replace xr:=bkk hb xr;clear kc hb;generalize w3=w2 at P hu xr⊢;refine hK _ _ P.box ?_;clear hK K
      have hgl:=P.lt;obtain⟨be,hbe⟩:=nmm w2.heap.size;have hb:=alb w2 Ze 45;have xb:(w2.alloc (.cells Ze 45)).heap[be]?=some (.cells Ze 45 (0,0)):=bi _ _ _ hbe.symm;replace hu:bf (fun k=>w.heap.size<k∧k≠b∧k≠be) w2 (.slice ua oks.length uc) oks:=hu.mono fun k hk hl=>⟨hk.1,hk.2,by omega⟩
      have hbb:be≠b:=by have:=(gl xr);omega
      replace P:=P.below hb;replace hu:=hu.below hb;replace xr:=bkk hb xr;have hbeg:w.heap.size<be:=by omega
      refine ao 7 rfl (kks P.box ?_);clear hgl hb;generalize w2.alloc (.cells Ze 45)=w3 at P xb hu xr⊢;clear hbe;generalize w3=w2 at P xb hu xr⊢;have S9:EbS (w.heap.size+1) be #[.int .i64 0,.int .i64 16,.bool true,Es,.slice (some ⟨b,0,none⟩) 2 2] w (.slice (some ⟨b,0,none⟩) 2 2) [.mk 0 2 false (sgB nid) [],.mk oc ot okk ob oks] (w2.setRow be #[.int .i64 0,.int .i64 16,.bool true,Es,.slice (some ⟨b,0,none⟩) 2 2]):=by
       have P9:=bm P.bel (g:=be) (by omega) #[.int .i64 0,.int .i64 16,.bool true,Es,.slice (some ⟨b,0,none⟩) 2 2];have xr9:=(setRow_other w2 be b #[.int .i64 0,.int .i64 16,.bool true,Es,.slice (some ⟨b,0,none⟩) 2 2] (fun e=>hbb e.symm)).trans xr;have hu9:bf (fun k=>w.heap.size+1≤k∧k≠be∧(.slice (some ⟨b,0,none⟩) 2 2:Value).ownBlock≠some k) (w2.setRow be #[.int .i64 0,.int .i64 16,.bool true,Es,.slice (some ⟨b,0,none⟩) 2 2]) (.slice ua oks.length uc) oks:=hu.kept fun k hk _=>⟨setRow_other _ _ _ _ hk.2.2,by have:=hk.1;omega,hk.2.2,fun e=>hk.2.1 (by simpa[Value.ownBlock,eq_comm] using e)⟩
       refine⟨⟨[Sn,.slice ua oks.length uc],rfl,⟨by simp[cx],.inr ⟨b,2,_,rfl,by omega,xr9,ah _,by decide,rfl,rfl⟩⟩,fun j e u q1 q2=>?_⟩,fun e=>hbb (by simpa[Value.ownBlock,eq_comm] using e),setRow_heap _ _ _ _ _ _ xb,P9,by omega,by omega⟩;have h3:j=0∨j=1:=by have h9:=(List.getElem?_eq_some_iff.1 q1).1;simp at h9;omega
       rcases h3 with rfl|rfl
       ·simp at q1 q2;subst q1;subst q2;exact bf.nil _ _
       ·simp at q1 q2;subst q1;subst q2;exact hu9
      have M9:(w2.setRow be #[.int .i64 0,.int .i64 16,.bool true,Es,.slice (some ⟨b,0,none⟩) 2 2]).heap[w.heap.size]?=some (.cells m.row 28 (0,0)):=(setRow_other w2 be w.heap.size #[.int .i64 0,.int .i64 16,.bool true,Es,.slice (some ⟨b,0,none⟩) 2 2] (by omega)).trans P.box;refine ao 8 rfl (fun K hK=>?_);refine l5 45 (.tmp 4) (.tmp 18) rfl be 45 _ #[.int .i64 0,.int .i64 16,.bool true,Es,.slice (some ⟨b,0,none⟩) 2 2] (by rfl) (by rfl) xb (by rfl) (by rfl) (by simp[Value.oneCell']) ?_;refine hK _ _ M9 ?_;clear hK K
      generalize w2.setRow be #[.int .i64 0,.int .i64 16,.bool true,Es,.slice (some ⟨b,0,none⟩) 2 2]=w3 at S9 M9⊢;clear P xb hu xr hbb hbeg hbg;refine bE (by kernel_rfl) ?_ _;go_simp
      go_wp2_with fail
      go_meet
      exact⟨be,_,rfl,S9,M9⟩
     ·
      have hgl:=P.lt;obtain⟨be,hbe⟩:=nmm w2.heap.size;have hb:=alb w2 Ze 45;have xb:(w2.alloc (.cells Ze 45)).heap[be]?=some (.cells Ze 45 (0,0)):=bi _ _ _ hbe.symm;replace hu:bf (fun k=>w.heap.size<k∧k≠b∧k≠be) w2 (.slice ua oks.length uc) oks:=hu.mono fun k hk hl=>⟨hk.1,hk.2,by omega⟩
      have hbb:be≠b:=by have:=(gl xr);omega
      replace P:=P.below hb;replace hu:=hu.below hb;replace xr:=bkk hb xr;have hbeg:w.heap.size<be:=by omega
      go_simp;refine hK _ _ P.box ?_;clear hK K
      clear hgl hb;generalize w2.alloc (.cells Ze 45)=w3 at P xb hu xr⊢;clear hbe;generalize w3=w2 at P xb hu xr⊢;have kc:=dd (some ⟨b,0,none⟩) 2 2 w2;refine ao 6 rfl (fun K hK=>?_);go_simp;go_wp2_with fail
      refine ag kc ?_;rintro e w3 ⟨rfl,hb⟩;replace P:=P.below hb;replace xb:=bkk hb xb;replace hu:=hu.below hb;replace xr:=bkk hb xr;clear kc hb;generalize w3=w2 at P xb hu xr⊢;refine hK _ _ P.box ?_;clear hK K
      have S9:EbS (w.heap.size+1) be #[.int .i64 0,.int .i64 16,.bool true,Es,.slice (some ⟨b,0,none⟩) 2 2] w (.slice (some ⟨b,0,none⟩) 2 2) [.mk 0 2 false (sgB nid) [],.mk oc ot okk ob oks] (w2.setRow be #[.int .i64 0,.int .i64 16,.bool true,Es,.slice (some ⟨b,0,none⟩) 2 2]):=by
       have P9:=bm P.bel (g:=be) (by omega) #[.int .i64 0,.int .i64 16,.bool true,Es,.slice (some ⟨b,0,none⟩) 2 2];have xr9:=(setRow_other w2 be b #[.int .i64 0,.int .i64 16,.bool true,Es,.slice (some ⟨b,0,none⟩) 2 2] (fun e=>hbb e.symm)).trans xr;have hu9:bf (fun k=>w.heap.size+1≤k∧k≠be∧(.slice (some ⟨b,0,none⟩) 2 2:Value).ownBlock≠some k) (w2.setRow be #[.int .i64 0,.int .i64 16,.bool true,Es,.slice (some ⟨b,0,none⟩) 2 2]) (.slice ua oks.length uc) oks:=hu.kept fun k hk _=>⟨setRow_other _ _ _ _ hk.2.2,by have:=hk.1;omega,hk.2.2,fun e=>hk.2.1 (by simpa[Value.ownBlock,eq_comm] using e)⟩
       refine⟨⟨[Sn,.slice ua oks.length uc],rfl,⟨by simp[cx],.inr ⟨b,2,_,rfl,by omega,xr9,ah _,by decide,rfl,rfl⟩⟩,fun j e u q1 q2=>?_⟩,fun e=>hbb (by simpa[Value.ownBlock,eq_comm] using e),setRow_heap _ _ _ _ _ _ xb,P9,by omega,by omega⟩;have h3:j=0∨j=1:=by have h9:=(List.getElem?_eq_some_iff.1 q1).1;simp at h9;omega
       rcases h3 with rfl|rfl
       ·simp at q1 q2;subst q1;subst q2;exact bf.nil _ _
       ·simp at q1 q2;subst q1;subst q2;exact hu9
      have M9:(w2.setRow be #[.int .i64 0,.int .i64 16,.bool true,Es,.slice (some ⟨b,0,none⟩) 2 2]).heap[w.heap.size]?=some (.cells m.row 28 (0,0)):=(setRow_other w2 be w.heap.size #[.int .i64 0,.int .i64 16,.bool true,Es,.slice (some ⟨b,0,none⟩) 2 2] (by omega)).trans P.box;refine ao 8 rfl (fun K hK=>?_);refine l5 45 (.tmp 4) (.tmp 18) rfl be 45 _ #[.int .i64 0,.int .i64 16,.bool true,Es,.slice (some ⟨b,0,none⟩) 2 2] (by rfl) (by rfl) xb (by rfl) (by rfl) (by simp[Value.oneCell']) ?_;refine hK _ _ M9 ?_;clear hK K
      generalize w2.setRow be #[.int .i64 0,.int .i64 16,.bool true,Es,.slice (some ⟨b,0,none⟩) 2 2]=w3 at S9 M9⊢;clear P xb hu xr hbb hbeg hbg;refine bE (by kernel_rfl) ?_ _;go_simp
      go_wp2_with fail
      go_meet
      exact⟨be,_,rfl,S9,M9⟩
    ·
     have hgl:=P.lt;obtain⟨be,hbe⟩:=nmm w2.heap.size;have hb:=alb w2 Ze 45;have xb:(w2.alloc (.cells Ze 45)).heap[be]?=some (.cells Ze 45 (0,0)):=bi _ _ _ hbe.symm;replace hu:bf (fun k=>w.heap.size<k∧k≠be) w2 (.slice ua oks.length uc) oks:=hu.mono fun k hk hl=>⟨hk,by omega⟩
     replace P:=P.below hb;replace hu:=hu.below hb;have hbeg:w.heap.size<be:=by omega
     go_simp;refine hK _ _ P.box ?_;clear hK K
     clear hgl hb;generalize w2.alloc (.cells Ze 45)=w3 at P xb hu⊢;clear hbe;generalize w3=w2 at P xb hu⊢;have hbl:=(gl xb);have hgl:=P.lt;obtain⟨b,hbn⟩:=nmm w2.heap.size;have hb:=alb w2 #[.int .i64 0,.int .i64 2,Bf,.string ⟨(sgB nid).toArray⟩,Sn,.int .i64 oc,.int .i64 ot,.bool okk,.string ⟨ob.toArray⟩,.slice ua oks.length uc] 45;replace hu:bf (fun k=>w.heap.size<k∧k≠be∧k≠b) w2 (.slice ua oks.length uc) oks:=hu.mono fun k hk hl=>⟨hk.1,hk.2,by omega⟩
     have xr:(w2.alloc (.cells #[.int .i64 0,.int .i64 2,Bf,.string ⟨(sgB nid).toArray⟩,Sn,.int .i64 oc,.int .i64 ot,.bool okk,.string ⟨ob.toArray⟩,.slice ua oks.length uc] 45)).heap[b]?=some (.cells #[.int .i64 0,.int .i64 2,Bf,.string ⟨(sgB nid).toArray⟩,Sn,.int .i64 oc,.int .i64 ot,.bool okk,.string ⟨ob.toArray⟩,.slice ua oks.length uc] 45 (0,0)):=bi _ _ _ hbn.symm;replace P:=P.below hb;replace xb:=bkk hb xb;replace hu:=hu.below hb;have hbg:w.heap.size<b:=by omega
     have hbb:be≠b:=by omega
     clear hbl;refine ao 5 rfl (kks P.box ?_);clear hgl hb;generalize w2.alloc (.cells #[.int .i64 0,.int .i64 2,Bf,.string ⟨(sgB nid).toArray⟩,Sn,.int .i64 oc,.int .i64 ot,.bool okk,.string ⟨ob.toArray⟩,.slice ua oks.length uc] 45)=w3 at P hu xr xb⊢;clear hbn;generalize w3=w2 at P xb hu xr⊢;have kc:=dd (some ⟨b,0,none⟩) 2 2 w2;refine ao 6 rfl (fun K hK=>?_);go_simp;go_wp2_with fail
     refine ag kc ?_;rintro e w3 ⟨rfl,hb⟩;replace P:=P.below hb;replace xb:=bkk hb xb;replace hu:=hu.below hb;replace xr:=bkk hb xr;clear kc hb;generalize w3=w2 at P xb hu xr⊢;refine hK _ _ P.box ?_;clear hK K
     have S9:EbS (w.heap.size+1) be #[.int .i64 0,.int .i64 16,.bool true,Es,.slice (some ⟨b,0,none⟩) 2 2] w (.slice (some ⟨b,0,none⟩) 2 2) [.mk 0 2 false (sgB nid) [],.mk oc ot okk ob oks] (w2.setRow be #[.int .i64 0,.int .i64 16,.bool true,Es,.slice (some ⟨b,0,none⟩) 2 2]):=by
      have P9:=bm P.bel (g:=be) (by omega) #[.int .i64 0,.int .i64 16,.bool true,Es,.slice (some ⟨b,0,none⟩) 2 2];have xr9:=(setRow_other w2 be b #[.int .i64 0,.int .i64 16,.bool true,Es,.slice (some ⟨b,0,none⟩) 2 2] (fun e=>hbb e.symm)).trans xr;have hu9:bf (fun k=>w.heap.size+1≤k∧k≠be∧(.slice (some ⟨b,0,none⟩) 2 2:Value).ownBlock≠some k) (w2.setRow be #[.int .i64 0,.int .i64 16,.bool true,Es,.slice (some ⟨b,0,none⟩) 2 2]) (.slice ua oks.length uc) oks:=hu.kept fun k hk _=>⟨setRow_other _ _ _ _ hk.2.1,by have:=hk.1;omega,hk.2.1,fun e=>hk.2.2 (by simpa[Value.ownBlock,eq_comm] using e)⟩
      refine⟨⟨[Sn,.slice ua oks.length uc],rfl,⟨by simp[cx],.inr ⟨b,2,_,rfl,by omega,xr9,ah _,by decide,rfl,rfl⟩⟩,fun j e u q1 q2=>?_⟩,fun e=>hbb (by simpa[Value.ownBlock,eq_comm] using e),setRow_heap _ _ _ _ _ _ xb,P9,by omega,by omega⟩;have h3:j=0∨j=1:=by have h9:=(List.getElem?_eq_some_iff.1 q1).1;simp at h9;omega
      rcases h3 with rfl|rfl
      ·simp at q1 q2;subst q1;subst q2;exact bf.nil _ _
      ·simp at q1 q2;subst q1;subst q2;exact hu9
     have M9:(w2.setRow be #[.int .i64 0,.int .i64 16,.bool true,Es,.slice (some ⟨b,0,none⟩) 2 2]).heap[w.heap.size]?=some (.cells m.row 28 (0,0)):=(setRow_other w2 be w.heap.size #[.int .i64 0,.int .i64 16,.bool true,Es,.slice (some ⟨b,0,none⟩) 2 2] (by omega)).trans P.box;refine ao 8 rfl (fun K hK=>?_);refine l5 45 (.tmp 4) (.tmp 18) rfl be 45 _ #[.int .i64 0,.int .i64 16,.bool true,Es,.slice (some ⟨b,0,none⟩) 2 2] (by rfl) (by rfl) xb (by rfl) (by rfl) (by simp[Value.oneCell']) ?_;refine hK _ _ M9 ?_;clear hK K
     generalize w2.setRow be #[.int .i64 0,.int .i64 16,.bool true,Es,.slice (some ⟨b,0,none⟩) 2 2]=w3 at S9 M9⊢;clear P xb hu xr hbb hbeg hbg;refine bE (by kernel_rfl) ?_ _;go_simp
     go_wp2_with fail
     go_meet
     exact⟨be,_,rfl,S9,M9⟩
   ·
    have hgl:=P.lt;obtain⟨be,hbe⟩:=nmm w2.heap.size;have hb:=alb w2 Ze 45;have xb:(w2.alloc (.cells Ze 45)).heap[be]?=some (.cells Ze 45 (0,0)):=bi _ _ _ hbe.symm;replace P:=P.below hb;have hbeg:w.heap.size<be:=by omega
    go_simp;refine hK _ _ P.box ?_;clear hK K
    clear hgl hb;generalize w2.alloc (.cells Ze 45)=w3 at P xb⊢;clear hbe;generalize w3=w2 at P xb⊢;have kc:=KO.out w2 P.bel;refine ao 4 rfl (fun K hK=>?_);go_simp;go_wp2_with fail
    refine ag kc ?_;rintro e w3 ⟨⟨uu,rfl,hu⟩,hb⟩;obtain⟨ua,uc,hsh⟩:=hu.shape;subst hsh;have hgl:=P.lt;have hbl:=(gl xb);replace P:=P.below hb;replace xb:=bkk hb xb;simp only[elA,El.cls,El.tag,El.cons,El.bytes,El.kids] at hu⊢;replace hu:bf (fun k=>w.heap.size<k∧k≠be) w3 (.slice ua oks.length uc) oks:=hu.mono fun k hk _=>⟨by omega,by omega⟩
    clear kc hb hgl hbl;generalize w3=w2 at P xb hu⊢;refine hK _ _ P.box ?_;clear hK K
    have hbl:=(gl xb);have hgl:=P.lt;obtain⟨b,hbn⟩:=nmm w2.heap.size;have hb:=alb w2 #[.int .i64 0,.int .i64 2,Bf,.string ⟨(sgB nid).toArray⟩,Sn,.int .i64 oc,.int .i64 ot,.bool okk,.string ⟨ob.toArray⟩,.slice ua oks.length uc] 45;replace hu:bf (fun k=>w.heap.size<k∧k≠be∧k≠b) w2 (.slice ua oks.length uc) oks:=hu.mono fun k hk hl=>⟨hk.1,hk.2,by omega⟩
    have xr:(w2.alloc (.cells #[.int .i64 0,.int .i64 2,Bf,.string ⟨(sgB nid).toArray⟩,Sn,.int .i64 oc,.int .i64 ot,.bool okk,.string ⟨ob.toArray⟩,.slice ua oks.length uc] 45)).heap[b]?=some (.cells #[.int .i64 0,.int .i64 2,Bf,.string ⟨(sgB nid).toArray⟩,Sn,.int .i64 oc,.int .i64 ot,.bool okk,.string ⟨ob.toArray⟩,.slice ua oks.length uc] 45 (0,0)):=bi _ _ _ hbn.symm;replace P:=P.below hb;replace xb:=bkk hb xb;replace hu:=hu.below hb;have hbg:w.heap.size<b:=by omega
    have hbb:be≠b:=by omega
    clear hbl;refine ao 5 rfl (kks P.box ?_);clear hgl hb;generalize w2.alloc (.cells #[.int .i64 0,.int .i64 2,Bf,.string ⟨(sgB nid).toArray⟩,Sn,.int .i64 oc,.int .i64 ot,.bool okk,.string ⟨ob.toArray⟩,.slice ua oks.length uc] 45)=w3 at P hu xr xb⊢;clear hbn;generalize w3=w2 at P xb hu xr⊢;have kc:=dd (some ⟨b,0,none⟩) 2 2 w2;refine ao 6 rfl (fun K hK=>?_);go_simp;go_wp2_with fail
    refine ag kc ?_;rintro e w3 ⟨rfl,hb⟩;replace P:=P.below hb;replace xb:=bkk hb xb;replace hu:=hu.below hb;replace xr:=bkk hb xr;clear kc hb;generalize w3=w2 at P xb hu xr⊢;refine hK _ _ P.box ?_;clear hK K
    have S9:EbS (w.heap.size+1) be #[.int .i64 0,.int .i64 16,.bool true,Es,.slice (some ⟨b,0,none⟩) 2 2] w (.slice (some ⟨b,0,none⟩) 2 2) [.mk 0 2 false (sgB nid) [],.mk oc ot okk ob oks] (w2.setRow be #[.int .i64 0,.int .i64 16,.bool true,Es,.slice (some ⟨b,0,none⟩) 2 2]):=by
     have P9:=bm P.bel (g:=be) (by omega) #[.int .i64 0,.int .i64 16,.bool true,Es,.slice (some ⟨b,0,none⟩) 2 2];have xr9:=(setRow_other w2 be b #[.int .i64 0,.int .i64 16,.bool true,Es,.slice (some ⟨b,0,none⟩) 2 2] (fun e=>hbb e.symm)).trans xr;have hu9:bf (fun k=>w.heap.size+1≤k∧k≠be∧(.slice (some ⟨b,0,none⟩) 2 2:Value).ownBlock≠some k) (w2.setRow be #[.int .i64 0,.int .i64 16,.bool true,Es,.slice (some ⟨b,0,none⟩) 2 2]) (.slice ua oks.length uc) oks:=hu.kept fun k hk _=>⟨setRow_other _ _ _ _ hk.2.1,by have:=hk.1;omega,hk.2.1,fun e=>hk.2.2 (by simpa[Value.ownBlock,eq_comm] using e)⟩
     refine⟨⟨[Sn,.slice ua oks.length uc],rfl,⟨by simp[cx],.inr ⟨b,2,_,rfl,by omega,xr9,ah _,by decide,rfl,rfl⟩⟩,fun j e u q1 q2=>?_⟩,fun e=>hbb (by simpa[Value.ownBlock,eq_comm] using e),setRow_heap _ _ _ _ _ _ xb,P9,by omega,by omega⟩;have h3:j=0∨j=1:=by have h9:=(List.getElem?_eq_some_iff.1 q1).1;simp at h9;omega
     rcases h3 with rfl|rfl
     ·simp at q1 q2;subst q1;subst q2;exact bf.nil _ _
     ·simp at q1 q2;subst q1;subst q2;exact hu9
    have M9:(w2.setRow be #[.int .i64 0,.int .i64 16,.bool true,Es,.slice (some ⟨b,0,none⟩) 2 2]).heap[w.heap.size]?=some (.cells m.row 28 (0,0)):=(setRow_other w2 be w.heap.size #[.int .i64 0,.int .i64 16,.bool true,Es,.slice (some ⟨b,0,none⟩) 2 2] (by omega)).trans P.box;refine ao 8 rfl (fun K hK=>?_);refine l5 45 (.tmp 4) (.tmp 18) rfl be 45 _ #[.int .i64 0,.int .i64 16,.bool true,Es,.slice (some ⟨b,0,none⟩) 2 2] (by rfl) (by rfl) xb (by rfl) (by rfl) (by simp[Value.oneCell']) ?_;refine hK _ _ M9 ?_;clear hK K
    generalize w2.setRow be #[.int .i64 0,.int .i64 16,.bool true,Es,.slice (some ⟨b,0,none⟩) 2 2]=w3 at S9 M9⊢;clear P xb hu xr hbb hbeg hbg;refine bE (by kernel_rfl) ?_ _;go_simp
    go_wp2_with fail
    go_meet
    exact⟨be,_,rfl,S9,M9⟩
  ·
   have hgl:=P.lt;obtain⟨be,hbe⟩:=nmm w2.heap.size;have hb:=alb w2 Ze 45;have xb:(w2.alloc (.cells Ze 45)).heap[be]?=some (.cells Ze 45 (0,0)):=bi _ _ _ hbe.symm;replace P:=P.below hb;have hbeg:w.heap.size<be:=by omega
   go_simp;refine hK _ _ P.box ?_;clear hK K
   clear hgl hb;generalize w2.alloc (.cells Ze 45)=w3 at P xb⊢;clear hbe;generalize w3=w2 at P xb⊢;have kc:=tm nid bid w2;refine ao 2 rfl (fun K hK=>?_);go_simp;go_wp2_with fail
   refine ag kc ?_;rintro e w3 ⟨rfl,hb⟩;replace P:=P.below hb;replace xb:=bkk hb xb;clear kc hb;generalize w3=w2 at P xb⊢;refine hK _ _ P.box ?_;clear hK K
   have kc:=KO.out w2 P.bel;refine ao 4 rfl (fun K hK=>?_);go_simp;go_wp2_with fail
   refine ag kc ?_;rintro e w3 ⟨⟨uu,rfl,hu⟩,hb⟩;obtain⟨ua,uc,hsh⟩:=hu.shape;subst hsh;have hgl:=P.lt;have hbl:=(gl xb);replace P:=P.below hb;replace xb:=bkk hb xb;simp only[elA,El.cls,El.tag,El.cons,El.bytes,El.kids] at hu⊢;replace hu:bf (fun k=>w.heap.size<k∧k≠be) w3 (.slice ua oks.length uc) oks:=hu.mono fun k hk _=>⟨by omega,by omega⟩
   clear kc hb hgl hbl;generalize w3=w2 at P xb hu⊢;refine hK _ _ P.box ?_;clear hK K
   have hbl:=(gl xb);have hgl:=P.lt;obtain⟨b,hbn⟩:=nmm w2.heap.size;have hb:=alb w2 #[.int .i64 0,.int .i64 2,Bf,.string ⟨(sgB nid).toArray⟩,Sn,.int .i64 oc,.int .i64 ot,.bool okk,.string ⟨ob.toArray⟩,.slice ua oks.length uc] 45;replace hu:bf (fun k=>w.heap.size<k∧k≠be∧k≠b) w2 (.slice ua oks.length uc) oks:=hu.mono fun k hk hl=>⟨hk.1,hk.2,by omega⟩
   have xr:(w2.alloc (.cells #[.int .i64 0,.int .i64 2,Bf,.string ⟨(sgB nid).toArray⟩,Sn,.int .i64 oc,.int .i64 ot,.bool okk,.string ⟨ob.toArray⟩,.slice ua oks.length uc] 45)).heap[b]?=some (.cells #[.int .i64 0,.int .i64 2,Bf,.string ⟨(sgB nid).toArray⟩,Sn,.int .i64 oc,.int .i64 ot,.bool okk,.string ⟨ob.toArray⟩,.slice ua oks.length uc] 45 (0,0)):=bi _ _ _ hbn.symm;replace P:=P.below hb;replace xb:=bkk hb xb;replace hu:=hu.below hb;have hbg:w.heap.size<b:=by omega
   have hbb:be≠b:=by omega
   clear hbl;refine ao 5 rfl (kks P.box ?_);clear hgl hb;generalize w2.alloc (.cells #[.int .i64 0,.int .i64 2,Bf,.string ⟨(sgB nid).toArray⟩,Sn,.int .i64 oc,.int .i64 ot,.bool okk,.string ⟨ob.toArray⟩,.slice ua oks.length uc] 45)=w3 at P hu xr xb⊢;clear hbn;generalize w3=w2 at P xb hu xr⊢;have kc:=dd (some ⟨b,0,none⟩) 2 2 w2;refine ao 6 rfl (fun K hK=>?_);go_simp;go_wp2_with fail
   refine ag kc ?_;rintro e w3 ⟨rfl,hb⟩;replace P:=P.below hb;replace xb:=bkk hb xb;replace hu:=hu.below hb;replace xr:=bkk hb xr;clear kc hb;generalize w3=w2 at P xb hu xr⊢;refine hK _ _ P.box ?_;clear hK K
   have S9:EbS (w.heap.size+1) be #[.int .i64 0,.int .i64 16,.bool true,Es,.slice (some ⟨b,0,none⟩) 2 2] w (.slice (some ⟨b,0,none⟩) 2 2) [.mk 0 2 false (sgB nid) [],.mk oc ot okk ob oks] (w2.setRow be #[.int .i64 0,.int .i64 16,.bool true,Es,.slice (some ⟨b,0,none⟩) 2 2]):=by
    have P9:=bm P.bel (g:=be) (by omega) #[.int .i64 0,.int .i64 16,.bool true,Es,.slice (some ⟨b,0,none⟩) 2 2];have xr9:=(setRow_other w2 be b #[.int .i64 0,.int .i64 16,.bool true,Es,.slice (some ⟨b,0,none⟩) 2 2] (fun e=>hbb e.symm)).trans xr;have hu9:bf (fun k=>w.heap.size+1≤k∧k≠be∧(.slice (some ⟨b,0,none⟩) 2 2:Value).ownBlock≠some k) (w2.setRow be #[.int .i64 0,.int .i64 16,.bool true,Es,.slice (some ⟨b,0,none⟩) 2 2]) (.slice ua oks.length uc) oks:=hu.kept fun k hk _=>⟨setRow_other _ _ _ _ hk.2.1,by have:=hk.1;omega,hk.2.1,fun e=>hk.2.2 (by simpa[Value.ownBlock,eq_comm] using e)⟩
    refine⟨⟨[Sn,.slice ua oks.length uc],rfl,⟨by simp[cx],.inr ⟨b,2,_,rfl,by omega,xr9,ah _,by decide,rfl,rfl⟩⟩,fun j e u q1 q2=>?_⟩,fun e=>hbb (by simpa[Value.ownBlock,eq_comm] using e),setRow_heap _ _ _ _ _ _ xb,P9,by omega,by omega⟩;have h3:j=0∨j=1:=by have h9:=(List.getElem?_eq_some_iff.1 q1).1;simp at h9;omega
    rcases h3 with rfl|rfl
    ·simp at q1 q2;subst q1;subst q2;exact bf.nil _ _
    ·simp at q1 q2;subst q1;subst q2;exact hu9
   have M9:(w2.setRow be #[.int .i64 0,.int .i64 16,.bool true,Es,.slice (some ⟨b,0,none⟩) 2 2]).heap[w.heap.size]?=some (.cells m.row 28 (0,0)):=(setRow_other w2 be w.heap.size #[.int .i64 0,.int .i64 16,.bool true,Es,.slice (some ⟨b,0,none⟩) 2 2] (by omega)).trans P.box;refine ao 8 rfl (fun K hK=>?_);refine l5 45 (.tmp 4) (.tmp 18) rfl be 45 _ #[.int .i64 0,.int .i64 16,.bool true,Es,.slice (some ⟨b,0,none⟩) 2 2] (by rfl) (by rfl) xb (by rfl) (by rfl) (by simp[Value.oneCell']) ?_;refine hK _ _ M9 ?_;clear hK K
   generalize w2.setRow be #[.int .i64 0,.int .i64 16,.bool true,Es,.slice (some ⟨b,0,none⟩) 2 2]=w3 at S9 M9⊢;clear P xb hu xr hbb hbeg hbg;refine bE (by kernel_rfl) ?_ _;go_simp
   go_wp2_with fail
   go_meet
   exact⟨be,_,rfl,S9,M9⟩
 case rest=>
  clear P;obtain⟨be,v,rfl,SE,MX⟩:=hcut;obtain⟨va,vc,hvs⟩:=SE.shape;subst hvs;obtain⟨cA,cC,hctl,_,hcc⟩:=id HC.out;have HCC:=Lib.hid hcc;clear hcc
  by_cases hz:l.ctl=[]
  ·have c27:wc.cell? ⟨w.heap.size,27,none⟩=some (.slice cA 0 cC):=(ap MX 27).trans (show m.row[27]?=some (.slice cA 0 cC:Value) by rw[hz] at hctl;rw[show(.slice cA 0 cC:Value)=m.ctl from hctl.symm];rfl)
   have kr:=xZ (wm m l) HSM.out (.slice va 2 vc) wc (by
    have e:(wm m l).kids=[.mk 0 2 false (sgB nid) [],.mk oc ot okk ob oks]:=by simp only[wm,El.kids,mn,hz,if_true,HNID.out,HEE.out,List.append_nil]
    rw[e];exact SE.kids)
   rw[HOUT.out] at kr;have b9:=SE.bel;clear HOUT HEE HSM HNID HC HCL HCS HCC hz hctl;simp only[elA,wm,El.cls,El.tag,El.cons,El.bytes] at kr
   go_wp2_with (refine bg rfl 45 (.tmp 4) rfl be 45 _ (0,0) (by rfl) SE.box _ Tryz.underlying45 rfl (by rfl) ?_)
   refine ag kr ?_;rintro e w4 ⟨rfl,hb⟩
   go_wp2_with fail
   go_ret2
   exact⟨rfl,cL b9 hb⟩
  ·have hpos:=List.length_pos_iff.2 hz
   have c27:wc.cell? ⟨w.heap.size,27,none⟩=some (.slice cA l.ctl.length cC):=(ap MX 27).trans (show m.row[27]?=some (.slice cA l.ctl.length cC:Value) by rw[show(.slice cA l.ctl.length cC:Value)=m.ctl from hctl.symm];rfl);have i1:decide ((l.ctl.length:Int)>0)=true:=aL (by omega);have i2:decide ((0:Int)<(l.ctl.length:Int))=true:=i1;have i3:(0:Int)<(l.ctl.length:Int):=by omega
   have i4:decide (0<l.ctl.length)=true:=aL hpos;have kc:=dd none 0 0 wc
   go_wp2_with fail
   refine ag kc ?_;rintro e wx ⟨rfl,hb⟩;replace SE:=SE.below hb;replace MX:=bkk hb MX;have hgx:w.heap.size<wx.heap.size:=(gl MX);have HNE:=Lib.hid hz;clear kc hb c27 i1 i2 i3 i4 hpos hz;have SC:EaS wx.heap.size #[.int .i64 0,.int .i64 16,.bool true,Es,Sn] wx (Sn) [] (wx.alloc (.cells #[.int .i64 0,.int .i64 16,.bool true,Es,Sn] 45)):=EaS.nil (bi _ _ _ rfl) ((ar _ _).alloc (ah _) _) (ah _);have MB:∀W,Below wx.heap.size wx W→W.heap[w.heap.size]?=some (.cells m.row 28 (0,0)):=fun W hW=>(bkk hW MX)
   have BW:∀W,Below wx.heap.size wx W→Below w.heap.size w W:=fun W hW=>cL SE.bel hW
   obtain⟨HMB,HBW,HSE,HCTL⟩:=Ci MB BW SE hctl;clear MB BW SE MX hctl
   go_upto_region 6 with fail
   generalize wx.alloc (.cells #[.int .i64 0,.int .i64 16,.bool true,Es,Sn] 45)=w2 at SC⊢;have HSC:=Lib.hid SC;clear SC
   go_wp2_with fail
   go_loopw [6] (fun i wr=>∃(k:Nat) (v:Value),i=.int .i64 (k:Int)∧k≤l.ctl.length∧EaS wx.heap.size #[.int .i64 0,.int .i64 16,.bool true,Es,v] wx v ((l.ctl.take k).map ei) wr) (fun i _=>l.ctl.length -(RowKit.intOf i).toNat)
   case atStart=>exact⟨0,_,rfl,Nat.zero_le _,HSC.out⟩
   case round=>
    clear HSC;obtain⟨k,v,rfl,hk,S⟩:=hrel;obtain⟨av,cv,hsh⟩:=S.shape;subst hsh;have hlen:((l.ctl.take k).map ei).length=k:=by simp;omega
    rw[hlen] at S;have c27:wr.cell? ⟨w.heap.size,27,none⟩=some (.slice cA l.ctl.length cC):=(ap (HMB.out wr S.bel) 27).trans (show m.row[27]?=some (.slice cA l.ctl.length cC:Value) by rw[show(.slice cA l.ctl.length cC:Value)=m.ctl from HCTL.out.symm];rfl)
    by_cases hkl:k<l.ctl.length
    ·obtain⟨x,hx⟩:∃x,l.ctl[k]?=some x:=⟨_,by simp[hkl];rfl⟩
     obtain⟨g,o,ha,hc⟩:=HCC.out (by intro h0;rw[h0] at hkl;simp at hkl);subst ha;obtain⟨z0,z1,z2,z3⟩:=hc k x hx;have hwr:=HBW.out wr S.bel;have q0:=(hwr.cell (bj z0)).trans z0;have q1:=(hwr.cell (bj z1)).trans z1;have q2:=(hwr.cell (bj z2)).trans z2;have q3:=(hwr.cell (bj z3)).trans z3;have i1:decide ((k:Int)<(l.ctl.length:Int))=true:=aL (by omega);have i2:(k:Int)<(l.ctl.length:Int):=by omega
     have hts:(l.ctl.take (k+1)).map ei=(l.ctl.take k).map ei++[ei x]:=by rw[List.take_add_one,hx];simp
     obtain⟨HTS,HS⟩:=Cg hts S;obtain⟨xo,xc,xh,xv⟩:=x;simp only at q0 q1 q2 q3;clear hc hx z0 z1 z2 z3 hts S hwr
     go_upto_region 10 with fail
     have X1:=alz wr #[.string ⟨xo.toArray⟩,.bool xc,.bool xh,.string ⟨xv.toArray⟩] 62;obtain⟨HB,HZ⟩:=Cg (show Below wr.heap.size wr (wr.alloc (.cells #[.string ⟨xo.toArray⟩,.bool xc,.bool xh,.string ⟨xv.toArray⟩] 62)) from(ar _ _).alloc (ah _) _) (show(wr.alloc (.cells #[.string ⟨xo.toArray⟩,.bool xc,.bool xh,.string ⟨xv.toArray⟩] 62)).heap.size=wr.heap.size+1 from Array.size_push _);generalize wr.alloc (.cells #[.string ⟨xo.toArray⟩,.bool xc,.bool xh,.string ⟨xv.toArray⟩] 62)=w3 at X1 HB HZ⊢;obtain⟨HX,LT⟩:=Cg X1 (show wr.heap.size<w3.heap.size by have:=HZ.out;omega);have B3:=ar w3.heap.size w3;clear q0 q1 q2 q3 c27;have d0:=cval X1 0 (.string ⟨xo.toArray⟩);have kc:=dr xo w3
     go_wp2_with fail
     refine ag kc ?_;rintro e w4 ⟨rfl,hb⟩;replace B3:=cL B3 hb;clear kc hb d0 X1;have hxl:wr.heap.size<w4.heap.size:=by have:=B3.size;have:=LT.out;omega
     have hb:=alb w4 #[.int .i64 0,.int .i64 4,Bf,.string ⟨xo.toArray⟩,Sn] 45;have xr:=alz w4 #[.int .i64 0,.int .i64 4,Bf,.string ⟨xo.toArray⟩,Sn] 45;replace B3:=cL B3 hb;have kc:=dd (some ⟨w4.heap.size,0,none⟩) 1 1 (w4.alloc (.cells #[.int .i64 0,.int .i64 4,Bf,.string ⟨xo.toArray⟩,Sn] 45));clear hb
     go_wp2_with fail
     refine ag kc ?_;rintro e w5 ⟨rfl,hb⟩;replace xr:=bkk hb xr;replace B3:=cL B3 hb;clear kc hb;obtain⟨b,hbn⟩:=nmm w4.heap.size;rw[hbn] at xr hxl
     go_upto_region 11 with fail
     clear hbn;have hb5:=(gl xr);have hal:=alb w5 #[.int .i64 0,.int .i64 16,.bool true,Es,.slice (some ⟨b,0,none⟩) 1 1] 45;have SK:EbS (wr.heap.size+1) w5.heap.size #[.int .i64 0,.int .i64 16,.bool true,Es,.slice (some ⟨b,0,none⟩) 1 1] w3 (.slice (some ⟨b,0,none⟩) 1 1) [.mk 0 4 false xo []] (w5.alloc (.cells #[.int .i64 0,.int .i64 16,.bool true,Es,.slice (some ⟨b,0,none⟩) 1 1] 45)):=by
      refine⟨⟨[Sn],rfl,⟨by simp[cx],.inr ⟨b,1,_,rfl,by omega,(hal.block _ hb5).trans xr,ah _,by decide,rfl,rfl⟩⟩,fun j e u q1 q2=>?_⟩,fun e=>by simp only[Value.ownBlock,Option.some.injEq] at e;omega,bi _ _ _ rfl,cL B3 hal,by have:=HZ.out;omega,by have:=B3.size;have:=LT.out;omega⟩;have h3:j=0:=by have h9:=(List.getElem?_eq_some_iff.1 q1).1;simp at h9;omega
      subst h3
      simp at q1 q2;subst q1;subst q2;exact bf.nil _ _
     generalize w5.heap.size=gk at SK⊢;generalize w5.alloc (.cells #[.int .i64 0,.int .i64 16,.bool true,Es,.slice (some ⟨b,0,none⟩) 1 1] 45)=w6 at SK⊢;clear hal B3 xr hxl hb5;cases xc<;>cases xh
     ·have c1:=cval ((SK.bel.block _ LT.out).trans HX.out) 1 Bf
      have c2:=cval ((SK.bel.block _ LT.out).trans HX.out) 2 Bf;have SX:=HS.out.below (cL HB.out SK.bel);have hke:bf (fun q=>wx.heap.size<q∧(.slice av k cv:Value).ownBlock≠some q) w6 (.slice (some ⟨b,0,none⟩) 1 1) [.mk 0 4 false xo []]:=HS.out.fresh (SK.from.mono fun q hq _=>by omega);have s4:=cval SX.box 4 (.slice av k cv);have hcl:=HCL.out
      go_wp2_with (first
       |(refine bg rfl 45 (.tmp 8) rfl gk 45 _ (0,0) (by rfl) SK.box _ Tryz.underlying45 rfl (by rfl) ?_)
       |(at_builtin;refine wu SX (.mk 0 16 true [] [.mk 0 4 false xo []]) (some ⟨b,0,none⟩) 1 1 rfl (.tmp 60) (.tmp 62) rfl rfl rfl hke (by rw[hlen];have:=HCL.out;omega) ?_;rw[hlen];intro a9 c9 w9 S9;clear SX s4 hke c1 c2;have z:=aj S9.box 4;have s4:=cval S9.box 4 (.slice av k cv)))
      exact⟨⟨k+1,_,by go_num,by omega,by rw[HTS.out];exact S9.set 4 (.slice a9 (k+1) c9)⟩,by simp[RowKit.intOf];omega⟩
     ·have c1:=cval ((SK.bel.block _ LT.out).trans HX.out) 1 Bf
      have c2:=cval ((SK.bel.block _ LT.out).trans HX.out) 2 (.bool true)
      go_upto_region 14 with fail
      clear c1 c2;refine tg (fun w'=>w'.heap[wr.heap.size]?=some (.cells #[.string ⟨xo.toArray⟩,Bf,.bool true,.string ⟨xv.toArray⟩] 62 (0,0))∧w'.cell? ⟨gk,4,none⟩=some (.slice (some ⟨b,0,none⟩) 1 1)) 8 fun w6 hb=>?_
      replace SK:=SK.below hb;clear hb;refine ta 0 ⟨gk,4,none⟩ rfl (SK.k HX.out LT.out) ?_;refine ta 2 ⟨wr.heap.size,3,none⟩ rfl (SK.k HX.out LT.out) ?_;refine tl 1 ⟨gk,4,none⟩ (.slice (some ⟨b,0,none⟩) 1 1) rfl rfl (SK.k HX.out LT.out) (fun _ h=>h.2) ?_;refine tl 3 ⟨wr.heap.size,3,none⟩ (.string ⟨xv.toArray⟩) rfl rfl (SK.k HX.out LT.out) (fun _ h=>(ap h.1 3).trans rfl) ?_;refine tc 4 (dr xv w6) rfl (fun _ hb=>(SK.below hb).k HX.out LT.out) fun w6 hb=>?_
      replace SK:=SK.below hb;clear hb;refine tb 5 #[.int .i64 0,.int .i64 4,Bf,.string ⟨xv.toArray⟩,Sn] rfl (fun _ hb=>(SK.below hb).k HX.out LT.out) ?_;refine tw 6 rfl fun K hK=>yo SK (.mk 0 4 false xv []) none 0 0 (.tmp 52) (.tmp 56) rfl rfl rfl (bf.nil _ _) (by simp) fun a2 d2 w7 S10 _=>hK _ _ (S10.k HX.out LT.out) ?_
      clear SK hK;refine tf ?_;refine ta 7 ⟨gk,4,none⟩ rfl (S10.k HX.out LT.out) ?_;have z:=aj S10.box 4;have s4:w7.cell? ⟨gk,4,none⟩=some (.slice (some ⟨b,0,none⟩) 1 1):=(S10.k HX.out LT.out).2;refine tz 8 (w7.setCell ⟨gk,4,none⟩ (.slice a2 2 d2)) rfl ?_;have SK:EbS (wr.heap.size+1) gk #[.int .i64 0,.int .i64 16,.bool true,Es,.slice a2 2 d2] w3 (.slice a2 2 d2) [.mk 0 4 false xo [],.mk 0 4 false xv []] (w7.setCell ⟨gk,4,none⟩ (.slice a2 2 d2)):=S10.set 4 (.slice a2 2 d2);generalize w7.setCell ⟨gk,4,none⟩ (.slice a2 2 d2)=w6 at SK⊢;clear S10 z s4;simp only[Exit.then];refine‹∀(a:Act) (w:World),Code.wp _ _ _ a w→_› _ _ ?_;have c1:=cval ((SK.bel.block _ LT.out).trans HX.out) 1 Bf;have c2:=cval ((SK.bel.block _ LT.out).trans HX.out) 2 (.bool true);have SX:=HS.out.below (cL HB.out SK.bel);have hke:bf (fun q=>wx.heap.size<q∧(.slice av k cv:Value).ownBlock≠some q) w6 (.slice a2 2 d2) [.mk 0 4 false xo [],.mk 0 4 false xv []]:=HS.out.fresh (SK.from.mono fun q hq _=>by omega);have s4:=cval SX.box 4 (.slice av k cv);have hcl:=HCL.out
      go_wp2_with (first
       |(refine bg rfl 45 (.tmp 8) rfl gk 45 _ (0,0) (by rfl) SK.box _ Tryz.underlying45 rfl (by rfl) ?_)
       |(at_builtin;refine wu SX (.mk 0 16 true [] [.mk 0 4 false xo [],.mk 0 4 false xv []]) a2 2 d2 rfl (.tmp 60) (.tmp 62) rfl rfl rfl hke (by rw[hlen];have:=HCL.out;omega) ?_;rw[hlen];intro a9 c9 w9 S9;clear SX s4 hke c1 c2;have z:=aj S9.box 4;have s4:=cval S9.box 4 (.slice av k cv)))
      exact⟨⟨k+1,_,by go_num,by omega,by rw[HTS.out];exact S9.set 4 (.slice a9 (k+1) c9)⟩,by simp[RowKit.intOf];omega⟩
     ·have c1:=cval ((SK.bel.block _ LT.out).trans HX.out) 1 (.bool true)
      have c2:=cval ((SK.bel.block _ LT.out).trans HX.out) 2 Bf
      go_upto_region 12 with fail
      clear c1 c2;refine tg (fun w'=>w'.heap[wr.heap.size]?=some (.cells #[.string ⟨xo.toArray⟩,.bool true,Bf,.string ⟨xv.toArray⟩] 62 (0,0))∧w'.cell? ⟨gk,4,none⟩=some (.slice (some ⟨b,0,none⟩) 1 1)) 6 fun w6 hb=>?_
      replace SK:=SK.below hb;clear hb;refine ta 0 ⟨gk,4,none⟩ rfl (SK.k HX.out LT.out) ?_;refine tl 1 ⟨gk,4,none⟩ (.slice (some ⟨b,0,none⟩) 1 1) rfl rfl (SK.k HX.out LT.out) (fun _ h=>h.2) ?_;refine tc 2 (wL 1 true w6) rfl (fun _ hb=>(SK.below hb).k HX.out LT.out) fun w6 hb=>?_
      replace SK:=SK.below hb;clear hb;refine tb 3 #[.int .i64 0,.int .i64 1,Bf,.string ⟨(blB true).toArray⟩,Sn] rfl (fun _ hb=>(SK.below hb).k HX.out LT.out) ?_;refine tw 4 rfl fun K hK=>yo SK (.mk 0 1 false (blB true) []) none 0 0 (.tmp 44) (.tmp 46) rfl rfl rfl (bf.nil _ _) (by simp) fun a1 d1 w7 S10 _=>hK _ _ (S10.k HX.out LT.out) ?_
      clear SK hK;refine tf ?_;refine ta 5 ⟨gk,4,none⟩ rfl (S10.k HX.out LT.out) ?_;have z:=aj S10.box 4;have s4:w7.cell? ⟨gk,4,none⟩=some (.slice (some ⟨b,0,none⟩) 1 1):=(S10.k HX.out LT.out).2;refine tz 6 (w7.setCell ⟨gk,4,none⟩ (.slice a1 2 d1)) rfl ?_;have SK:EbS (wr.heap.size+1) gk #[.int .i64 0,.int .i64 16,.bool true,Es,.slice a1 2 d1] w3 (.slice a1 2 d1) [.mk 0 4 false xo [],.mk 0 1 false (blB true) []] (w7.setCell ⟨gk,4,none⟩ (.slice a1 2 d1)):=S10.set 4 (.slice a1 2 d1);generalize w7.setCell ⟨gk,4,none⟩ (.slice a1 2 d1)=w6 at SK⊢;clear S10 z s4;simp only[Exit.then];refine‹∀(a:Act) (w:World),Code.wp _ _ _ a w→_› _ _ ?_;have c1:=cval ((SK.bel.block _ LT.out).trans HX.out) 1 (.bool true);have c2:=cval ((SK.bel.block _ LT.out).trans HX.out) 2 Bf;have SX:=HS.out.below (cL HB.out SK.bel);have hke:bf (fun q=>wx.heap.size<q∧(.slice av k cv:Value).ownBlock≠some q) w6 (.slice a1 2 d1) [.mk 0 4 false xo [],.mk 0 1 false (blB true) []]:=HS.out.fresh (SK.from.mono fun q hq _=>by omega);have s4:=cval SX.box 4 (.slice av k cv);have hcl:=HCL.out
      go_wp2_with (first
       |(refine bg rfl 45 (.tmp 8) rfl gk 45 _ (0,0) (by rfl) SK.box _ Tryz.underlying45 rfl (by rfl) ?_)
       |(at_builtin;refine wu SX (.mk 0 16 true [] [.mk 0 4 false xo [],.mk 0 1 false (blB true) []]) a1 2 d1 rfl (.tmp 60) (.tmp 62) rfl rfl rfl hke (by rw[hlen];have:=HCL.out;omega) ?_;rw[hlen];intro a9 c9 w9 S9;clear SX s4 hke c1 c2;have z:=aj S9.box 4;have s4:=cval S9.box 4 (.slice av k cv)))
      exact⟨⟨k+1,_,by go_num,by omega,by rw[HTS.out];exact S9.set 4 (.slice a9 (k+1) c9)⟩,by simp[RowKit.intOf];omega⟩
     ·have c1:=cval ((SK.bel.block _ LT.out).trans HX.out) 1 (.bool true)
      have c2:=cval ((SK.bel.block _ LT.out).trans HX.out) 2 (.bool true)
      go_upto_region 12 with fail
      clear c1 c2;refine tg (fun w'=>w'.heap[wr.heap.size]?=some (.cells #[.string ⟨xo.toArray⟩,.bool true,.bool true,.string ⟨xv.toArray⟩] 62 (0,0))∧w'.cell? ⟨gk,4,none⟩=some (.slice (some ⟨b,0,none⟩) 1 1)) 6 fun w6 hb=>?_
      replace SK:=SK.below hb;clear hb;refine ta 0 ⟨gk,4,none⟩ rfl (SK.k HX.out LT.out) ?_;refine tl 1 ⟨gk,4,none⟩ (.slice (some ⟨b,0,none⟩) 1 1) rfl rfl (SK.k HX.out LT.out) (fun _ h=>h.2) ?_;refine tc 2 (wL 1 true w6) rfl (fun _ hb=>(SK.below hb).k HX.out LT.out) fun w6 hb=>?_
      replace SK:=SK.below hb;clear hb;refine tb 3 #[.int .i64 0,.int .i64 1,Bf,.string ⟨(blB true).toArray⟩,Sn] rfl (fun _ hb=>(SK.below hb).k HX.out LT.out) ?_;refine tw 4 rfl fun K hK=>yo SK (.mk 0 1 false (blB true) []) none 0 0 (.tmp 44) (.tmp 46) rfl rfl rfl (bf.nil _ _) (by simp) fun a1 d1 w7 S10 _=>hK _ _ (S10.k HX.out LT.out) ?_
      clear SK hK;refine tf ?_;refine ta 5 ⟨gk,4,none⟩ rfl (S10.k HX.out LT.out) ?_;have z:=aj S10.box 4;have s4:w7.cell? ⟨gk,4,none⟩=some (.slice (some ⟨b,0,none⟩) 1 1):=(S10.k HX.out LT.out).2;refine tz 6 (w7.setCell ⟨gk,4,none⟩ (.slice a1 2 d1)) rfl ?_;have SK:EbS (wr.heap.size+1) gk #[.int .i64 0,.int .i64 16,.bool true,Es,.slice a1 2 d1] w3 (.slice a1 2 d1) [.mk 0 4 false xo [],.mk 0 1 false (blB true) []] (w7.setCell ⟨gk,4,none⟩ (.slice a1 2 d1)):=S10.set 4 (.slice a1 2 d1);generalize w7.setCell ⟨gk,4,none⟩ (.slice a1 2 d1)=w6 at SK⊢;clear S10 z s4;simp only[Exit.then];refine‹∀(a:Act) (w:World),Code.wp _ _ _ a w→_› _ _ ?_;have c1:=cval ((SK.bel.block _ LT.out).trans HX.out) 1 (.bool true);have c2:=cval ((SK.bel.block _ LT.out).trans HX.out) 2 (.bool true)
      go_upto_region 14 with fail
      clear c1 c2;refine tg (fun w'=>w'.heap[wr.heap.size]?=some (.cells #[.string ⟨xo.toArray⟩,.bool true,.bool true,.string ⟨xv.toArray⟩] 62 (0,0))∧w'.cell? ⟨gk,4,none⟩=some (.slice a1 2 d1)) 8 fun w6 hb=>?_
      replace SK:=SK.below hb;clear hb;refine ta 0 ⟨gk,4,none⟩ rfl (SK.k HX.out LT.out) ?_;refine ta 2 ⟨wr.heap.size,3,none⟩ rfl (SK.k HX.out LT.out) ?_;refine tl 1 ⟨gk,4,none⟩ (.slice a1 2 d1) rfl rfl (SK.k HX.out LT.out) (fun _ h=>h.2) ?_;refine tl 3 ⟨wr.heap.size,3,none⟩ (.string ⟨xv.toArray⟩) rfl rfl (SK.k HX.out LT.out) (fun _ h=>(ap h.1 3).trans rfl) ?_;refine tc 4 (dr xv w6) rfl (fun _ hb=>(SK.below hb).k HX.out LT.out) fun w6 hb=>?_
      replace SK:=SK.below hb;clear hb;refine tb 5 #[.int .i64 0,.int .i64 4,Bf,.string ⟨xv.toArray⟩,Sn] rfl (fun _ hb=>(SK.below hb).k HX.out LT.out) ?_;refine tw 6 rfl fun K hK=>yo SK (.mk 0 4 false xv []) none 0 0 (.tmp 52) (.tmp 56) rfl rfl rfl (bf.nil _ _) (by simp) fun a2 d2 w7 S10 _=>hK _ _ (S10.k HX.out LT.out) ?_
      clear SK hK;refine tf ?_;refine ta 7 ⟨gk,4,none⟩ rfl (S10.k HX.out LT.out) ?_;have z:=aj S10.box 4;have s4:w7.cell? ⟨gk,4,none⟩=some (.slice a1 2 d1):=(S10.k HX.out LT.out).2;refine tz 8 (w7.setCell ⟨gk,4,none⟩ (.slice a2 3 d2)) rfl ?_;have SK:EbS (wr.heap.size+1) gk #[.int .i64 0,.int .i64 16,.bool true,Es,.slice a2 3 d2] w3 (.slice a2 3 d2) [.mk 0 4 false xo [],.mk 0 1 false (blB true) [],.mk 0 4 false xv []] (w7.setCell ⟨gk,4,none⟩ (.slice a2 3 d2)):=S10.set 4 (.slice a2 3 d2);generalize w7.setCell ⟨gk,4,none⟩ (.slice a2 3 d2)=w6 at SK⊢;clear S10 z s4;simp only[Exit.then];refine‹∀(a:Act) (w:World),Code.wp _ _ _ a w→_› _ _ ?_;have c1:=cval ((SK.bel.block _ LT.out).trans HX.out) 1 (.bool true);have c2:=cval ((SK.bel.block _ LT.out).trans HX.out) 2 (.bool true);have SX:=HS.out.below (cL HB.out SK.bel);have hke:bf (fun q=>wx.heap.size<q∧(.slice av k cv:Value).ownBlock≠some q) w6 (.slice a2 3 d2) [.mk 0 4 false xo [],.mk 0 1 false (blB true) [],.mk 0 4 false xv []]:=HS.out.fresh (SK.from.mono fun q hq _=>by omega);have s4:=cval SX.box 4 (.slice av k cv);have hcl:=HCL.out
      go_wp2_with (first
       |(refine bg rfl 45 (.tmp 8) rfl gk 45 _ (0,0) (by rfl) SK.box _ Tryz.underlying45 rfl (by rfl) ?_)
       |(at_builtin;refine wu SX (.mk 0 16 true [] [.mk 0 4 false xo [],.mk 0 1 false (blB true) [],.mk 0 4 false xv []]) a2 3 d2 rfl (.tmp 60) (.tmp 62) rfl rfl rfl hke (by rw[hlen];have:=HCL.out;omega) ?_;rw[hlen];intro a9 c9 w9 S9;clear SX s4 hke c1 c2;have z:=aj S9.box 4;have s4:=cval S9.box 4 (.slice av k cv)))
      exact⟨⟨k+1,_,by go_num,by omega,by rw[HTS.out];exact S9.set 4 (.slice a9 (k+1) c9)⟩,by simp[RowKit.intOf];omega⟩
    ·obtain rfl:k=l.ctl.length:=by omega
     rw[List.take_of_length_le (ah _)] at S;have i1:decide ((l.ctl.length:Int)<(l.ctl.length:Int))=false:=an (by omega);have SE:=HSE.out.below S.bel;have hkk:bf (fun q=>w.heap.size+1≤q∧q≠be∧(.slice va 2 vc:Value).ownBlock≠some q) wr (.slice av l.ctl.length cv) (l.ctl.map ei):=S.kids.mono fun q hq _=>⟨by have:=HSE.out.glt;have:=HSE.out.lo2;omega,by have:=HSE.out.glt;omega,fun e=>by have:=(HSE.out.lt e).2;omega⟩
     have x9:wr.heap[wx.heap.size]?=some (.cells #[.int .i64 0,.int .i64 16,.bool true,Es,.slice av l.ctl.length cv] 45 (0,0)):=S.box;clear S hlen
     go_upto_region 16 with fail
     clear i1 c27;have s0:=cval SE.box 4 (.slice va 2 vc);refine tg (fun w'=>w'.heap[wx.heap.size]?=some (.cells #[.int .i64 0,.int .i64 16,.bool true,Es,.slice av l.ctl.length cv] 45 (0,0))∧w'.cell? ⟨be,4,none⟩=some (.slice va 2 vc)) 7 fun w6 hb=>?_
     clear s0;replace x9:=atb hb x9;replace hkk:=hkk.below hb;replace SE:=SE.below hb;clear hb;refine ta 0 ⟨be,4,none⟩ rfl ⟨x9,(ap SE.box 4).trans rfl⟩ ?_;refine tl 1 ⟨be,4,none⟩ (.slice va 2 vc) rfl rfl ⟨x9,(ap SE.box 4).trans rfl⟩ (fun _ h=>h.2) ?_;refine tt 2 (.agg #[.int .i64 0,.int .i64 16,.bool true,Es,.slice av l.ctl.length cv]) rfl rfl ⟨x9,(ap SE.box 4).trans rfl⟩ (fun w' hS=>by exact cU 45 (.tmp 5) rfl wx.heap.size 45 _ (0,0) (by rfl) hS.1 _ Tryz.underlying45 rfl (by rfl)) ?_;refine tc 3 (l7 0 0 16 true [] av l.ctl.length cv w6) rfl (fun _ hb=>⟨atb hb x9,(ap (SE.below hb).box 4).trans rfl⟩) fun w6 hb=>?_
     replace SE:=SE.below hb;replace hkk:=hkk.below hb;replace x9:=atb hb x9;clear hb;refine tb 4 #[.int .i64 2,.int .i64 0,.bool true,Es,.slice av l.ctl.length cv] rfl (fun _ hb=>⟨atb hb x9,(ap (SE.below hb).box 4).trans rfl⟩) ?_;have hlen:(l.ctl.map ei).length=l.ctl.length:=List.length_map _;refine tw 5 rfl fun K hK=>?_
     refine yo SE (.mk 2 0 true [] (l.ctl.map ei)) av l.ctl.length cv (.tmp 66) (.tmp 69) rfl rfl (by rfl) hkk (by simp) ?_;intro a3 c3 w7 S10 HU;clear SE hkk;have x9:w7.heap[wx.heap.size]?=some (.cells #[.int .i64 0,.int .i64 16,.bool true,Es,.slice av l.ctl.length cv] 45 (0,0)):=(HU _ (gl x9) (fun e=>by have:=(HSE.out.lt e).2;omega)).trans x9;clear HU;refine hK _ _ ⟨x9,(ap S10.box 4).trans rfl⟩ ?_;clear hK K;refine tf ?_;refine ta 6 ⟨be,4,none⟩ rfl ⟨x9,(ap S10.box 4).trans rfl⟩ ?_;have z:=aj S10.box 4;have s4:=cval S10.box 4 (.slice va 2 vc);refine tz 7 (w7.setCell ⟨be,4,none⟩ (.slice a3 3 c3)) rfl ?_;have SE:EbS (w.heap.size+1) be #[.int .i64 0,.int .i64 16,.bool true,Es,.slice a3 3 c3] w (.slice a3 3 c3) [.mk 0 2 false (sgB nid) [],.mk oc ot okk ob oks,.mk 2 0 true [] (l.ctl.map ei)] (w7.setCell ⟨be,4,none⟩ (.slice a3 3 c3)):=S10.set 4 (.slice a3 3 c3);generalize w7.setCell ⟨be,4,none⟩ (.slice a3 3 c3)=w6 at SE⊢;clear S10 z s4 x9;simp only[Exit.then];refine‹∀(a:Act) (w:World),Code.wp _ _ _ a w→_› _ _ ?_;have kr:=xZ (wm m l) HSM.out (.slice a3 3 c3) w6 (by
      have e:(wm m l).kids=[.mk 0 2 false (sgB nid) [],.mk oc ot okk ob oks,.mk 2 0 true [] (l.ctl.map ei)]:=by simp only[wm,El.kids,mn,if_neg HNE.out,HNID.out,HEE.out,List.cons_append,List.nil_append]
      rw[e];exact SE.kids)
     rw[HOUT.out] at kr;have b9:=SE.bel;clear HOUT HEE HSM HNID HC HCL HCS HCC HNE;simp only[elA,wm,El.cls,El.tag,El.cons,El.bytes] at kr
     go_wp2_with (refine bg rfl 45 (.tmp 4) rfl be 45 _ (0,0) (by rfl) SE.box _ Tryz.underlying45 rfl (by rfl) ?_)
     refine ag kr ?_;rintro e w8 ⟨rfl,hb⟩
     go_wp2_with fail
     go_ret2
     exact⟨rfl,cL b9 hb⟩
end Go.Proofs.YthjaiigijbjloaaGreatDoor
