/- BerC, BerD, BerE, BuildS. -/
import Derived.Lib.Builder
import Derived.Lib.UnsafeStr
import Derived.Test.YthpcpdplcicfoaaGreatDoorV1
namespace Go.Proofs.YthpcpdplcicfoaaGreatDoor
open Go.RowKit Go.Lib
set_option maxRecDepth 100000
set_option maxHeartbeats 16000000
theorem i9(t:Int)(s:List UInt8)(w:World):
  Cr 55 #[.int .i64 t,.string ⟨s.toArray⟩] w (.agg (elA (.mk 0 t false s []) (.slice none 0 0))):=by
 have hb:=alb w #[I0,.int .i64 t,Bf,.string ⟨s.toArray⟩,.slice none 0 0] 61;have hr:=alz w #[I0,.int .i64 t,Bf,.string ⟨s.toArray⟩,.slice none 0 0] 61
 go_enter Tryz.func55,Tryz.ntmps55
 go_wp2_with fail
 all_goals refine aH (v:=.agg #[I0,.int .i64 t,Bf,.string ⟨s.toArray⟩,.slice none 0 0]) ?_ rfl ⟨rfl,hb⟩
 all_goals have hr:=aJ (P:=Tryz.prog) (w.alloc (.cells #[I0,.int .i64 t,Bf,.string ⟨s.toArray⟩,.slice none 0 0] 61)) (w.heap.size) 61 61 #[I0,.int .i64 t,Bf,.string ⟨s.toArray⟩,.slice none 0 0] (0,0) _ hr (show Tryz.prog.underlying 61=_ from Tryz.underlying61) (by rfl) (by rfl)
 all_goals simp[results,Tryz.f55]
 all_goals exact hr
theorem bz(s:List UInt8)(w:World):
  Cr 76 #[.string ⟨s.toArray⟩] w (.agg (elA (.mk 0 4 false s []) (.slice none 0 0))):=by
 have hb:=alb w Ze 61;have hr:=alz w Ze 61;have k:=i9 4 s (w.alloc (.cells Ze 61))
 go_enter Tryz.func76,Tryz.ntmps76
 go_wp2_with fail
 refine ag k ?_;rintro e w2 ⟨rfl,hb2⟩;have hr2:=bkk hb2 hr;have hb3:=btt hb hb2;clear hr hb2 hb k;unfold elA;simp only[El.cls,El.tag,El.cons,El.bytes];have hq:=setRow_heap w2 w.heap.size _ #[I0,.int .i64 4,Bf,.string ⟨s.toArray⟩,.slice none 0 0] _ _ hr2;have hb4:=bm hb3 (g:=w.heap.size) (ah _) #[I0,.int .i64 4,Bf,.string ⟨s.toArray⟩,.slice none 0 0]
 go_wp2_with (refine bh rfl 61 (.tmp 2) (.tmp 4) rfl w.heap.size 61 _ #[I0,.int .i64 4,Bf,.string ⟨s.toArray⟩,.slice none 0 0] (by rfl) (by rfl) hr2 (by rfl) (by rfl) (by simp[Value.oneCell']) ?_)
 all_goals refine aH (v:=.agg #[I0,.int .i64 4,Bf,.string ⟨s.toArray⟩,.slice none 0 0]) ?_ rfl ⟨rfl,hb4⟩
 all_goals have hr:=aJ (P:=Tryz.prog) (w2.setRow w.heap.size #[I0,.int .i64 4,Bf,.string ⟨s.toArray⟩,.slice none 0 0]) (w.heap.size) 61 61 #[I0,.int .i64 4,Bf,.string ⟨s.toArray⟩,.slice none 0 0] (0,0) _ hq (show Tryz.prog.underlying 61=_ from Tryz.underlying61) (by rfl) (by rfl)
 all_goals simp[results,Tryz.f76]
 all_goals exact hr
theorem cH(l:List El)(v:Value)(w:World)(h:bf (fun _=>True) w v l)(hs:SmL l)(hl:l.length≤1000000000):
  Calls Tryz.prog 27 #[v] w fun e w'=>(∃u,e=.returned (.agg (elA (.mk 0 16 true [] l) u))∧bf (fun g=>w.heap.size≤g) w' u l)∧Below w.heap.size w w':=by
 obtain⟨av,cv,hfv⟩:=h.shape;subst hfv;have hb:=alb w Ze 61;have hr:=alz w Ze 61;have k:=xx (fT l) l (ah _) hs hl _ _ (h.below hb);clear h hs
 go_enter Tryz.func27,Tryz.ntmps27
 go_wp2_with fail
 refine ag k ?_;rintro e w2 ⟨⟨u2,rfl,hu2⟩,hb2⟩;obtain⟨a2,c2,hf2⟩:=hu2.shape;subst hf2;have hlt:=(gl hr);have hr2:=(hb2.block _ hlt).trans hr;have hb3:=btt hb hb2;have HU:bf (fun g=>w.heap.size≤g) (w2.setRow w.heap.size #[I0,.int .i64 16,.bool true,Es,.slice a2 l.length c2]) (.slice a2 l.length c2) l:=hu2.kept fun g hg _=>⟨setRow_other _ _ _ _ (by omega),by omega⟩
 have hq:=setRow_heap w2 w.heap.size _ #[I0,.int .i64 16,.bool true,Es,.slice a2 l.length c2] _ _ hr2;have hb4:=bm hb3 (g:=w.heap.size) (ah _) #[I0,.int .i64 16,.bool true,Es,.slice a2 l.length c2];have HH:=hid HU;clear hr hb2 hb k hu2 HU
 go_wp2_with (refine bh rfl 61 (.tmp 2) (.tmp 5) rfl w.heap.size 61 _ #[I0,.int .i64 16,.bool true,Es,.slice a2 l.length c2] (by rfl) (by rfl) hr2 (by rfl) (by rfl) (by simp[Value.oneCell']) ?_)
 all_goals refine aH (v:=.agg #[I0,.int .i64 16,.bool true,Es,.slice a2 l.length c2]) ?_ rfl ⟨⟨_,rfl,HH.out⟩,hb4⟩
 all_goals have hr:=aJ (P:=Tryz.prog) (w2.setRow w.heap.size #[I0,.int .i64 16,.bool true,Es,.slice a2 l.length c2]) (w.heap.size) 61 61 #[I0,.int .i64 16,.bool true,Es,.slice a2 l.length c2] (0,0) _ hq (show Tryz.prog.underlying 61=_ from Tryz.underlying61) (by rfl) (by rfl)
 all_goals simp[results,Tryz.f27]
 all_goals exact hr
theorem jV(el:El)(u:Value)(c t:Int)(w:World)(h:bf (fun _=>True) w u el.kids)(hs:SmE el):
  Calls Tryz.prog 137 #[.agg (elA el u),.int .i64 c,.int .i64 t] w fun e w'=>(∃u',e=.returned (.agg (elA (.mk c t el.cons el.bytes el.kids) u'))∧bf (fun g=>w.heap.size≤g) w' u' el.kids)∧Below w.heap.size w w':=by
 obtain⟨_,hl,hsl⟩:=dV hs;obtain⟨av,cv,hfv⟩:=h.shape;subst hfv;have hb:Below w.heap.size w ((w.alloc (.cells (Er el av cv) 61)).alloc (.cells Ze 61)):=((aA _ _).alloc (ah _) _).alloc (by simp) _;have hr:((w.alloc (.cells (Er el av cv) 61)).alloc (.cells Ze 61)).heap[w.heap.size]?=some (.cells (Er el av cv) 61 (0,0)):=(alloc_old _ _ _ (by simp)).trans (bC _ _ _ rfl);have hz:((w.alloc (.cells (Er el av cv) 61)).alloc (.cells Ze 61)).heap[w.heap.size+1]?=some (.cells Ze 61 (0,0)):=bC _ _ _ (by simp);have k:=xx (fT el.kids) el.kids (ah _) hsl hl _ _ (h.below hb);clear h hs hsl;unfold elA
 go_enter Tryz.func137,Tryz.ntmps137
 go_wp2_with fail
 refine ag k ?_;rintro e w2 ⟨⟨u2,rfl,hu2⟩,hb2⟩;obtain⟨a2,c2,hf2⟩:=hu2.shape;subst hf2;have hlt:=(gl hz);have hr2:=bkk hb2 hr;have hz2:=(hb2.block _ hlt).trans hz;have hb3:=btt hb hb2;have q0:=cval hr2 0 (.int .i64 el.cls);have q1:=cval hr2 1 (.int .i64 el.tag);have q4:=cval hr2 4 (.slice av el.kids.length cv);have z0:=aj hr2 0;have z1:=aj hr2 1;have z4:=aj hr2 4;have n1:(w2.setCell ⟨w.heap.size,0,none⟩ (.int .i64 c)).heap[w.heap.size]?=_:=cq (i:=0) (u:=.int .i64 c) hr2;have n2:((w2.setCell ⟨w.heap.size,0,none⟩ (.int .i64 c)).setCell ⟨w.heap.size,1,none⟩ (.int .i64 t)).heap[w.heap.size]?=_:=cq (i:=1) (u:=.int .i64 t) n1;have n3:(((w2.setCell ⟨w.heap.size,0,none⟩ (.int .i64 c)).setCell ⟨w.heap.size,1,none⟩ (.int .i64 t)).setCell ⟨w.heap.size,4,none⟩ (.slice a2 el.kids.length c2)).heap[w.heap.size]?=some (.cells #[.int .i64 c,.int .i64 t,.bool el.cons,.string ⟨el.bytes.toArray⟩,.slice a2 el.kids.length c2] 61 (0,0)):=cq (i:=4) (u:=.slice a2 el.kids.length c2) n2;have hoth:∀g,g≠w.heap.size→(((w2.setCell ⟨w.heap.size,0,none⟩ (.int .i64 c)).setCell ⟨w.heap.size,1,none⟩ (.int .i64 t)).setCell ⟨w.heap.size,4,none⟩ (.slice a2 el.kids.length c2)).heap[g]?=w2.heap[g]?:=fun g hg=>(aX _ ⟨w.heap.size,4,none⟩ _ g hg).trans ((aX _ ⟨w.heap.size,1,none⟩ _ g hg).trans (aX _ ⟨w.heap.size,0,none⟩ _ g hg))
 have m3:=(hoth (w.heap.size+1) (by omega)).trans hz2;have b3:Below w.heap.size w (((w2.setCell ⟨w.heap.size,0,none⟩ (.int .i64 c)).setCell ⟨w.heap.size,1,none⟩ (.int .i64 t)).setCell ⟨w.heap.size,4,none⟩ (.slice a2 el.kids.length c2)):=((hb3.setCell (p:=⟨w.heap.size,0,none⟩) (ah _) _).setCell (p:=⟨w.heap.size,1,none⟩) (ah _) _).setCell (p:=⟨w.heap.size,4,none⟩) (ah _) _;have K3:bf (fun g=>w.heap.size+1<g) (((w2.setCell ⟨w.heap.size,0,none⟩ (.int .i64 c)).setCell ⟨w.heap.size,1,none⟩ (.int .i64 t)).setCell ⟨w.heap.size,4,none⟩ (.slice a2 el.kids.length c2)) (.slice a2 el.kids.length c2) el.kids:=hu2.kept fun g hg _=>⟨hoth g (by omega),by omega⟩
 obtain⟨HK,HN,HM,HB⟩:=Ci K3 n3 m3 b3;clear n1 n2 n3 hoth m3 b3 K3 hu2 hb2 hr hz hb k hb3 hz2 hr2
 go_wp2_with (first
  |(generalize((w2.setCell ⟨w.heap.size,0,none⟩ (.int .i64 c)).setCell ⟨w.heap.size,1,none⟩ (.int .i64 t)).setCell ⟨w.heap.size,4,none⟩ (.slice a2 el.kids.length c2)=w3 at HN HM HB HK⊢;refine bg rfl 61 (.tmp 3) rfl w.heap.size 61 _ (0,0) (by rfl) HN.out _ Tryz.underlying61 rfl (by rfl) ?_)
  |(refine bh rfl 61 (.tmp 6) (.tmp 15) rfl (w.heap.size+1) 61 _ #[.int .i64 c,.int .i64 t,.bool el.cons,.string ⟨el.bytes.toArray⟩,.slice a2 el.kids.length c2] (by rfl) (by rfl) HM.out (by rfl) (by rfl) (by simp[Value.oneCell']) ?_))
 have hq:=setRow_heap w3 (w.heap.size+1) _ #[.int .i64 c,.int .i64 t,.bool el.cons,.string ⟨el.bytes.toArray⟩,.slice a2 el.kids.length c2] _ _ HM.out;have hb4:=bm HB.out (g:=w.heap.size+1) (by omega) #[.int .i64 c,.int .i64 t,.bool el.cons,.string ⟨el.bytes.toArray⟩,.slice a2 el.kids.length c2];have HH:bf (fun g=>w.heap.size≤g) (w3.setRow (w.heap.size+1) #[.int .i64 c,.int .i64 t,.bool el.cons,.string ⟨el.bytes.toArray⟩,.slice a2 el.kids.length c2]) (.slice a2 el.kids.length c2) el.kids:=HK.out.kept fun g hg _=>⟨setRow_other _ _ _ _ (by omega),by omega⟩
 all_goals refine aH (v:=.agg #[.int .i64 c,.int .i64 t,.bool el.cons,.string ⟨el.bytes.toArray⟩,.slice a2 el.kids.length c2]) ?_ rfl ⟨⟨_,rfl,HH⟩,hb4⟩
 all_goals have hr:=aJ (P:=Tryz.prog) (w3.setRow (w.heap.size+1) #[.int .i64 c,.int .i64 t,.bool el.cons,.string ⟨el.bytes.toArray⟩,.slice a2 el.kids.length c2]) (w.heap.size+1) 61 61 #[.int .i64 c,.int .i64 t,.bool el.cons,.string ⟨el.bytes.toArray⟩,.slice a2 el.kids.length c2] (0,0) _ hq (show Tryz.prog.underlying 61=_ from Tryz.underlying61) (by rfl) (by rfl)
 all_goals simp[results,Tryz.f137]
 all_goals exact hr
theorem BY(el:El)(u:Value)(t:Int)(w:World)(h:bf (fun _=>True) w u el.kids)(hs:SmE el):
  Calls Tryz.prog 78 #[.int .i64 t,.agg (elA el u)] w fun e w'=>(∃u',e=.returned (.agg (elA (.mk 2 t el.cons el.bytes el.kids) u'))∧bf (fun g=>w.heap.size≤g) w' u' el.kids)∧Below w.heap.size w w':=by
 have hb:Below w.heap.size w ((w.alloc (.cells (elA el u) 61)).alloc (.cells Ze 61)):=((aA _ _).alloc (ah _) _).alloc (by simp) _;have hr:((w.alloc (.cells (elA el u) 61)).alloc (.cells Ze 61)).heap[w.heap.size]?=some (.cells (elA el u) 61 (0,0)):=(alloc_old _ _ _ (by simp)).trans (bC _ _ _ rfl);have hz:((w.alloc (.cells (elA el u) 61)).alloc (.cells Ze 61)).heap[w.heap.size+1]?=some (.cells Ze 61 (0,0)):=bC _ _ _ (by simp);have k:=jV el u 2 t _ (h.below hb) hs;clear h hs
 go_enter Tryz.func78,Tryz.ntmps78
 go_wp2_with (refine bg rfl 61 (.tmp 3) rfl w.heap.size 61 _ (0,0) (by rfl) hr _ Tryz.underlying61 rfl (by rfl) ?_)
 refine ag k ?_;rintro e w2 ⟨⟨u2,rfl,hu2⟩,hb2⟩;obtain⟨a2,c2,hf2⟩:=hu2.shape;subst hf2;have hz2:=bkk hb2 hz;have hb3:=btt hb hb2;have hq:=setRow_heap w2 (w.heap.size+1) _ (elA (.mk 2 t el.cons el.bytes el.kids) (.slice a2 el.kids.length c2)) _ _ hz2;have hb4:=bm hb3 (g:=w.heap.size+1) (by omega) (elA (.mk 2 t el.cons el.bytes el.kids) (.slice a2 el.kids.length c2));have hlt:=(gl hz);have HH:bf (fun g=>w.heap.size≤g) (w2.setRow (w.heap.size+1) (elA (.mk 2 t el.cons el.bytes el.kids) (.slice a2 el.kids.length c2))) (.slice a2 el.kids.length c2) el.kids:=hu2.kept fun g hg _=>⟨setRow_other _ _ _ _ (by omega),by omega⟩
 have HI:=hid HH;clear hb k hu2 hb2 hr hz hb3 HH
 go_wp2_with (refine bh rfl 61 (.tmp 4) (.tmp 7) rfl (w.heap.size+1) 61 _ (elA (.mk 2 t el.cons el.bytes el.kids) (.slice a2 el.kids.length c2)) (by rfl) (by rfl) hz2 (by rfl) (by rfl) (by simp[elA,Value.oneCell']) ?_)
 all_goals refine aH (v:=.agg (elA (.mk 2 t el.cons el.bytes el.kids) (.slice a2 el.kids.length c2))) ?_ rfl ⟨⟨_,rfl,HI.out⟩,hb4⟩
 all_goals have hr:=aJ (P:=Tryz.prog) (w2.setRow (w.heap.size+1) (elA (.mk 2 t el.cons el.bytes el.kids) (.slice a2 el.kids.length c2))) (w.heap.size+1) 61 61 (elA (.mk 2 t el.cons el.bytes el.kids) (.slice a2 el.kids.length c2)) (0,0) _ hq (show Tryz.prog.underlying 61=_ from Tryz.underlying61) (by rfl) (by rfl)
 all_goals simp[results,Tryz.f78]
 all_goals exact hr
theorem mc(p:El→Bool)(d:Nat)(el:El):eT p d el=if 20≤d then true else p el&&dS p (d+1) el.kids:=by
 cases el;simp only[eT,El.kids]
theorem ro(d:Nat)(el:El):eW d el=if 20≤d then true else eX (d+1) el.kids:=by
 cases el;simp only[eW,El.kids]
theorem iA{α:Type}{l:List α}{k:Nat}{e:α}(h:l[k]?=some e):l.drop k=e::l.drop (k+1):=by
 obtain⟨hk,he⟩:=List.getElem?_eq_some_iff.1 h;rw[List.drop_eq_getElem_cons hk,he]
theorem Af(el:El)(u:Value)(w:World)(h:bf (fun _=>True) w u el.kids):
  Cr 49 #[.agg (elA el u)] w (.bool (cn el)):=by
 obtain⟨a,c,hf⟩:=h.shape;clear h;obtain⟨cl,t,k,b,ks⟩:=el;simp only[El.kids] at hf;subst hf;unfold elA;simp only[El.cls,El.tag,El.cons,El.bytes];have hb:=alb w #[.int .i64 cl,.int .i64 t,.bool k,.string ⟨b.toArray⟩,.slice a ks.length c] 61
 by_cases h1:0≤cl
 ·have g1:decide (0≤cl)=true:=aC h1
  by_cases h2:cl≤3
  ·have g2:decide (cl≤3)=true:=aC h2
   by_cases h3:0≤t
   ·have g3:decide (0≤t)=true:=aC h3
    by_cases h4:t≤30
    ·have g4:decide (t≤30)=true:=aC h4
     have hr:cn (.mk cl t k b ks)=true:=by simp[cn,h1,h2,h3,h4]
     rw[hr]
     go_enter Tryz.func49,Tryz.ntmps49
     go_wp2_with fail
     go_ret
     exact⟨rfl,hb⟩
    ·have g4:decide (t≤30)=false:=an h4
     have hr:cn (.mk cl t k b ks)=false:=by simp[cn,h4]
     rw[hr]
     go_enter Tryz.func49,Tryz.ntmps49
     go_wp2_with fail
     go_ret
     exact⟨rfl,hb⟩
   ·have g3:decide (0≤t)=false:=an h3
    have hr:cn (.mk cl t k b ks)=false:=by simp[cn,h3]
    rw[hr]
    go_enter Tryz.func49,Tryz.ntmps49
    go_wp2_with fail
    go_ret
    exact⟨rfl,hb⟩
  ·have g2:decide (cl≤3)=false:=an h2
   have hr:cn (.mk cl t k b ks)=false:=by simp[cn,h2]
   rw[hr]
   go_enter Tryz.func49,Tryz.ntmps49
   go_wp2_with fail
   go_ret
   exact⟨rfl,hb⟩
 ·have g1:decide (0≤cl)=false:=an h1
  have hr:cn (.mk cl t k b ks)=false:=by simp[cn,h1]
  rw[hr]
  go_enter Tryz.func49,Tryz.ntmps49
  go_wp2_with fail
  go_ret
  exact⟨rfl,hb⟩
theorem nb(el:El)(u:Value)(w:World)(h:bf (fun _=>True) w u el.kids):
  Cr 50 #[.agg (elA el u)] w (.bool (dw el)):=by
 obtain⟨a,c,hf⟩:=h.shape;clear h;obtain⟨cl,t,k,b,ks⟩:=el;simp only[El.kids] at hf;subst hf;unfold elA;simp only[El.cls,El.tag,El.cons,El.bytes];have hb:=alb w #[.int .i64 cl,.int .i64 t,.bool k,.string ⟨b.toArray⟩,.slice a ks.length c] 61;cases k with
 |true=>
  cases b with
  |nil=>
   have hr:dw (.mk cl t true [] ks)=true:=by simp[dw]
   rw[hr]
   go_enter Tryz.func50,Tryz.ntmps50
   go_wp2_with fail
   go_ret
   exact⟨rfl,hb⟩
  |cons x b=>
   have hr:dw (.mk cl t true (x::b) ks)=false:=by simp[dw]
   rw[hr]
   go_enter Tryz.func50,Tryz.ntmps50
   go_wp2_with fail
   go_ret
   exact⟨rfl,hb⟩
 |false=>
  cases ks with
  |nil=>
   have hr:dw (.mk cl t false b [])=true:=by simp[dw]
   rw[hr]
   go_enter Tryz.func50,Tryz.ntmps50
   go_wp2_with fail
   go_ret
   exact⟨rfl,hb⟩
  |cons x ks=>
   have hr:dw (.mk cl t false b (x::ks))=false:=by simp[dw]
   rw[hr];obtain⟨m,hm⟩:=nmm ((x::ks).length);have hm0:((m:Int)==0)=false:=by
    have h0:m≠0:=by rw[←hm];simp
    simpa using h0
   rw[hm];rw[hm] at hb
   go_enter Tryz.func50,Tryz.ntmps50
   go_wp2_with fail
   go_ret
   exact⟨rfl,hb⟩
theorem zC(n:Nat):∀(el:El),ex el≤n→SmE el→∀(d:Nat),d≤20→∀(u:Value) (w:World),bf (fun _=>True) w u el.kids→
  Cr 48 #[.agg (elA el u),.int .i64 (d:Int),.func (.func 49) #[] #[]] w (.bool (eT cn d el)):=by
 induction n with
 |zero=>intro el hd;rw[eu] at hd;omega
 |succ n ih=>
 intro el hd hs d hd20 u w h;obtain⟨a,c,hf⟩:=h.shape;subst hf;obtain⟨sb,sl,sk⟩:=dV hs;have b1:=alb w (Er el a c) 61;have r1:=alz w (Er el a c) 61;have ky:=Af el _ _ (h.below b1);obtain⟨H,IH,HS,HD⟩:=Ci (h.below b1) ih sk hd;clear h ih sk hd hs;rw[mc]
 by_cases h20:20≤d
 ·have g1:decide ((20:Int)≤(d:Int))=true:=aC (by omega)
  rw[if_pos h20];unfold elA
  go_enter Tryz.func48,Tryz.ntmps48
  go_wp2_with fail
  go_ret
  exact⟨rfl,b1⟩
 ·have g1:decide ((20:Int)≤(d:Int))=false:=an (by omega)
  rw[if_neg h20];obtain⟨ANS,hA⟩:=nmm (cn el&&dS cn (d+1) el.kids);rw[hA];have HA0:=hid hA;clear hA;unfold elA at ky⊢
  go_enter Tryz.func48,Tryz.ntmps48
  refine wp_seq ?_;refine aQ ?_;refine aB rfl (kkn ?_);generalize w.alloc (.cells (Er el a c) 61)=w1 at b1 r1 ky H⊢
  go_wp2_with (refine bg rfl 61 (.tmp 3) rfl w.heap.size 61 _ (0,0) (by rfl) r1 _ Tryz.underlying61 rfl (by rfl) ?_)
  refine ag ky ?_;rintro e2 w2 ⟨rfl,hb2⟩;have r2:=bkk hb2 r1;have b2:=btt b1 hb2;have H2:=hid (H.out.below hb2);clear b1 r1 ky H hb2;obtain⟨BP,hp⟩:=nmm (cn el);cases BP with
  |false=>
   have e:ANS=false:=by rw[←HA0.out,hp];rfl
   subst e;rw[hp]
   go_wp2_with fail
   go_ret
   exact⟨rfl,b2⟩
  |true=>
   have hA:dS cn (d+1) el.kids=ANS:=by have:=HA0.out;rw[hp,Bool.true_and] at this;exact this
   have HA:=hid hA;rw[hp];clear hA hp HA0;have q4:=cval r2 4 (.slice a el.kids.length c);clear r2
   go_wp2_with fail
   go_loopw [18] (fun i wr=>∃k:Nat,i=.int .i64 (k:Int)∧k≤el.kids.length∧Below w2.heap.size w2 wr∧dS cn (d+1) (el.kids.drop k)=ANS) (fun i _=>el.kids.length -(RowKit.intOf i).toNat)
   case atStart=>exact⟨0,rfl,Nat.zero_le _,aA _ _,HA.out⟩
   case round=>
    clear q4;obtain⟨k,rfl,hk,hbe,hans⟩:=hrel
    by_cases hkl:k<el.kids.length
    ·obtain⟨e,he⟩:∃e,el.kids[k]?=some e:=⟨el.kids[k],aM hkl⟩
     obtain⟨a',cap',e',_,hsrc⟩:=H2.out.below hbe;cases e';obtain⟨g,o,ha,_,hcells⟩:=hsrc (by intro h0;rw[h0] at hkl;simp at hkl);subst ha;obtain⟨p0,p1,p2,p3,u,p4,hu⟩:=(cE.get el.kids g o k e hcells he).cells;obtain⟨au,cu,hfu⟩:=hu.shape;subst hfu;have hdep:ex e≤n:=by have h1:=eK el.kids k e he;have h2:=eu el;have:=HD.out;omega
     rw[iA he] at hans;simp only[dS] at hans;have i1:(k:Int)<(el.kids.length:Int):=by omega
     have i3:decide ((k:Int)<(el.kids.length:Int))=true:=aC i1;have m1:=alb wr (Er e au cu) 61;have kr:=IH.out e hdep (eV el.kids k e HS.out he) (d+1) (by omega) _ _ (hu.below m1);have b4:=btt hbe m1;have hsz:=hbe.size;have hsm:=m1.size;have HB4:=hid b4;have hdc:((d+1:Nat):Int)=(d:Int)+1:=by omega
     rw[hdc] at kr;clear hdc;clear hsrc hcells he hu b4 m1;cases hv:eT cn (d+1) e with
     |false=>
      rw[hv] at kr hans;rw[Bool.false_and] at hans;subst hans;unfold elA at kr
      go_wp2_with (refine bg rfl 61 (.tmp 8) rfl wr.heap.size 61 _ (0,0) (by rfl) (bC _ _ _ rfl) _ Tryz.underlying61 rfl (by rfl) ?_)
      refine ag kr ?_;rintro e5 w5 ⟨rfl,hb5⟩
      go_wp2_with fail
      go_ret
      exact⟨rfl,b2.trans ((HB4.out.trans (hb5.mono (by omega))).mono b2.size)⟩
     |true=>
      rw[hv] at kr hans;rw[Bool.true_and] at hans;unfold elA at kr;have HANS:=hid hans;clear hans
      go_wp2_with (refine bg rfl 61 (.tmp 8) rfl wr.heap.size 61 _ (0,0) (by rfl) (bC _ _ _ rfl) _ Tryz.underlying61 rfl (by rfl) ?_)
      refine ag kr ?_;rintro e5 w5 ⟨rfl,hb5⟩;have HB5:=hid (HB4.out.trans (hb5.mono (by omega)));clear hb5 kr
      go_wp2_with fail
      exact⟨⟨k+1,by go_num,by omega,HB5.out,HANS.out⟩,by simp[RowKit.intOf];omega⟩
    ·obtain rfl:k=el.kids.length:=by omega
     rw[List.drop_of_length_le (ah _)] at hans;simp only[dS] at hans;subst hans;have i3:decide ((el.kids.length:Int)<(el.kids.length:Int))=false:=an (by omega)
     go_wp2_with fail
     go_ret
     exact⟨rfl,(btt b2 hbe)⟩
theorem me(n:Nat):∀(el:El),ex el≤n→SmE el→∀(d:Nat),d≤20→∀(u:Value) (w:World),bf (fun _=>True) w u el.kids→
  Cr 48 #[.agg (elA el u),.int .i64 (d:Int),.func (.func 50) #[] #[]] w (.bool (eT dw d el)):=by
 induction n with
 |zero=>intro el hd;rw[eu] at hd;omega
 |succ n ih=>
 intro el hd hs d hd20 u w h;obtain⟨a,c,hf⟩:=h.shape;subst hf;obtain⟨sb,sl,sk⟩:=dV hs;have b1:=alb w (Er el a c) 61;have r1:=alz w (Er el a c) 61;have ky:=nb el _ _ (h.below b1);obtain⟨H,IH,HS,HD⟩:=Ci (h.below b1) ih sk hd;clear h ih sk hd hs;rw[mc]
 by_cases h20:20≤d
 ·have g1:decide ((20:Int)≤(d:Int))=true:=aC (by omega)
  rw[if_pos h20];unfold elA
  go_enter Tryz.func48,Tryz.ntmps48
  go_wp2_with fail
  go_ret
  exact⟨rfl,b1⟩
 ·have g1:decide ((20:Int)≤(d:Int))=false:=an (by omega)
  rw[if_neg h20];obtain⟨ANS,hA⟩:=nmm (dw el&&dS dw (d+1) el.kids);rw[hA];have HA0:=hid hA;clear hA;unfold elA at ky⊢
  go_enter Tryz.func48,Tryz.ntmps48
  refine wp_seq ?_;refine aQ ?_;refine aB rfl (kkn ?_);generalize w.alloc (.cells (Er el a c) 61)=w1 at b1 r1 ky H⊢
  go_wp2_with (refine bg rfl 61 (.tmp 3) rfl w.heap.size 61 _ (0,0) (by rfl) r1 _ Tryz.underlying61 rfl (by rfl) ?_)
  refine ag ky ?_;rintro e2 w2 ⟨rfl,hb2⟩;have r2:=bkk hb2 r1;have b2:=btt b1 hb2;have H2:=hid (H.out.below hb2);clear b1 r1 ky H hb2;obtain⟨BP,hp⟩:=nmm (dw el);cases BP with
  |false=>
   have e:ANS=false:=by rw[←HA0.out,hp];rfl
   subst e;rw[hp]
   go_wp2_with fail
   go_ret
   exact⟨rfl,b2⟩
  |true=>
   have hA:dS dw (d+1) el.kids=ANS:=by have:=HA0.out;rw[hp,Bool.true_and] at this;exact this
   have HA:=hid hA;rw[hp];clear hA hp HA0;have q4:=cval r2 4 (.slice a el.kids.length c);clear r2
   go_wp2_with fail
   go_loopw [18] (fun i wr=>∃k:Nat,i=.int .i64 (k:Int)∧k≤el.kids.length∧Below w2.heap.size w2 wr∧dS dw (d+1) (el.kids.drop k)=ANS) (fun i _=>el.kids.length -(RowKit.intOf i).toNat)
   case atStart=>exact⟨0,rfl,Nat.zero_le _,aA _ _,HA.out⟩
   case round=>
    clear q4;obtain⟨k,rfl,hk,hbe,hans⟩:=hrel
    by_cases hkl:k<el.kids.length
    ·obtain⟨e,he⟩:∃e,el.kids[k]?=some e:=⟨el.kids[k],aM hkl⟩
     obtain⟨a',cap',e',_,hsrc⟩:=H2.out.below hbe;cases e';obtain⟨g,o,ha,_,hcells⟩:=hsrc (by intro h0;rw[h0] at hkl;simp at hkl);subst ha;obtain⟨p0,p1,p2,p3,u,p4,hu⟩:=(cE.get el.kids g o k e hcells he).cells;obtain⟨au,cu,hfu⟩:=hu.shape;subst hfu;have hdep:ex e≤n:=by have h1:=eK el.kids k e he;have h2:=eu el;have:=HD.out;omega
     rw[iA he] at hans;simp only[dS] at hans;have i1:(k:Int)<(el.kids.length:Int):=by omega
     have i3:decide ((k:Int)<(el.kids.length:Int))=true:=aC i1;have m1:=alb wr (Er e au cu) 61;have kr:=IH.out e hdep (eV el.kids k e HS.out he) (d+1) (by omega) _ _ (hu.below m1);have b4:=btt hbe m1;have hsz:=hbe.size;have hsm:=m1.size;have HB4:=hid b4;have hdc:((d+1:Nat):Int)=(d:Int)+1:=by omega
     rw[hdc] at kr;clear hdc;clear hsrc hcells he hu b4 m1;cases hv:eT dw (d+1) e with
     |false=>
      rw[hv] at kr hans;rw[Bool.false_and] at hans;subst hans;unfold elA at kr
      go_wp2_with (refine bg rfl 61 (.tmp 8) rfl wr.heap.size 61 _ (0,0) (by rfl) (bC _ _ _ rfl) _ Tryz.underlying61 rfl (by rfl) ?_)
      refine ag kr ?_;rintro e5 w5 ⟨rfl,hb5⟩
      go_wp2_with fail
      go_ret
      exact⟨rfl,b2.trans ((HB4.out.trans (hb5.mono (by omega))).mono b2.size)⟩
     |true=>
      rw[hv] at kr hans;rw[Bool.true_and] at hans;unfold elA at kr;have HANS:=hid hans;clear hans
      go_wp2_with (refine bg rfl 61 (.tmp 8) rfl wr.heap.size 61 _ (0,0) (by rfl) (bC _ _ _ rfl) _ Tryz.underlying61 rfl (by rfl) ?_)
      refine ag kr ?_;rintro e5 w5 ⟨rfl,hb5⟩;have HB5:=hid (HB4.out.trans (hb5.mono (by omega)));clear hb5 kr
      go_wp2_with fail
      exact⟨⟨k+1,by go_num,by omega,HB5.out,HANS.out⟩,by simp[RowKit.intOf];omega⟩
    ·obtain rfl:k=el.kids.length:=by omega
     rw[List.drop_of_length_le (ah _)] at hans;simp only[dS] at hans;subst hans;have i3:decide ((el.kids.length:Int)<(el.kids.length:Int))=false:=an (by omega)
     go_wp2_with fail
     go_ret
     exact⟨rfl,(btt b2 hbe)⟩
theorem CX(n:Nat):∀(el:El),ex el≤n→SmE el→∀(d:Nat),d≤20→∀(u:Value) (w:World),bf (fun _=>True) w u el.kids→
  Cr 51 #[.agg (elA el u),.int .i64 (d:Int)] w (.bool (eW d el)):=by
 induction n with
 |zero=>intro el hd;rw[eu] at hd;omega
 |succ n ih=>
 intro el hd hs d hd20 u w h;obtain⟨a,c,hf⟩:=h.shape;subst hf;obtain⟨sb,sl,sk⟩:=dV hs;have b1:=alb w (Er el a c) 61;have r1:=alz w (Er el a c) 61;obtain⟨H,IH,HS,HD⟩:=Ci (h.below b1) ih sk hd;clear h ih sk hd hs;rw[ro]
 by_cases h20:20≤d
 ·have g1:decide ((20:Int)≤(d:Int))=true:=aC (by omega)
  rw[if_pos h20];unfold elA
  go_enter Tryz.func51,Tryz.ntmps51
  go_wp2_with fail
  go_ret
  exact⟨rfl,b1⟩
 ·have g1:decide ((20:Int)≤(d:Int))=false:=an (by omega)
  rw[if_neg h20];obtain⟨ANS,hA⟩:=nmm (eX (d+1) el.kids);rw[hA];have HA:=hid hA;clear hA;unfold elA
  go_enter Tryz.func51,Tryz.ntmps51
  refine wp_seq ?_;refine aQ ?_;refine aB rfl (kkn ?_);generalize w.alloc (.cells (Er el a c) 61)=w2 at b1 r1 H⊢;have q4:=cval r1 4 (.slice a el.kids.length c);clear r1
  go_wp2_with fail
  go_loopw [12] (fun i wr=>∃k:Nat,i=.int .i64 (k:Int)∧k≤el.kids.length∧Below w2.heap.size w2 wr∧eX (d+1) (el.kids.drop k)=ANS) (fun i _=>el.kids.length -(RowKit.intOf i).toNat)
  case atStart=>exact⟨0,rfl,Nat.zero_le _,aA _ _,HA.out⟩
  case round=>
   clear q4;obtain⟨k,rfl,hk,hbe,hans⟩:=hrel
   by_cases hkl:k<el.kids.length
   ·obtain⟨e,he⟩:∃e,el.kids[k]?=some e:=⟨el.kids[k],aM hkl⟩
    obtain⟨a',cap',e',_,hsrc⟩:=H.out.below hbe;cases e';obtain⟨g,o,ha,_,hcells⟩:=hsrc (by intro h0;rw[h0] at hkl;simp at hkl);subst ha;obtain⟨p0,p1,p2,p3,u,p4,hu⟩:=(cE.get el.kids g o k e hcells he).cells;obtain⟨au,cu,hfu⟩:=hu.shape;subst hfu;have hdep:ex e≤n:=by have h1:=eK el.kids k e he;have h2:=eu el;have:=HD.out;omega
    rw[iA he] at hans;simp only[eX] at hans;have i1:(k:Int)<(el.kids.length:Int):=by omega
    have i3:decide ((k:Int)<(el.kids.length:Int))=true:=aC i1;have m1:=alb wr (Er e au cu) 61;have kr:=IH.out e hdep (eV el.kids k e HS.out he) (d+1) (by omega) _ _ (hu.below m1);have hsz:=hbe.size;have hsm:=m1.size;have HB4:=hid ((btt hbe m1));have hdc:((d+1:Nat):Int)=(d:Int)+1:=by omega
    rw[hdc] at kr;clear hdc;clear hsrc hcells he hu m1;cases hv:eW (d+1) e with
    |true=>
     rw[hv] at kr hans;rw[Bool.true_or] at hans;subst hans;unfold elA at kr
     go_wp2_with (refine bg rfl 61 (.tmp 6) rfl wr.heap.size 61 _ (0,0) (by rfl) (bC _ _ _ rfl) _ Tryz.underlying61 rfl (by rfl) ?_)
     refine ag kr ?_;rintro e5 w5 ⟨rfl,hb5⟩
     go_wp2_with fail
     go_ret
     exact⟨rfl,b1.trans ((HB4.out.trans (hb5.mono (by omega))).mono b1.size)⟩
    |false=>
     rw[hv] at kr hans;rw[Bool.false_or] at hans;unfold elA at kr;have HANS:=hid hans;clear hans
     go_wp2_with (refine bg rfl 61 (.tmp 6) rfl wr.heap.size 61 _ (0,0) (by rfl) (bC _ _ _ rfl) _ Tryz.underlying61 rfl (by rfl) ?_)
     refine ag kr ?_;rintro e5 w5 ⟨rfl,hb5⟩;have HB5:=hid (HB4.out.trans (hb5.mono (by omega)));clear hb5 kr
     go_wp2_with fail
     exact⟨⟨k+1,by go_num,by omega,HB5.out,HANS.out⟩,by simp[RowKit.intOf];omega⟩
   ·obtain rfl:k=el.kids.length:=by omega
    rw[List.drop_of_length_le (ah _)] at hans;simp only[eX] at hans;subst hans;have i3:decide ((el.kids.length:Int)<(el.kids.length:Int))=false:=an (by omega)
    go_wp2_with fail
    go_ret
    exact⟨rfl,(btt b1 hbe)⟩
def jw(N:Nat):Prop:=∀n,n≤N→∀w:World,Calls Tryz.prog 91 #[.int .i64 (n:Int)] w fun e w'=>e=.returned (.string ⟨(cV n).toArray⟩)∧Below w.heap.size w w'
theorem iw(el:El):bK el=min (1+(cV (min (cw el.bytes.length el.kids) 65537)).length+cw el.bytes.length el.kids) 65537:=by
 cases el;simp only[bK,El.bytes,El.kids]
theorem fV(el:El):bK el≤65537:=by rw[iw];omega
theorem jJ:∀(l:List El) (n:Nat),min n 65537≤cw n l
 |[],n=>by simp only[cw];omega
 |e::r,n=>by
  simp only[cw];have:=jJ r (min (n+bK e) 65537)
  omega
theorem gP:∀(l:List El) (n j:Nat) (e:El),l[j]?=some e→bK e≤cw n l
 |[],_,_,_,h=>by simp at h
 |x::r,n,0,e,h=>by
  simp at h;subst h
  simp only[cw];have h1:=jJ r (min (n+bK x) 65537);have h2:=fV x
  omega
 |x::r,n,j+1,e,h=>by
  simp only[cw];exact gP r _ j e (by simpa using h)
theorem jW(n:Nat):1≤(cV n).length∧(cV n).length≤4:=by
 unfold cV
 split
 ·simp
 ·split
  ·simp
  ·split<;>simp
theorem ix(el:El):min (cw el.bytes.length el.kids) 65537≤bK el:=by
 rw[iw];omega
theorem jK(N:Nat)(hN:jw N)(n:Nat):∀(el:El),ex el≤n→SmE el→bK el≤N→∀(u:Value) (w:World),bf (fun _=>True) w u el.kids→
  Cr 52 #[.agg (elA el u)] w (.int .i64 (bK el:Int)):=by
 induction n with
 |zero=>intro el hd;rw[eu] at hd;omega
 |succ n ih=>
 intro el hd hs hz u w h;obtain⟨a,c,hf⟩:=h.shape;subst hf;obtain⟨sb,sl,sk⟩:=dV hs;have b1:=alb w (Er el a c) 61;have r1:=alz w (Er el a c) 61;obtain⟨H,IH,HS,HD,HN⟩:=Cj (h.below b1) ih sk hd hN;have hzk:=ix el;have HKS:=hid (fun(j:Nat) (e:El) (he:el.kids[j]?=some e)=>(show bK e≤N from by
  have h1:=gP el.kids el.bytes.length j e he;have h2:=fV e
  omega))
 clear h ih sk hd hs;obtain⟨ANS,hA⟩:=nmm (cw el.bytes.length el.kids);have hres:bK el=min (1+(cV (min ANS 65537)).length+ANS) 65537:=by rw[iw,hA]
 rw[hA] at hzk;have klen:=HN.out (min ANS 65537) (by omega);obtain⟨L,hL⟩:=nmm (cV (min ANS 65537));have hL4:=jW (min ANS 65537);rw[hL] at hres klen hL4;generalize hR:bK el=R;rw[hR] at hres;obtain⟨HA,HRES⟩:=Cg hA hres;clear hA hL hres hR hz hzk;unfold elA
 go_enter Tryz.func52,Tryz.ntmps52
 refine wp_seq ?_;refine aQ ?_;refine aB rfl (kkn ?_);generalize w.alloc (.cells (Er el a c) 61)=w2 at b1 r1 H⊢;have q4:=cval r1 4 (.slice a el.kids.length c);have q3:=cval r1 3 (.string ⟨el.bytes.toArray⟩);clear r1
 go_wp2_with fail
 go_loopw [3,12] (fun v i wr=>∃k m:Nat,i=.int .i64 (k:Int)∧v=.int .i64 (m:Int)∧m≤1000000000∧k≤el.kids.length∧Below w2.heap.size w2 wr∧cw m (el.kids.drop k)=ANS) (fun _ i _=>el.kids.length -(RowKit.intOf i).toNat)
 case atStart=>exact⟨0,el.bytes.length,rfl,rfl,sb,Nat.zero_le _,aA _ _,HA.out⟩
 case round=>
  clear q4 q3;obtain⟨k,m,rfl,rfl,hm,hk,hbe,hans⟩:=hrel
  by_cases hkl:k<el.kids.length
  ·obtain⟨e,he⟩:∃e,el.kids[k]?=some e:=⟨el.kids[k],aM hkl⟩
   obtain⟨a',cap',e',_,hsrc⟩:=H.out.below hbe;cases e';obtain⟨g,o,ha,_,hcells⟩:=hsrc (by intro h0;rw[h0] at hkl;simp at hkl);subst ha;obtain⟨p0,p1,p2,p3,u,p4,hu⟩:=(cE.get el.kids g o k e hcells he).cells;obtain⟨au,cu,hfu⟩:=hu.shape;subst hfu;have hdep:ex e≤n:=by have h1:=eK el.kids k e he;have h2:=eu el;have:=HD.out;omega
   rw[iA he] at hans;simp only[cw] at hans;have i1:(k:Int)<(el.kids.length:Int):=by omega
   have i3:decide ((k:Int)<(el.kids.length:Int))=true:=aC i1;have m1:=alb wr (Er e au cu) 61;have kr:=IH.out e hdep (eV el.kids k e HS.out he) (HKS.out k e he) _ _ (hu.below m1);have hsz:=hbe.size;have hsm:=m1.size;have HB4:=hid ((btt hbe m1));have hse:=fV e;obtain⟨z,hzz⟩:=nmm (bK e);rw[hzz] at kr hans hse;have HANS:=hid hans;have hw1:IntKind.i64.wrap ((m:Int)+(z:Int))=(m:Int)+(z:Int):=by rw[aK];omega
   clear hsrc hcells he hu m1 hzz hans;unfold elA at kr
   go_wp2_with (refine bg rfl 61 (.tmp 5) rfl wr.heap.size 61 _ (0,0) (by rfl) (bC _ _ _ rfl) _ Tryz.underlying61 rfl (by rfl) ?_)
   refine ag kr ?_;rintro e5 w5 ⟨rfl,hb5⟩;have HB5:=hid (HB4.out.trans (hb5.mono (by omega)));clear hb5 kr
   go_wp2_with fail
   exact⟨⟨k+1,min (m+z) 65537,by go_num,by rw[show(min ((m:Int)+(z:Int)) 65537)=((min (m+z) 65537:Nat):Int) by omega],by omega,by omega,HB5.out,HANS.out⟩,by simp[RowKit.intOf];omega⟩
  ·obtain rfl:k=el.kids.length:=by omega
   rw[List.drop_of_length_le (ah _)] at hans;simp only[cw] at hans;subst hans;have hmin:((min m 65537:Nat):Int)=min (m:Int) 65537:=by omega
   rw[hmin] at klen;clear hmin;have kl:=klen wr;clear klen;have i3:decide ((el.kids.length:Int)<(el.kids.length:Int))=false:=an (by omega)
   go_wp2_with fail
   refine ag kl ?_;rintro e5 w5 ⟨rfl,hb5⟩;obtain⟨q,hq⟩:=nmm L.length;have hres:=HRES.out;rw[hq] at hL4 hres;have hw1:IntKind.i64.wrap (1+(q:Int))=1+(q:Int):=by rw[aK];omega
   have hw2:IntKind.i64.wrap (1+(q:Int)+(m:Int))=1+(q:Int)+(m:Int):=by rw[aK];omega
   have hfin:(min (1+(q:Int)+(m:Int)) 65537)=(R:Int):=by omega
   have HF:=hid hfin;have b5:=b1.trans (((btt hbe hb5)).mono b1.size);clear hres hfin kl hb5
   go_wp2_with fail
   go_ret
   exact⟨by rw[HF.out];rfl,b5⟩
theorem Tryz.wBuilder:(Tryz.prog.info? 79).map (fun i=>decide (i.size≠0))=some true:=by kernel_rfl
theorem Tryz.wLies:liesAt Tryz.prog Tryz.prog.depth 79 (2/Tryz.prog.cellsOf 79) 0 79 1=true:=by kernel_rfl
theorem Tryz.infoByte:(Tryz.prog.info? 5).map (fun i=>(i.zero,i.size,i.bytes))=some (some (.int .u8 0),1,1):=by kernel_rfl
theorem Tryz.cellsByte:Tryz.prog.cellsOf 5=1:=by kernel_rfl
theorem tG(b:Nat)(w:World)(h0:w.cell? ⟨b,0,none⟩=some (.pointer (some ⟨b,0,none⟩))):
  Calls Tryz.prog 142 #[.pointer (some ⟨b,0,none⟩)] w fun e w'=>e=.returned (.tuple #[])∧w'=w:=by
 obtain⟨j,hj,_⟩:=aV.1 Tryz.wBuilder
 go_enter Tryz.func142,Tryz.ntmps142
 go_wp2
 rw[Lib.run_neq_ptr_same w _ Tryz.underlying76 hj]
 go_wp2
 go_end0
 exact⟨rfl,rfl⟩
theorem sM(b:Nat)(w:World)(h0:w.cell? ⟨b,0,none⟩=some (.pointer none))(hsh:w.shape? b=some (79,2))(hfz:w.frozen? ⟨b,0,none⟩=false):
  Calls Tryz.prog 142 #[.pointer (some ⟨b,0,none⟩)] w fun e w'=>e=.returned (.tuple #[])∧w'=w.setCell ⟨b,0,none⟩ (.pointer (some ⟨b,0,none⟩)):=by
 obtain⟨j,hj,hjs⟩:=aV.1 Tryz.wBuilder;have hjs2:=of_decide_eq_true hjs;have r1:=Lib.run_to_unsafe (P:=Tryz.prog) w ⟨b,0,none⟩ Tryz.underlying76 Tryz.underlying185 hj hjs2 hsh (Nat.zero_lt_succ 1);have r2:=Lib.run_from_unsafe (P:=Tryz.prog) w ⟨b,0,none⟩ Tryz.underlying185 Tryz.underlying76 hj hsh Tryz.wLies;clear hjs hjs2
 go_enter Tryz.func142,Tryz.ntmps142
 go_wp2
 rw[run_callFunc_extern Tryz.func157 (by kernel_rfl) (by kernel_rfl) (by kernel_rfl) (e:=Extern.AbiNoEscape.same) (by kernel_rfl)];rw[Lib.run_noEscape];simp only[Result.andThen];rw[Oper.upon_value]
 go_wp2
 go_end0
 exact⟨rfl,rfl⟩
def WAt(B b:Nat)(p:Value)(l:List UInt8)(w:World):Prop:=Lib.BuilderAt 79 5 B b p (bV l) w
def IsW(B b:Nat)(l:List UInt8)(w:World):Prop:=Lib.IsBuilder 79 5 B b (bV l) w
def dE(b:Nat)(w w':World):Prop:=w.heap.size≤w'.heap.size∧∀(j:Nat) (cs:Array Value) (t:TypeId) (fz:Nat×Nat),w.heap[j]?=some (.cells cs t fz)→j≠b→t≠5→w'.heap[j]?=some (.cells cs t fz)
theorem dE.refl(b:Nat)(w:World):dE b w w:=⟨ah _,fun _ _ _ _ h _ _=>h⟩
theorem dE.trans{b:Nat}{x y z:World}(h:dE b x y)(k:dE b y z):dE b x z:=⟨Nat.le_trans h.1 k.1,fun j cs t fz hj hne ht=>k.2 j cs t fz (h.2 j cs t fz hj hne ht) hne ht⟩
theorem dE.of_below{b:Nat}{w w':World}(h:Below w.heap.size w w'):dE b w w':=⟨h.size,fun j _ _ _ hj _ _=>(h.block j (gl hj)).trans hj⟩
theorem dE.set{b:Nat}{x w:World}(h:dE b x w)(i:Nat)(v:Value):dE b x (w.setCell ⟨b,i,none⟩ v):=
 ⟨by simpa using h.1,fun j cs t fz hj hne ht=>(heap_setCell_other w ⟨b,i,none⟩ j v hne).trans (h.2 j cs t fz hj hne ht)⟩
theorem dE.alloc{b:Nat}{x w:World}(h:dE b x w)(o:Obj):dE b x (w.alloc o):=h.trans (dE.of_below ((aA _ _).alloc (ah _) o))
theorem dE.grown{b B n:Nat}{x w w':World}{v:Value}{xs:List Value}(h:dE b x w)(ho:w.ownsRow B 5 1 v n xs)(hg:w.grownBy w' v.ownBlock):dE b x w':=by
 refine⟨Nat.le_trans h.1 hg.size,fun j cs t fz hj hne ht=>?_⟩;have h1:=h.2 j cs t fz hj hne ht;rw[hg.block j (gl h1) ?_]
 ·exact h1
 ·intro e
  rcases ho.2 with⟨hv,_⟩|⟨g,cap,cur,hv,_,hh,_⟩
  ·rw[hv] at e;cases e
  ·rw[hv] at e
   have e2:j=g:=aD e;subst e2;rw[hh] at h1;cases h1;exact ht rfl
theorem jD(B b:Nat)(l:List UInt8)(w:World)(h:IsW B b l w):
  Calls Tryz.prog 142 #[.pointer (some ⟨b,0,none⟩)] w fun e w'=>e=.returned (.tuple #[])∧(WAt B b (.pointer (some ⟨b,0,none⟩)) l w'∧Below B w w'∧dE b w w'):=by
 rcases h with h|h
 ·refine(sM b w h.cell0 h.shape h.frozen0).mono ?_
  rintro e w' ⟨rfl,rfl⟩;exact⟨rfl,h.used _,(aA B w).setCell (p:=⟨b,0,none⟩) h.1 _,(dE.refl b w).set 0 _⟩
 ·refine(tG b w h.cell0).mono ?_
  rintro e w' ⟨rfl,rfl⟩;exact⟨rfl,h,aA B _,dE.refl b _⟩
theorem jE(B b:Nat)(l:List UInt8)(c:UInt8)(w:World)(h:IsW B b l w)(hlen:l.length≤1099511627776)(hBw:B≤w.heap.size):
  Calls Tryz.prog 92 #[.pointer (some ⟨b,0,none⟩),.int .u8 (c.toNat:Int)] w fun e w'=>e=.returned .nilIface∧(IsW B b (l++[c]) w'∧Below B w w'∧dE b w w'):=by
 obtain⟨i0,hi,hz0,hz1,hz2⟩:=info_parts Tryz.infoByte;have k1:=jD B b l w h;clear h
 go_enter Tryz.func92,Tryz.ntmps92
 go_wp2_with (go_at_call 142;refine k1.mono ?_)
 rintro e w1 ⟨rfl,h1,hb1,hkw1⟩;obtain⟨hB,v,hbk,hown,hne⟩:=h1;rw[fD] at hown;have c0:w1.cell? ⟨b,0,none⟩=some (.pointer (some ⟨b,0,none⟩)):=by rw[aq hbk];rfl
 have c1:w1.cell? ⟨b,1,none⟩=some v:=by rw[aq hbk];rfl
 go_wp2_with (at_builtin;refine wpList_append_own _ rfl _ _ 77 rfl B 5 i0 (.int .u8 0) 1 1 Tryz.underlying77 hi hz0 hz1 hz2 rfl (by decide) _ _ _ rfl (hown.alloc _) ⟨w1.heap.size,0,none⟩ 1 1 [.int .u8 c.toNat] rfl rfl (cell_one_new _ _ _) ?c2 ?c3 ?c4 ?c5 ?_)
 case c2=>intro u hu;simp at hu;subst hu;rfl
 case c3=>unfold maxLen;omega
 case c4=>omega
 case c5=>have:=hb1.size;simp;omega
 intro v' w2 hown' hgrow _;have hlt:b<w1.heap.size:=by
  rcases Nat.lt_or_ge b w1.heap.size with h'|h'
  ·exact h'
  ·simp[Array.getElem?_eq_none h'] at hbk
 have hb2:w2.heap[b]?=some (.cells #[.pointer (some ⟨b,0,none⟩),v] 79 (0,0)):=by
  rw[hgrow.block b (by simp;omega) (fun e=>hne e.symm),alloc_old w1 _ b hlt];exact hbk
 have d0:w2.cell? ⟨b,0,none⟩=some (.pointer (some ⟨b,0,none⟩)):=by rw[aq hb2];rfl
 have d1:w2.cell? ⟨b,1,none⟩=some v:=by rw[aq hb2];rfl
 have f1:w2.frozen? ⟨b,1,none⟩=false:=aj hb2 1;obtain⟨g,cap,rfl⟩:∃g cap,v'=.slice (some ⟨g,0,none⟩) (l.length+1) cap:=by
  rcases hown'.2 with⟨_,h0⟩|⟨g,cap,cur,hv,_⟩
  ·omega
  ·exact⟨g,cap,hv⟩
 go_wp2
 go_ret
 refine⟨rfl,.inr ?_,?_,((hkw1.alloc _).grown (hown.alloc _) hgrow).set 1 _⟩
 ·rw[kU]
  exact Lib.BuilderAt.put (T:=79) (e:=5) hB hb2 (bs':=bV l++[.int .u8 c.toNat]) (by simpa[fD] using hown') (by decide)
 ·exact((hb1.alloc (by have:=hb1.size;omega) _).grown hgrow (by have:=hb1.size;simp;omega) (fun k hk=>(hown.lt k hk).1)).setCell (p:=⟨b,1,none⟩) hB _
theorem fk(B b:Nat)(l s:List UInt8)(w:World)(h:IsW B b l w)(hlen:l.length≤1099511627776)(hs:s.length≤8796093022208)(hBw:B≤w.heap.size):
  Calls Tryz.prog 85 #[.pointer (some ⟨b,0,none⟩),.string ⟨s.toArray⟩] w fun e w'=>e=.returned (.tuple #[.int .i64 s.length,.nilIface])∧(IsW B b (l++s) w'∧Below B w w'∧dE b w w'):=by
 obtain⟨i0,hi,hz0,hz1,hz2⟩:=info_parts Tryz.infoByte;have k1:=jD B b l w h;clear h;have hs2:(⟨s.toArray⟩:ByteArray).size=s.length:=Lib.size_mk _
 go_enter Tryz.func85,Tryz.ntmps85
 go_wp2_with (go_at_call 142;refine k1.mono ?_)
 rintro e w1 ⟨rfl,h1,hb1,hkw1⟩;obtain⟨hB,v,hbk,hown,hne⟩:=h1;rw[fD] at hown;have c0:w1.cell? ⟨b,0,none⟩=some (.pointer (some ⟨b,0,none⟩)):=by rw[aq hbk];rfl
 have c1:w1.cell? ⟨b,1,none⟩=some v:=by rw[aq hbk];rfl
 go_wp2_with (at_builtin;refine Lib.wpList_append_own_string _ rfl _ _ 77 9 rfl B 5 i0 Tryz.underlying77 Tryz.underlying9 hi hz0 hz1 hz2 _ _ _ rfl hown ⟨s.toArray⟩ rfl ?c3 ?c4 ?c5 ?_)
 case c3=>unfold maxLen;omega
 case c4=>omega
 case c5=>have:=hb1.size;omega
 intro v' w2 hown' hgrow _;have hlt:b<w1.heap.size:=by
  rcases Nat.lt_or_ge b w1.heap.size with h'|h'
  ·exact h'
  ·simp[Array.getElem?_eq_none h'] at hbk
 have hb2:w2.heap[b]?=some (.cells #[.pointer (some ⟨b,0,none⟩),v] 79 (0,0)):=by
  rw[hgrow.block b hlt (fun e=>hne e.symm)];exact hbk
 have d0:w2.cell? ⟨b,0,none⟩=some (.pointer (some ⟨b,0,none⟩)):=by rw[aq hb2];rfl
 have d1:w2.cell? ⟨b,1,none⟩=some v:=by rw[aq hb2];rfl
 have f1:w2.frozen? ⟨b,1,none⟩=false:=aj hb2 1;obtain⟨ao,n',cap,rfl⟩:∃ao n' cap,v'=.slice ao n' cap:=by
  rcases hown'.2 with⟨hv,_⟩|⟨g,cap,cur,hv,_⟩
  ·exact⟨_,_,_,hv⟩
  ·exact⟨_,_,_,hv⟩
 go_wp2
 go_ret2
 refine⟨rfl,.inr ?_,?_,(hkw1.grown hown hgrow).set 1 _⟩
 ·rw[kU]
  exact Lib.BuilderAt.put (T:=79) (e:=5) hB hb2 (bs':=bV l++bV s) (by simpa[fD,mY] using hown') (by decide)
 ·exact(hb1.grown hgrow (by have:=hb1.size;omega) (fun k hk=>(hown.lt k hk).1)).setCell (p:=⟨b,1,none⟩) hB _
theorem rs(B b:Nat)(l:List UInt8)(w:World)(h:IsW B b l w)(h0:l≠[]):
  Calls Tryz.prog 41 #[.pointer (some ⟨b,0,none⟩)] w fun e w'=>e=.returned (.string ⟨l.toArray⟩)∧Below B w w':=by
 obtain⟨p,hB,v,hbk,hown,hne⟩:∃p,WAt B b p l w:=by
  rcases h with h|h
  ·exact⟨_,h⟩
  ·exact⟨_,h⟩
 have hl0:l.length≠0:=by simpa using h0
 rw[fD] at hown;obtain⟨g,cap,cur,rfl,hbg,hg,hnc,hcm,hcs,htake⟩:∃g cap cur,v=.slice (some ⟨g,0,none⟩) l.length cap∧B≤g∧w.heap[g]?=some (.cells cur 5 (0,0))∧l.length≤cap∧cap≤maxLen∧cur.size=cap*1∧cur.toList.take (l.length*1)=bV l:=by
  rcases hown.2 with⟨_,hz⟩|⟨g,cap,cur,hv,r⟩
  ·exact absurd hz hl0
  ·exact⟨g,cap,cur,hv,r⟩
 have c1:w.drew.cell? ⟨b,1,none⟩=some (.slice (some ⟨g,0,none⟩) l.length cap):=by
  have:w.drew.heap[b]?=some (.cells #[p,.slice (some ⟨g,0,none⟩) l.length cap] 79 (0,0)):=hbk;rw[aq this];rfl
 have hSD:(Builtin.unsafeSliceData_ #[77] 117 #[.slice (some ⟨g,0,none⟩) l.length cap]).run Tryz.prog w.drew=.ok (.pointer (some ⟨g,0,none⟩)) w.drew:=
  Lib.run_unsafeSliceData_row _ _ _ _ _ _ (by omega)
 have hUS:(Builtin.unsafeString_ #[117,3] 9 #[.pointer (some ⟨g,0,none⟩),.int .i64 l.length]).run Tryz.prog w.drew=.ok (.string ⟨l.toArray⟩) (w.drew.freeze ⟨g,0,none⟩ l.length):=by
  refine Lib.run_unsafeString_row w.drew 117 3 9 5 Tryz.underlying117 Tryz.cellsByte g cur.size (by have hg':w.drew.heap[g]?=some (.cells cur 5 (0,0)):=hg;simp[World.shape?,hg']) l h0 (by omega) (by unfold maxLen at hcm;omega) ?_;intro j x hx;exact hown.cells (g:=g) rfl j (.int .u8 x.toNat) (by simp[bV,hx])
 clear htake hcs hg h
 go_enter Tryz.func41,Tryz.ntmps41
 go_wp2
 go_region
 all_goals (go_wp2;go_ret;exact⟨rfl,Lib.below_freeze (Below.drew (aA B w)) (p:=⟨g,0,none⟩) hbg _⟩)
end Go.Proofs.YthpcpdplcicfoaaGreatDoor
