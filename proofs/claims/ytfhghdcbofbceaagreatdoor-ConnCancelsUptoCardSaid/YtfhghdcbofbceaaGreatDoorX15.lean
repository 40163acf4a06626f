/- ReG, PlainBk, ReH. -/
import Derived.Test.YtfhghdcbofbceaaGreatDoorX14
namespace Go.Proofs.YtfhghdcbofbceaaGreatDoor
open Go.RowKit Go.Lib
set_option maxRecDepth 100000
set_option maxHeartbeats 16000000
theorem ik{a b c:World}{o o':Option Nat}(h:a.grownBy b o)(k:b.grownBy c o')(ho:∀g,o'=some g→o=some g∨a.heap.size≤g):a.grownBy c o:=
 ⟨k.os.trans h.os,k.tape.trans h.tape,k.output.trans h.output,Nat.le_trans h.size k.size,fun j hj hne=>(k.block j (by have:=h.size;omega) fun he=>by
  rcases ho j he.symm with h1|h1
  ·exact hne h1.symm
  ·omega).trans (h.block j hj hne)⟩
theorem cO{a b:World}{o:Option Nat}(h:Bw a b):a.grownBy b o:=⟨h.os,h.tape,h.output,h.size,fun j hj _=>h.block j hj⟩
theorem rK{w w':World}{g:Nat}{x:Obj}{o:Option Nat}(h:w.grownBy w' o)(hx:w.heap[g]?=some x)(ho:o≠some g):w'.heap[g]?=some x:=(h.block g (gl hx) (Ne.symm ho)).trans hx
def ep{α:Type}(kd:Kd α)(t:TypeId)(B:Nat)(N:Nat→Prop)(w:World)(v:Value)(l:List α):Prop:=
 ∃cs:List (List Value),cs.length=l.length∧w.ownsRow B t kd.K v l.length cs.flatten∧∀(j:Nat) (x:α) (c:List Value),l[j]?=some x→cs[j]?=some c→kd.R (fun g=>N g∧v.ownBlock≠some g) w x c
theorem ep.own{α:Type}{kd:Kd α}{t:TypeId}{B:Nat}{w:World}{v:Value}{l:List α}(h:ep kd t B (fun g=>B≤g) w v l):dt kd t B w v l:=h
theorem ep.nil{α:Type}(kd:Kd α)(t:TypeId)(B:Nat)(N:Nat→Prop)(w:World):ep kd t B N w (Sn) []:=⟨[],rfl,⟨by simp,.inl ⟨rfl,rfl⟩⟩,fun j e u h=>by simp at h⟩
theorem ep.shape{α:Type}{kd:Kd α}{t:TypeId}{B:Nat}{N:Nat→Prop}{w:World}{v:Value}{l:List α}(h:ep kd t B N w v l):∃a c,v=.slice a l.length c:=by
 obtain⟨cs,_,ho,_⟩:=h;exact gf ho
theorem ep.lt{α:Type}{kd:Kd α}{t:TypeId}{B:Nat}{N:Nat→Prop}{w:World}{v:Value}{l:List α}(h:ep kd t B N w v l){g:Nat}(hg:v.ownBlock=some g):B≤g∧g<w.heap.size:=by
 obtain⟨cs,_,ho,_⟩:=h;exact ho.lt g hg
theorem ep.keep{α:Type}{kd:Kd α}{t:TypeId}{B:Nat}{N M:Nat→Prop}{w w':World}{v:Value}{l:List α}(h:ep kd t B N w v l)(hk:∀j,N j→j<w.heap.size→w'.heap[j]?=w.heap[j]?∧M j)(ho':∀g,v.ownBlock=some g→w'.heap[g]?=w.heap[g]?):ep kd t B M w' v l:=by
 obtain⟨cs,hu,ho,hkk⟩:=h;refine⟨cs,hu,⟨ho.1,?_⟩,fun j e u q1 q2=>kd.kept (hkk j e u q1 q2) fun g hg hl=>⟨(hk g hg.1 hl).1,(hk g hg.1 hl).2,hg.2⟩⟩;rcases ho.2 with h0|⟨g,cap,cur,hv,hb,hg,rest⟩
 ·exact .inl h0
 ·exact .inr ⟨g,cap,cur,hv,hb,(ho' g (by rw[hv];rfl)).trans hg,rest⟩
theorem ep.below{α:Type}{kd:Kd α}{t:TypeId}{B:Nat}{N:Nat→Prop}{w w':World}{v:Value}{l:List α}(h:ep kd t B N w v l)(hb:Bw w w'):ep kd t B N w' v l:=
 h.keep (fun j hj hl=>⟨hb.block j hl,hj⟩) fun g hg=>hb.block g (h.lt hg).2
theorem ep.more{α:Type}{kd:Kd α}{t:TypeId}{B H g cap:Nat}{N:Nat→Prop}{w w':World}{v:Value}{cs:List (List Value)}{l:List α}{e:α}{c:List Value}(hu:cs.length=l.length)
  (hk:∀(j:Nat) (x:α) (c:List Value),l[j]?=some x→cs[j]?=some c→kd.R (fun g=>N g∧v.ownBlock≠some g) w x c) (hke:kd.R (fun g=>N g∧v.ownBlock≠some g) w e c)
  (ho:w'.ownsRow B t kd.K (.slice (some ⟨g,0,none⟩) (l.length+1) cap) (l.length+1) (cs.flatten++c))
  (hg:w.grownBy w' v.ownBlock) (hat:v.ownBlock=some g∨g=H) (hH:w.heap.size=H):ep kd t B N w' (.slice (some ⟨g,0,none⟩) (l.length+1) cap) (l++[e]):=by
 have hkeep:∀(x:α) (c:List Value),kd.R (fun g=>N g∧v.ownBlock≠some g) w x c→kd.R (fun g'=>N g'∧(.slice (some ⟨g,0,none⟩) (l.length+1) cap:Value).ownBlock≠some g') w' x c:=by
  intro x c q;refine kd.kept q fun g' hg' hl'=>⟨hg.block g' hl' (fun h=>hg'.2 h.symm),hg'.1,fun h=>?_⟩
  have hgg:g=g':=by simpa[Value.ownBlock] using h
  rcases hat with h1|h1
  ·exact hg'.2 (hgg▸h1)
  ·omega
 have hlen:(l++[e]).length=l.length+1:=by simp
 refine⟨cs++[c],by simp[hu],?_,fun j x y q1 q2=>?_⟩
 ·rw[hlen,List.flatten_append,List.flatten_cons,List.flatten_nil,List.append_nil]
  exact ho
 ·by_cases hj:j<l.length
  ·rw[List.getElem?_append_left hj] at q1
   rw[List.getElem?_append_left (by omega)] at q2;exact hkeep _ _ (hk j x y q1 q2)
  ·have hj':j=l.length:=by
    have:=(List.getElem?_eq_some_iff.1 q1).1
    simp at this
    omega
   subst hj';rw[List.getElem?_append_right (ah _)] at q1;rw[List.getElem?_append_right (by omega)] at q2
   simp[hu] at q1 q2
   subst q1;subst q2;exact hkeep _ _ hke
theorem gd{w:World}{ops:Array Oper}{rest:List Oper}{o:Oper}{a:Act}{Q:Exit→Act→World→Prop}(hgd:o.guard=none)(s x:Operand)(ho:o.op=.call {callee:=.builtin .append,args:=#[s,x],argTypes:=#[26,26]})
  (B:Nat) (N:Nat→Prop) (v:Value) (l:List Fl) (hs:a.eval s=v) (hown:ep kdF 141 B N w v l) (e:Fl) (c:List Value) (b:Nat) (hx:a.eval x=.slice (some ⟨b,0,none⟩) 1 1) (hb:Hc w b c.toArray 141)
  (hke:kdF.R (fun g=>N g∧v.ownBlock≠some g) w e c) (hl:l.length≤1000000000) (hB:B≤w.heap.size)
  (h:∀a' c' w',ep kdF 141 B N w' (.slice a' (l.length+1) c') (l++[e])→w.grownBy w' v.ownBlock→(∀g,(Value.slice a' (l.length+1) c').ownBlock=some g→v.ownBlock=some g∨w.heap.size≤g)→wpList Tryz.prog ops Q rest (a.put o.dst (.slice a' (l.length+1) c')) w'):wpList Tryz.prog ops Q (o::rest) a w:=by
 obtain⟨i0,hi0,hz0,hz1,hz2⟩:=info_parts Tryz.info5F;refine aB hgd fun K hK=>?_
 obtain⟨cs,hu,hown',hk⟩:=hown;refine wp_append_lies w s x 26 ho B 141 i0 _ 7 104 Tryz.underlying26 hi0 hz0 hz1 hz2 rfl (by decide) v l.length cs.flatten hs hown' ⟨b,0,none⟩ 1 1 c hx (by rw[kdF.len hke];rfl) (World.news_of_block hb) (kdF.one hke) (by decide) (by unfold maxLen;omega) (by omega) hB _ rfl ?_;intro g cap w' q1 q2 q3 _;refine hK _ _ (h _ _ _ (ep.more hu hk hke q1 q2 q3 rfl) q2 fun g' hg'=>?_);have hgg:g=g':=by simpa[Value.ownBlock] using hg'
 subst hgg;rcases q3 with h1|h1
 ·exact .inl h1
 ·exact .inr (by omega)
mutual
def ed:El→Nat
 | .mk _ _ _ _ ks=>1+dL ks
def dL:List El→Nat
 |[]=>0
 |e::r=>ed e+dL r
end
def jd(el:El):Prop:=∀(u:Value) (B:Nat) (N:Nat→Prop) (v:Value) (f:List Fl) (w:World),bf (fun _=>True) w u el.kids→SmE el→ep kdF 141 B N w v f→B≤w.heap.size→(∀g,w.heap.size≤g→N g)→f.length+ed el≤1000000000→
 Calls Tryz.prog 153 #[.agg (elA el u),v] w fun e w'=>Out (eD el) (fun y v' w'=>ep kdF 141 B N w' v' (f++y)∧y.length≤ed el∧∀g,v'.ownBlock=some g→v.ownBlock=some g∨w.heap.size≤g) e w'∧w.grownBy w' v.ownBlock
theorem oY{el:El}(h:¬(el.tag=0∨el.tag=1∨el.tag=2))(h7:el.tag≠7)(h4:el.tag≠4):eD el=(ci el 2 el.tag).bind fun r=>(cg r).bind fun a=>(cg a.2).bind fun v=>bN [⟨el.tag,0,a.1,v.1,[],[],[]⟩] v.2:=by
 cases el with
 |mk c t k b ks=>
  simp only[El.tag] at h h7 h4⊢;simp only[eD,h,h7,h4,if_false]
theorem qk{el:El}(h4:el.tag=4):eD el=(ci el 2 4).bind fun r=>(cg r).bind fun a=>(bS (fun e=>ci e 0 16) a.2).bind fun p=>(fe p.1).bind fun x=>bN [⟨4,0,a.1,[],x.1,x.2.2,x.2.1⟩] p.2:=by
 cases el with
 |mk c t k b ks=>
  simp only[El.tag] at h4;subst h4
  rfl
theorem oZ{el:El}(h7:el.tag=7):eD el=(dK el 2 7).map fun s=>[⟨7,0,s,[],[],[],[]⟩]:=by
 cases el with
 |mk c t k b ks=>
  simp only[El.tag] at h7;subst h7
  rfl
theorem rL{el:El}(h:el.tag=0∨el.tag=1∨el.tag=2):eD el=(ci el 2 el.tag).bind fun ks=>(en ks).map fun f=>⟨el.tag,ks.length,[],[],[],[],[]⟩::f:=by
 cases el with
 |mk c t k b ks=>
  simp only[El.tag] at h⊢;simp only[eD,h,if_true,ci,El.kids]
  split<;>rfl
theorem iG(el:El):1≤ed el:=by
 cases el with
 |mk c t k b ks=>simp only[ed];omega
theorem qm(el:El)(h2:¬(el.tag=0∨el.tag=1∨el.tag=2))(h7:el.tag≠7)(h4:el.tag≠4):jd el:=by
 intro u B N v f w h hs hown hB hN hlen;have hcp:=iG el;obtain⟨a,c,hf⟩:=h.shape;subst hf;obtain⟨av,cv,hsh⟩:=hown.shape;subst hsh;have b1:Bw w ((w.alloc (.cells (Er el a c) 40)).alloc (.cells #[.int .i64 el.tag,I0,Es,Es,Es,Es,Sn] 141)):=((aA _ _).alloc (ah _) _).alloc (by simp) _;have r1:Hc ((w.alloc (.cells (Er el a c) 40)).alloc (.cells #[.int .i64 el.tag,I0,Es,Es,Es,Es,Sn] 141)) w.heap.size (Er el a c) 40:=(alloc_old _ _ _ (by simp)).trans (fb _ _ _ rfl);have g1:Hc ((w.alloc (.cells (Er el a c) 40)).alloc (.cells #[.int .i64 el.tag,I0,Es,Es,Es,Es,Sn] 141)) (w.heap.size+1) #[.int .i64 el.tag,I0,Es,Es,Es,Es,Sn] 141:=fb _ _ _ (by simp);have kc:=dk el _ 2 el.tag ((w.alloc (.cells (Er el a c) 40)).alloc (.cells #[.int .i64 el.tag,I0,Es,Es,Es,Es,Sn] 141)) (h.below b1) hs;generalize hO:eD el=O;rw[oY h2 h7 h4] at hO
 try simp only[bS] at hO
 obtain⟨HO,HW,HN⟩:=Ch hO hown hN;have hlf:f.length≤1000000000:=by omega
 unfold elA at kc⊢;clear h hs hO hown hN;have i0:(el.tag==0)=false:=aE (by omega);have i1:(el.tag==1)=false:=aE (by omega);have i2:(el.tag==2)=false:=aE (by omega);have i4:(el.tag==4)=false:=aE h4;have i7:(el.tag==7)=false:=aE h7;clear h2 h7 h4
 go_enter Tryz.func153,Tryz.ntmps153
 go_upto_region 2 with fail
 generalize((w.alloc (.cells (Er el a c) 40)).alloc (.cells #[.int .i64 el.tag,I0,Es,Es,Es,Es,Sn] 141))=w1 at b1 r1 g1 kc⊢;have hg1:=(gl g1);have qt:=cval r1 1 (.int .i64 el.tag)
 go_wp2_with (refine ldE (.tmp 2) r1 rfl ?_)
 refine ag kc ?_;rintro x w2 ⟨ho,hb⟩;have b2:=btt b1 hb;have g2:=bk hb g1;have hs12:=hb.size;clear kc hb r1 g1 b1 qt;replace HO:=HO.out;generalize ci el 2 el.tag=E at ho HO;rcases E with _|ks
 ·obtain⟨rfl,rfl⟩:x=Pn∧none=O:=⟨ho,HO⟩
  exact⟨rfl,rfl,cO b2⟩
 obtain⟨v,rfl,b,rfl,hbge,hrow⟩:=ho
 try simp only[ai] at HO
 replace HO:=hid HO;have kc:=cQ _ b ks w2 hrow
 go_wp2_with fail
 refine ag kc ?_;rintro x w3 ⟨ho,hb⟩;have b3:=b2.trans (hb.below1 (B:=w.heap.size) (by omega) b2.size);have g3:=hb.at g2 (by simp;omega);have hs23:=hb.size;clear kc hb g2 b2 hrow;replace HO:=HO.out;generalize cg ks=E at ho HO;rcases E with _|t
 ·obtain⟨rfl,rfl⟩:x=Pn∧none=O:=⟨ho,HO⟩
  exact⟨rfl,rfl,cO b3⟩
 obtain⟨v,rfl,rfl,hrow⟩:=ho
 try simp only[ai] at HO
 replace HO:=hid HO;have kc:=cQ _ b t.2 w3 hrow
 go_wp2_with fail
 refine ag kc ?_;rintro x w4 ⟨ho,hb⟩;have b4:=b3.trans (hb.below1 (B:=w.heap.size) (by omega) b3.size);have g4:=hb.at g3 (by simp;omega);have hs34:=hb.size;clear kc hb g3 b3 hrow;replace HO:=HO.out;generalize cg t.2=E at ho HO;rcases E with _|s
 ·obtain⟨rfl,rfl⟩:x=Pn∧none=O:=⟨ho,HO⟩
  exact⟨rfl,rfl,cO b4⟩
 obtain⟨v,rfl,rfl,hrow⟩:=ho
 try simp only[ai] at HO
 replace HO:=hid HO;have q5:=cval g4 2 Es;have z5:=aj g4 2;have g5:Hc (w4.setCell ⟨w.heap.size+1,2,none⟩ (.string ⟨t.1.toArray⟩)) (w.heap.size+1) #[.int .i64 el.tag,I0,.string ⟨t.1.toArray⟩,Es,Es,Es,Sn] 141:=cq (i:=2) (u:=.string ⟨t.1.toArray⟩) g4;have q6:(w4.setCell ⟨w.heap.size+1,2,none⟩ (.string ⟨t.1.toArray⟩)).cell? ⟨w.heap.size+1,3,none⟩=some (Es):=(aq g5 3).trans rfl;have z6:=aj g5 3;have g6:Hc ((w4.setCell ⟨w.heap.size+1,2,none⟩ (.string ⟨t.1.toArray⟩)).setCell ⟨w.heap.size+1,3,none⟩ (.string ⟨s.1.toArray⟩)) (w.heap.size+1) #[.int .i64 el.tag,I0,.string ⟨t.1.toArray⟩,.string ⟨s.1.toArray⟩,Es,Es,Sn] 141:=cq (i:=3) (u:=.string ⟨s.1.toArray⟩) g5;have m6:Lft [w.heap.size+1] w4.heap.size w4 ((w4.setCell ⟨w.heap.size+1,2,none⟩ (.string ⟨t.1.toArray⟩)).setCell ⟨w.heap.size+1,3,none⟩ (.string ⟨s.1.toArray⟩)):=((Lft.refl w4).set _ _ _ (by simp)).set _ _ _ (by simp);have b6:=b4.trans (m6.below1 (B:=w.heap.size) (by omega) b4.size);have row6:=hrow.keep m6 (by simp;omega) (fun g hg _=>by have:=hg.1;simp;omega);obtain⟨G6,B6⟩:=Cg g6 b6;have hs46:=m6.size;clear g4 g5 g6 b4 b6 m6 hrow;have kc:=cX _ b s.2 _ row6
 go_wp2_with fail
 refine ag kc ?_;rintro x w7 ⟨ho,hb⟩;have b7:=B6.out.trans (hb.mono B6.out.size);have g7:=bk hb G6.out;clear kc hb G6 B6 row6 q5 z5 q6 z6;replace HO:=HO.out;rw[dJ] at HO;generalize bN () s.2=E at ho HO;rcases E with _|uu
 ·obtain⟨rfl,rfl⟩:x=Pn∧none=O:=⟨ho,HO⟩
  exact⟨rfl,rfl,cO b7⟩
 obtain⟨v,rfl,rfl⟩:=ho
 try simp only[aw] at HO
 replace HO:=hid HO;have m8:=alb w7 #[.int .i64 el.tag,I0,.string ⟨t.1.toArray⟩,.string ⟨s.1.toArray⟩,Es,Es,Sn] 141;have x8:Hc (w7.alloc (.cells #[.int .i64 el.tag,I0,.string ⟨t.1.toArray⟩,.string ⟨s.1.toArray⟩,Es,Es,Sn] 141)) w7.heap.size (List.toArray [.int .i64 el.tag,I0,.string ⟨t.1.toArray⟩,.string ⟨s.1.toArray⟩,Es,Es,Sn]) 141:=fb _ _ _ rfl;have b8:=btt b7 m8;have k8:kdF.R (fun g=>N g∧(Value.slice av f.length cv).ownBlock≠some g) (w7.alloc (.cells #[.int .i64 el.tag,I0,.string ⟨t.1.toArray⟩,.string ⟨s.1.toArray⟩,Es,Es,Sn] 141)) ⟨el.tag,0,t.1,s.1,[],[],[]⟩ [.int .i64 el.tag,I0,.string ⟨t.1.toArray⟩,.string ⟨s.1.toArray⟩,Es,Es,Sn]:=⟨_,rfl,bM.nil _ _ _⟩;have hs8:=b8.size;obtain⟨O8,X8,B8,K8⟩:=Ci (HW.out.below b8) x8 b8 k8;clear m8 x8 b8 k8 b7
 go_wp2_with (first|(refine bg rfl 141 (.tmp 5) rfl (w.heap.size+1) 141 _ (0,0) (by rfl) g7 _ Tryz.underlying141 rfl (by rfl) ?_)|(at_builtin;refine gd rfl (.tmp 77) (.tmp 79) rfl B N (.slice av f.length cv) f rfl O8.out ⟨el.tag,0,t.1,s.1,[],[],[]⟩ [.int .i64 el.tag,I0,.string ⟨t.1.toArray⟩,.string ⟨s.1.toArray⟩,Es,Es,Sn] w7.heap.size rfl X8.out K8.out hlf (by omega) ?_;intro a' c' w9 ho9 hg9 hat9))
 go_ret
 have hO:=HO.out;subst hO;exact⟨⟨_,rfl,ho9,by simpa using hcp,fun g hg=>(hat9 g hg).imp id fun h1=>by omega⟩,ik (cO B8.out) hg9 fun g hg=>.inl hg⟩
theorem qo(el:El)(h7:el.tag=7):jd el:=by
 intro u B N v f w h hs hown hB hN hlen;have hcp:=iG el;obtain⟨a,c,hf⟩:=h.shape;subst hf;obtain⟨av,cv,hsh⟩:=hown.shape;subst hsh;have b1:Bw w ((w.alloc (.cells #[.int .i64 el.cls,.int .i64 7,.bool el.cons,.string ⟨el.bytes.toArray⟩,.slice a el.kids.length c] 40)).alloc (.cells #[.int .i64 7,I0,Es,Es,Es,Es,Sn] 141)):=((aA _ _).alloc (ah _) _).alloc (by simp) _;have r1:Hc ((w.alloc (.cells #[.int .i64 el.cls,.int .i64 7,.bool el.cons,.string ⟨el.bytes.toArray⟩,.slice a el.kids.length c] 40)).alloc (.cells #[.int .i64 7,I0,Es,Es,Es,Es,Sn] 141)) w.heap.size #[.int .i64 el.cls,.int .i64 7,.bool el.cons,.string ⟨el.bytes.toArray⟩,.slice a el.kids.length c] 40:=(alloc_old _ _ _ (by simp)).trans (fb _ _ _ rfl);have g1:Hc ((w.alloc (.cells #[.int .i64 el.cls,.int .i64 7,.bool el.cons,.string ⟨el.bytes.toArray⟩,.slice a el.kids.length c] 40)).alloc (.cells #[.int .i64 7,I0,Es,Es,Es,Es,Sn] 141)) (w.heap.size+1) #[.int .i64 7,I0,Es,Es,Es,Es,Sn] 141:=fb _ _ _ (by simp);have kc:=gC el _ 2 7 ((w.alloc (.cells #[.int .i64 el.cls,.int .i64 7,.bool el.cons,.string ⟨el.bytes.toArray⟩,.slice a el.kids.length c] 40)).alloc (.cells #[.int .i64 7,I0,Es,Es,Es,Es,Sn] 141)) (h.below b1);generalize hO:eD el=O;rw[oZ h7] at hO
 try simp only[bS] at hO
 obtain⟨HO,HW,HN⟩:=Ch hO hown hN;have hlf:f.length≤1000000000:=by omega
 unfold elA at kc⊢;rw[h7] at kc⊢;clear h hs hO hown hN
 go_enter Tryz.func153,Tryz.ntmps153
 go_upto_region 2 with fail
 generalize((w.alloc (.cells #[.int .i64 el.cls,.int .i64 7,.bool el.cons,.string ⟨el.bytes.toArray⟩,.slice a el.kids.length c] 40)).alloc (.cells #[.int .i64 7,I0,Es,Es,Es,Es,Sn] 141))=w1 at b1 r1 g1 kc⊢;have hg1:=(gl g1);clear h7;have qt:=cval r1 1 (.int .i64 7)
 go_wp2_with (refine ldE (.tmp 2) r1 rfl ?_)
 refine ag kc ?_;rintro x w2 ⟨ho,hb⟩;have b2:=btt b1 hb;have g2:=bk hb g1;have hs12:=hb.size;clear kc hb r1 g1 b1 qt;replace HO:=HO.out;generalize dK el 2 7=E at ho HO;rcases E with _|s
 ·obtain⟨rfl,rfl⟩:x=Pn∧none=O:=⟨ho,HO⟩
  exact⟨rfl,rfl,cO b2⟩
 obtain⟨v,rfl,rfl⟩:=ho
 try simp only[aw] at HO
 replace HO:=hid HO;have q5:=cval g2 2 Es;have z5:=aj g2 2;have g3:Hc (w2.setCell ⟨w.heap.size+1,2,none⟩ (.string ⟨s.toArray⟩)) (w.heap.size+1) #[.int .i64 7,I0,.string ⟨s.toArray⟩,Es,Es,Es,Sn] 141:=cq (i:=2) (u:=.string ⟨s.toArray⟩) g2;have m3:Lft [w.heap.size+1] w2.heap.size w2 (w2.setCell ⟨w.heap.size+1,2,none⟩ (.string ⟨s.toArray⟩)):=(Lft.refl w2).set _ _ _ (by simp);have b3:=b2.trans (m3.below1 (B:=w.heap.size) (by omega) b2.size);clear g2 b2 m3
 go_upto_region 22 with fail
 clear q5 z5;generalize(w2.setCell ⟨w.heap.size+1,2,none⟩ (.string ⟨s.toArray⟩))=w3 at b3 g3⊢;have m8:=alb w3 #[.int .i64 7,I0,.string ⟨s.toArray⟩,Es,Es,Es,Sn] 141;have x8:Hc (w3.alloc (.cells #[.int .i64 7,I0,.string ⟨s.toArray⟩,Es,Es,Es,Sn] 141)) w3.heap.size (List.toArray [.int .i64 7,I0,.string ⟨s.toArray⟩,Es,Es,Es,Sn]) 141:=fb _ _ _ rfl;have b8:=btt b3 m8;have k8:kdF.R (fun g=>N g∧(Value.slice av f.length cv).ownBlock≠some g) (w3.alloc (.cells #[.int .i64 7,I0,.string ⟨s.toArray⟩,Es,Es,Es,Sn] 141)) ⟨7,0,s,[],[],[],[]⟩ [.int .i64 7,I0,.string ⟨s.toArray⟩,Es,Es,Es,Sn]:=⟨_,rfl,bM.nil _ _ _⟩;have hs8:=b8.size;obtain⟨O8,X8,B8,K8⟩:=Ci (HW.out.below b8) x8 b8 k8;clear m8 x8 b8 k8 b3
 go_wp2_with (first|(refine bg rfl 141 (.tmp 5) rfl (w.heap.size+1) 141 _ (0,0) (by rfl) g3 _ Tryz.underlying141 rfl (by rfl) ?_)|(at_builtin;refine gd rfl (.tmp 77) (.tmp 79) rfl B N (.slice av f.length cv) f rfl O8.out ⟨7,0,s,[],[],[],[]⟩ [.int .i64 7,I0,.string ⟨s.toArray⟩,Es,Es,Es,Sn] w3.heap.size rfl X8.out K8.out hlf (by omega) ?_;intro a' c' w9 ho9 hg9 hat9))
 go_ret
 have hO:=HO.out;subst hO;exact⟨⟨_,rfl,ho9,by simpa using hcp,fun g hg=>(hat9 g hg).imp id fun h1=>by omega⟩,ik (cO B8.out) hg9 fun g hg=>.inl hg⟩
theorem rM(el:El)(h4:el.tag=4):jd el:=by
 intro u B N v f w h hs hown hB hN hlen;have hcp:=iG el;obtain⟨a,c,hf⟩:=h.shape;subst hf;obtain⟨av,cv,hsh⟩:=hown.shape;subst hsh;have b1:Bw w ((w.alloc (.cells #[.int .i64 el.cls,.int .i64 4,.bool el.cons,.string ⟨el.bytes.toArray⟩,.slice a el.kids.length c] 40)).alloc (.cells #[.int .i64 4,I0,Es,Es,Es,Es,Sn] 141)):=((aA _ _).alloc (ah _) _).alloc (by simp) _;have r1:Hc ((w.alloc (.cells #[.int .i64 el.cls,.int .i64 4,.bool el.cons,.string ⟨el.bytes.toArray⟩,.slice a el.kids.length c] 40)).alloc (.cells #[.int .i64 4,I0,Es,Es,Es,Es,Sn] 141)) w.heap.size #[.int .i64 el.cls,.int .i64 4,.bool el.cons,.string ⟨el.bytes.toArray⟩,.slice a el.kids.length c] 40:=(alloc_old _ _ _ (by simp)).trans (fb _ _ _ rfl);have g1:Hc ((w.alloc (.cells #[.int .i64 el.cls,.int .i64 4,.bool el.cons,.string ⟨el.bytes.toArray⟩,.slice a el.kids.length c] 40)).alloc (.cells #[.int .i64 4,I0,Es,Es,Es,Es,Sn] 141)) (w.heap.size+1) #[.int .i64 4,I0,Es,Es,Es,Es,Sn] 141:=fb _ _ _ (by simp);have kc:=dk el _ 2 4 ((w.alloc (.cells #[.int .i64 el.cls,.int .i64 4,.bool el.cons,.string ⟨el.bytes.toArray⟩,.slice a el.kids.length c] 40)).alloc (.cells #[.int .i64 4,I0,Es,Es,Es,Es,Sn] 141)) (h.below b1) hs;generalize hO:eD el=O;rw[qk h4] at hO
 try simp only[bS] at hO
 obtain⟨HO,HW,HN⟩:=Ch hO hown hN;have hlf:f.length≤1000000000:=by omega
 unfold elA at kc⊢;rw[h4] at kc⊢;clear h hs hO hown hN
 go_enter Tryz.func153,Tryz.ntmps153
 go_upto_region 2 with fail
 generalize((w.alloc (.cells #[.int .i64 el.cls,.int .i64 4,.bool el.cons,.string ⟨el.bytes.toArray⟩,.slice a el.kids.length c] 40)).alloc (.cells #[.int .i64 4,I0,Es,Es,Es,Es,Sn] 141))=w1 at b1 r1 g1 kc⊢;have hg1:=(gl g1);clear h4;have qt:=cval r1 1 (.int .i64 4)
 go_wp2_with (refine ldE (.tmp 2) r1 rfl ?_)
 refine ag kc ?_;rintro x w2 ⟨ho,hb⟩;have b2:=btt b1 hb;have g2:=bk hb g1;have hs12:=hb.size;clear kc hb r1 g1 b1 qt;replace HO:=HO.out;generalize ci el 2 4=E at ho HO;rcases E with _|ks
 ·obtain⟨rfl,rfl⟩:x=Pn∧none=O:=⟨ho,HO⟩
  exact⟨rfl,rfl,cO b2⟩
 obtain⟨v,rfl,b,rfl,hbge,hrow⟩:=ho
 try simp only[ai] at HO
 replace HO:=hid HO;have kc:=cQ _ b ks w2 hrow
 go_wp2_with fail
 refine ag kc ?_;rintro x w3 ⟨ho,hb⟩;have b3:=b2.trans (hb.below1 (B:=w.heap.size) (by omega) b2.size);have g3:=hb.at g2 (by simp;omega);have hs23:=hb.size;clear kc hb g2 b2 hrow;replace HO:=HO.out;generalize cg ks=E at ho HO;rcases E with _|t
 ·obtain⟨rfl,rfl⟩:x=Pn∧none=O:=⟨ho,HO⟩
  exact⟨rfl,rfl,cO b3⟩
 obtain⟨v,rfl,rfl,hrow⟩:=ho
 try simp only[ai] at HO
 replace HO:=hid HO;have q5:=cval g3 2 Es;have z5:=aj g3 2;have g4:Hc (w3.setCell ⟨w.heap.size+1,2,none⟩ (.string ⟨t.1.toArray⟩)) (w.heap.size+1) #[.int .i64 4,I0,.string ⟨t.1.toArray⟩,Es,Es,Es,Sn] 141:=cq (i:=2) (u:=.string ⟨t.1.toArray⟩) g3;have m4:Lft [w.heap.size+1] w3.heap.size w3 (w3.setCell ⟨w.heap.size+1,2,none⟩ (.string ⟨t.1.toArray⟩)):=(Lft.refl w3).set _ _ _ (by simp);have b4:=b3.trans (m4.below1 (B:=w.heap.size) (by omega) b3.size);have row4:=(hrow.keep m4 (by simp;omega) (fun g hg _=>by have:=hg.1;simp;omega)).shut;have hs34:=m4.size;have hb4:=row4.lt;obtain⟨G4,B4⟩:=Cg g4 b4;clear g3 g4 b3 b4 m4 hrow;have kc:=cG _ b t.2 _ row4
 go_wp2_with fail
 refine ag kc ?_;rintro x w5 ⟨ho,hb⟩;have b5:=B4.out.trans (hb.below1 (B:=w.heap.size) (by omega) B4.out.size);have g5:=hb.at G4.out (by simp;omega);have hs45:=hb.size;clear kc hb G4 B4 row4 q5 z5;replace HO:=HO.out;generalize ch t.2=E at ho HO;rcases E with _|q
 ·obtain⟨rfl,rfl⟩:x=Pn∧none=O:=⟨ho,HO⟩
  exact⟨rfl,rfl,cO b5⟩
 obtain⟨v,rfl,u5,rfl,hse,hu,hrow⟩:=ho
 try simp only[ai] at HO
 replace HO:=hid HO;obtain⟨a5,c5,hf5⟩:=hu.shape;subst hf5;have kc:=dk q.1 _ 0 16 w5 (hu.mono fun _ _ _=>trivial) hse
 go_wp2_with fail
 refine ag kc ?_;rintro x w6 ⟨ho,hb⟩;have b6:=btt b5 hb;have g6:=bk hb g5;have hs56:=hb.size;have row6:=hrow.below hb;clear kc hb g5 b5 hrow hu;replace HO:=HO.out;generalize ci q.1 0 16=E at ho HO;rcases E with _|ks2
 ·obtain⟨rfl,rfl⟩:x=Pn∧none=O:=⟨ho,HO⟩
  exact⟨rfl,rfl,cO b6⟩
 obtain⟨v,rfl,b2,rfl,hb2ge,hrow2⟩:=ho
 try simp only[ai,aw] at HO
 replace HO:=hid HO;have kc:=Fo _ b2 (w.heap.size+1) ks2 _ _ _ _ w6 g6 (by omega) (fun g hg=>by have:=hg.1;omega) hrow2
 go_wp2_with fail
 refine ag kc ?_;rintro x w7 ⟨ho,hb⟩;have b7:=b6.trans ((hb.mono (Y:=[b2,w.heap.size+1]) b6.size fun _ _ k=>k).below fun j hj hm=>by simp at hm;omega);have hs67:=hb.size;have row7:=row6.keep hb (by simp;omega) (fun g hg _=>by have:=hg.2;have:=hg.1.1;simp;omega);clear kc hb g6 b6 row6 hrow2;replace HO:=HO.out;generalize fe ks2=E at ho HO;rcases E with _|pp
 ·obtain⟨rfl,rfl⟩:x=Pn∧none=O:=⟨ho,HO⟩
  exact⟨rfl,rfl,cO b7⟩
 obtain⟨v,rfl,rfl,up,g7,hlp⟩:=ho
 try simp only[ai] at HO
 replace HO:=hid HO;obtain⟨ap,cp,hfp⟩:=hlp.shape;subst hfp;have kc:=cX _ b q.2 w7 row7
 go_wp2_with fail
 refine ag kc ?_;rintro x w8 ⟨ho,hb⟩;have b8:=btt b7 hb;have g8:=bk hb g7;have hlp8:=hlp.below hb (by decide);have hs78:=hb.size;clear kc hb g7 b7 row7 hlp;replace HO:=HO.out;rw[dJ] at HO;generalize bN () q.2=E at ho HO;rcases E with _|uu
 ·obtain⟨rfl,rfl⟩:x=Pn∧none=O:=⟨ho,HO⟩
  exact⟨rfl,rfl,cO b8⟩
 obtain⟨v,rfl,rfl⟩:=ho
 try simp only[aw] at HO
 replace HO:=hid HO;have m9:=alb w8 #[.int .i64 4,I0,.string ⟨t.1.toArray⟩,Es,.string ⟨pp.1.toArray⟩,.string ⟨pp.2.2.toArray⟩,.slice ap pp.2.1.length cp] 141;have x8:Hc (w8.alloc (.cells #[.int .i64 4,I0,.string ⟨t.1.toArray⟩,Es,.string ⟨pp.1.toArray⟩,.string ⟨pp.2.2.toArray⟩,.slice ap pp.2.1.length cp] 141)) w8.heap.size (List.toArray [.int .i64 4,I0,.string ⟨t.1.toArray⟩,Es,.string ⟨pp.1.toArray⟩,.string ⟨pp.2.2.toArray⟩,.slice ap pp.2.1.length cp]) 141:=fb _ _ _ rfl;have b9:=btt b8 m9;have k8:kdF.R (fun g=>N g∧(Value.slice av f.length cv).ownBlock≠some g) (w8.alloc (.cells #[.int .i64 4,I0,.string ⟨t.1.toArray⟩,Es,.string ⟨pp.1.toArray⟩,.string ⟨pp.2.2.toArray⟩,.slice ap pp.2.1.length cp] 141)) ⟨4,0,t.1,[],pp.1,pp.2.2,pp.2.1⟩ [.int .i64 4,I0,.string ⟨t.1.toArray⟩,Es,.string ⟨pp.1.toArray⟩,.string ⟨pp.2.2.toArray⟩,.slice ap pp.2.1.length cp]:=⟨_,rfl,hlp8.kept (fun g hg hl=>⟨m9.block g hl,HN.out g (by omega),fun he=>by have:=(HW.out.lt he).2;omega⟩) (by decide)⟩;have hs8:=b9.size;obtain⟨O8,X8,B8,K8⟩:=Ci (HW.out.below b9) x8 b9 k8;clear m9 x8 b9 k8 b8 hlp8
 go_wp2_with (first|(refine bg rfl 141 (.tmp 5) rfl (w.heap.size+1) 141 _ (0,0) (by rfl) g8 _ Tryz.underlying141 rfl (by rfl) ?_)|(at_builtin;refine gd rfl (.tmp 77) (.tmp 79) rfl B N (.slice av f.length cv) f rfl O8.out ⟨4,0,t.1,[],pp.1,pp.2.2,pp.2.1⟩ [.int .i64 4,I0,.string ⟨t.1.toArray⟩,Es,.string ⟨pp.1.toArray⟩,.string ⟨pp.2.2.toArray⟩,.slice ap pp.2.1.length cp] w8.heap.size rfl X8.out K8.out hlf (by omega) ?_;intro a' c' w9 ho9 hg9 hat9))
 go_ret
 have hO:=HO.out;subst hO;exact⟨⟨_,rfl,ho9,by simpa using hcp,fun g hg=>(hat9 g hg).imp id fun h1=>by omega⟩,ik (cO B8.out) hg9 fun g hg=>.inl hg⟩
theorem RowA.grownX{P:Nat→Prop}{b:Nat}{r:List El}{w w':World}{o:Option Nat}(h:RowA P b r w)(hg:w.grownBy w' o)(hb:o≠some b)(hP:∀g,P g→o≠some g):RowA P b r w':=by
 obtain⟨⟨v,h1,h2⟩,hs,hl,hn⟩:=h;exact⟨⟨v,rK hg h1 hb,h2.kept fun g hg1 hl1=>⟨hg.block g hl1 (Ne.symm (hP g hg1)),hg1⟩⟩,hs,hl,hn⟩
structure GrX (b:Nat) (o:Option Nat) (w w':World):Prop where
 os:w'.os=w.os
 tape:w'.tape=w.tape
 output:w'.output=w.output
 size:w.heap.size≤w'.heap.size
 block:∀k,k<w.heap.size→k≠b→some k≠o→w'.heap[k]?=w.heap[k]?
theorem GrX.grown{b:Nat}{o o':Option Nat}{w w1 w2:World}(h:GrX b o w w1)(k:w1.grownBy w2 o')(ho:∀g,o'=some g→o=some g∨w.heap.size≤g):GrX b o w w2:=
 ⟨k.os.trans h.os,k.tape.trans h.tape,k.output.trans h.output,Nat.le_trans h.size k.size,fun j hj hb hne=>(k.block j (by have:=h.size;omega) fun he=>by
  rcases ho j he.symm with h1|h1
  ·exact hne h1.symm
  ·omega).trans (h.block j hj hb hne)⟩
theorem GrX.lft{b:Nat}{o:Option Nat}{w w1 w2:World}(h:GrX b o w w1)(k:Lft [b] w1.heap.size w1 w2):GrX b o w w2:=
 ⟨k.os.trans h.os,k.tape.trans h.tape,k.output.trans h.output,Nat.le_trans h.size k.size,fun j hj hb hne=>(k.old (by have:=h.size;omega) (by simpa using hb)).trans (h.block j hj hb hne)⟩
theorem GrX.out{b:Nat}{o:Option Nat}{w w3 w':World}(h:GrX b o w3 w')(k:Bw w w3)(hb:w.heap.size≤b):w.grownBy w' o:=
 ⟨h.os.trans k.os,h.tape.trans k.tape,h.output.trans k.output,Nat.le_trans k.size h.size,fun j hj hne=>(h.block j (by have:=k.size;omega) (by omega) hne).trans (k.block j hj)⟩
def FsR(B:Nat)(N:Nat→Prop)(b:Nat)(o:Option Nat)(P:Nat→Prop)(O:Option (List Fl))(f1:List Fl)(n:Nat)(w3:World)(v:Value)(wr:World):Prop:=
 ∃(dn:List Fl) (r:List El),ep kdF 141 B N wr v (f1++dn)∧(en r).map (dn++ ·)=O∧RowA P b r wr∧GrX b o w3 wr∧(∀g,v.ownBlock=some g→o=some g∨w3.heap.size≤g)∧(f1++dn).length+dL r≤1000000000∧dn.length+dL r≤n∧∀e∈r,jd e
theorem sX(el:El)(T:Int)(hT:el.tag=T)(h2:T=0∨T=1∨T=2)(IH:∀e∈el.kids,jd e):jd el:=by
 intro u B N v f w h hs hown hB hN hlen;have hcp:=iG el;obtain⟨a,c,hf⟩:=h.shape;subst hf;obtain⟨av,cv,hsh⟩:=hown.shape;subst hsh;have b1:Bw w ((w.alloc (.cells #[.int .i64 el.cls,.int .i64 T,.bool el.cons,.string ⟨el.bytes.toArray⟩,.slice a el.kids.length c] 40)).alloc (.cells #[.int .i64 T,I0,Es,Es,Es,Es,Sn] 141)):=((aA _ _).alloc (ah _) _).alloc (by simp) _;have r1:Hc ((w.alloc (.cells #[.int .i64 el.cls,.int .i64 T,.bool el.cons,.string ⟨el.bytes.toArray⟩,.slice a el.kids.length c] 40)).alloc (.cells #[.int .i64 T,I0,Es,Es,Es,Es,Sn] 141)) w.heap.size #[.int .i64 el.cls,.int .i64 T,.bool el.cons,.string ⟨el.bytes.toArray⟩,.slice a el.kids.length c] 40:=(alloc_old _ _ _ (by simp)).trans (fb _ _ _ rfl);have g1:Hc ((w.alloc (.cells #[.int .i64 el.cls,.int .i64 T,.bool el.cons,.string ⟨el.bytes.toArray⟩,.slice a el.kids.length c] 40)).alloc (.cells #[.int .i64 T,I0,Es,Es,Es,Es,Sn] 141)) (w.heap.size+1) #[.int .i64 T,I0,Es,Es,Es,Es,Sn] 141:=fb _ _ _ (by simp);have kc:=dk el _ 2 T ((w.alloc (.cells #[.int .i64 el.cls,.int .i64 T,.bool el.cons,.string ⟨el.bytes.toArray⟩,.slice a el.kids.length c] 40)).alloc (.cells #[.int .i64 T,I0,Es,Es,Es,Es,Sn] 141)) (h.below b1) hs;generalize hO:eD el=O;rw[rL (by rw[hT];exact h2),hT] at hO
 try simp only[bS] at hO
 obtain⟨HO,HW,HN⟩:=Ch hO hown hN;have hlf:f.length≤1000000000:=by omega
 unfold elA at kc⊢;rw[hT] at kc⊢;clear h hs hO hown hN;have IHH:=hid IH;have hcnt:ci el 2 T=some el.kids∨ci el 2 T=none:=by
  unfold ci
  split
  ·exact .inl rfl
  ·exact .inr rfl
 have hce:ed el=1+dL el.kids:=by
  cases el with
  |mk c t k b ks=>rfl
 obtain⟨HCN,HCE⟩:=Cg hcnt hce;clear IH hT hcnt hce
 go_enter Tryz.func153,Tryz.ntmps153
 go_upto_region 2 with fail
 generalize((w.alloc (.cells #[.int .i64 el.cls,.int .i64 T,.bool el.cons,.string ⟨el.bytes.toArray⟩,.slice a el.kids.length c] 40)).alloc (.cells #[.int .i64 T,I0,Es,Es,Es,Es,Sn] 141))=w1 at b1 r1 g1 kc⊢;have hg1:=(gl g1);have qt:=cval r1 1 (.int .i64 T)
 go_upto_if 26 with fail
 go_cut [26] from 27 to 29 (fun s26 wx=>s26=.bool true∧wx=w1)
 case first=>
  clear kc HO HW HN IHH HCN HCE r1 g1 qt b1;rcases h2 with h2|h2|h2
  all_goals
   subst h2
   go_wp2_with fail
   go_meet
   exact⟨rfl,rfl⟩
 case rest=>
 obtain⟨rfl,hw⟩:=hcut;have hw':=hw.symm;subst hw';clear hw h2
 go_wp2_with (refine ldE (.tmp 2) r1 rfl ?_)
 refine ag kc ?_;rintro x w2 ⟨ho,hb⟩;have b2:=btt b1 hb;have g2:=bk hb g1;have hs12:=hb.size;clear kc hb r1 g1 b1 qt;have hO:=HO.out;clear HO;have hcn:=HCN.out;generalize ci el 2 T=E at ho hO hcn;rcases E with _|ks
 ·have hx:x=Pn:=ho
  subst hx;simp only[be] at hO;subst hO;exact⟨rfl,rfl,cO b2⟩
 obtain⟨v,rfl,b,rfl,hbge,hrow⟩:=ho
 try simp only[ai] at hO
 have HO:=hid hO;clear hO;have hks:ks=el.kids:=by
  rcases hcn with h|h
  ·exact aD h
  ·cases h
 clear hcn;rw[←hks] at IHH HCE;clear hks;obtain⟨ar,cr,qb⟩:=hrow.cell;have hbl:=hrow.lt;have hkl:=hrow.len;have q5:=cval g2 1 I0;have z5:=aj g2 1;have g3:Hc (w2.setCell ⟨w.heap.size+1,1,none⟩ (.int .i64 (ks.length:Int))) (w.heap.size+1) #[.int .i64 T,.int .i64 (ks.length:Int),Es,Es,Es,Es,Sn] 141:=cq (i:=1) (u:=.int .i64 (ks.length:Int)) g2;have m3:Lft [w.heap.size+1] w2.heap.size w2 (w2.setCell ⟨w.heap.size+1,1,none⟩ (.int .i64 (ks.length:Int))):=(Lft.refl w2).set _ _ _ (by simp);have b3:=b2.trans (m3.below1 (B:=w.heap.size) (by omega) b2.size);have row3:=(hrow.keep m3 (by simp;omega) (fun g hg _=>by have:=hg.1;simp;omega)).shut;have hs23:=m3.size;have R3:=hid row3;clear row3 hrow g2 b2 m3
 go_upto_region 11 with fail
 clear q5 z5 qb;generalize(w2.setCell ⟨w.heap.size+1,1,none⟩ (.int .i64 (ks.length:Int)))=w3 at b3 g3 R3 hs23⊢;have hb3:=R3.out.lt;have m8:=alb w3 #[.int .i64 T,.int .i64 (ks.length:Int),Es,Es,Es,Es,Sn] 141;have x8:Hc (w3.alloc (.cells #[.int .i64 T,.int .i64 (ks.length:Int),Es,Es,Es,Es,Sn] 141)) w3.heap.size (List.toArray [.int .i64 T,.int .i64 (ks.length:Int),Es,Es,Es,Es,Sn]) 141:=fb _ _ _ rfl;have b8:=btt b3 m8;obtain⟨M,hM⟩:∃M:Nat→Prop,M=fun g=>(N g∧g<w.heap.size)∨w3.heap.size≤g:=⟨_,rfl⟩
 have k8:kdF.R (fun g=>M g∧(Value.slice av f.length cv).ownBlock≠some g) (w3.alloc (.cells #[.int .i64 T,.int .i64 (ks.length:Int),Es,Es,Es,Es,Sn] 141)) ⟨T,ks.length,[],[],[],[],[]⟩ [.int .i64 T,.int .i64 (ks.length:Int),Es,Es,Es,Es,Sn]:=⟨_,rfl,bM.nil _ _ _⟩;have hs8:=b8.size;obtain⟨O8,X8,M8,K8,HM⟩:=Cj (HW.out.keep (w':=(w3.alloc (.cells #[.int .i64 T,.int .i64 (ks.length:Int),Es,Es,Es,Es,Sn] 141))) (M:=M) (fun j hj hl=>⟨b8.block j hl,by rw[hM];exact .inl ⟨hj,hl⟩⟩) (fun g hg=>b8.block g (HW.out.lt hg).2)) x8 m8 k8 hM;have hov:∀{g:Nat},(Value.slice av f.length cv).ownBlock=some g→g<w.heap.size:=fun hg=>(HW.out.lt hg).2
 clear m8 x8 b8 k8 hM
 go_wp2_with (first|(refine bg rfl 141 (.tmp 5) rfl (w.heap.size+1) 141 _ (0,0) (by rfl) g3 _ Tryz.underlying141 rfl (by rfl) ?_)|(at_builtin;refine gd rfl (.tmp 40) (.tmp 42) rfl B M (.slice av f.length cv) f rfl O8.out ⟨T,ks.length,[],[],[],[],[]⟩ [.int .i64 T,.int .i64 (ks.length:Int),Es,Es,Es,Es,Sn] w3.heap.size rfl X8.out K8.out hlf (by omega) ?_;intro a' c' w9 ho9 hg9 hat9))
 have gx9:GrX b (Value.slice av f.length cv).ownBlock w3 w9:=GrX.grown ⟨M8.out.os,M8.out.tape,M8.out.output,M8.out.size,fun k hk _ _=>M8.out.block k hk⟩ hg9 fun g hg=>.inl hg
 have hs38:=M8.out.size;have row9:=(R3.out.below M8.out).grownX hg9 (fun he=>by have:=hov he;omega) (fun g hg he=>by have:=hov he;have:=hg.1.1;omega);obtain⟨v9,hv9⟩:=nmm (Value.slice a' (f.length+1) c');rw[hv9] at ho9 hat9⊢;obtain⟨OO,hOO⟩:=nmm (en ks);have hO:=HO.out;rw[hOO] at hO;have hst:FsR B M b (Value.slice av f.length cv).ownBlock (fun g=>(w1.heap.size≤g∧g≠b)∧g<w3.heap.size) OO (f++[⟨T,ks.length,[],[],[],[],[]⟩]) (dL ks) w3 v9 w9:=⟨[],ks,by simpa using ho9,by rw[←hOO];cases en ks<;>rfl,row9.mono (fun g hg=>by exact⟨hg.1,by omega⟩) (fun g hg=>hg.1.2),gx9,fun g hg=>(hat9 g hg).imp id fun h=>by omega,by simp;have:=HCE.out;omega,by simp,IHH.out⟩;have ST:=hid hst;clear HO;have HO:=hid hO;clear hst hO hOO hv9 ho9 hat9 hg9 gx9 row9 O8 X8 K8 M8 g3 R3;have hbw:w.heap.size≤b:=by omega
 have hN2:∀g,M g→N g:=fun g hg=>by
  rw[HM.out] at hg;rcases hg with h|h
  ·exact h.1
  ·exact HN.out g (by omega)
 have hM2:∀g,M g→g≠b:=fun g hg=>by
  rw[HM.out] at hg;rcases hg with h|h
  ·omega
  ·omega
 have hM3:∀g,w3.heap.size≤g→M g:=fun g hg=>by
  rw[HM.out];exact .inr hg
 obtain⟨N2,M2,M3⟩:=Ch hN2 hM2 hM3;clear hN2 hM2 hM3 HM
 go_wp2_with fail
 go_loopw [1] (fun v wr=>FsR B M b (Value.slice av f.length cv).ownBlock (fun g=>(w1.heap.size≤g∧g≠b)∧g<w3.heap.size) OO (f++[⟨T,ks.length,[],[],[],[],[]⟩]) (dL ks) w3 v wr) (fun _ wr=>rowN b wr)
 case atStart=>exact ST.out
 case round=>
  clear ST;obtain⟨dn,r,hown,ho,hrow,hgx,hat,hbd,hln,hih⟩:=hrel;obtain⟨ar,cr,qb⟩:=hrow.cell;obtain⟨hrN,HW2,HG,HAT,HO2⟩:=Cj hrow.rowN hown hgx hat ho;have hszr:=hgx.size;cases r with
  |nil=>
   simp only[aU] at qb;clear hown hgx hat ho hrow hih
   go_wp2_with fail
   go_ret
   have ho:=HO2.out;simp only[en,aw,List.append_nil] at ho;have hO:=HO.out;rw[←ho] at hO;simp only[aw] at hO;subst hO;refine⟨⟨_,rfl,?_,?_,fun g hg=>(HAT.out g hg).imp id fun h=>by omega⟩,HG.out.out b3 hbw⟩
   ·have h:=HW2.out.keep (w':=wr) (M:=N) (fun j hj _=>⟨rfl,N2.out j hj⟩) (fun _ _=>rfl)
    simpa using h
   ·have:=HCE.out
    simp only[dL] at hln;simp only[aG]
    omega
  |cons e t=>
   simp only[aG] at qb;have hvb:∀g,u1.ownBlock=some g→g≠b:=fun g hg=>by
    rcases hat g hg with h|h
    ·have:=hov h;omega
    ·omega
   have hvP:∀g,((w1.heap.size≤g∧g≠b)∧g<w3.heap.size)→u1.ownBlock≠some g:=fun g hg he=>by
    rcases hat g he with h|h
    ·have:=hov h;have:=hg.1.1;omega
    ·have:=hg.2;omega
   have i1:decide ((0:Int)<(t.length:Int)+1)=true:=aC (by omega);have kc:=cG _ b (e::t) wr hrow;obtain⟨IHE,IHT⟩:=Cg (hih e (by simp)) (fun x (hx:x∈t)=>hih x (by simp[hx]));clear hown hgx hat ho hrow hih
   go_wp2_with fail
   refine ag kc ?_;rintro x w4 ⟨ho4,hb⟩;obtain⟨v,rfl,u4,rfl,hse,hu,hrow⟩:=ho4;obtain⟨a4,c4,hf4⟩:=hu.shape;subst hf4;have o4:ep kdF 141 B M w4 _ _:=HW2.out.keep (w':=w4) (M:=M) (fun j hj hl=>⟨hb.old hl (by have:=M2.out j hj;simpa using this),hj⟩) (fun g hg=>hb.old (HW2.out.lt hg).2 (by simpa using hvb g hg));have hs4:=hb.size;have gx4:=HG.out.lft hb;have hlb:(f++[(⟨T,ks.length,[],[],[],[],[]⟩:Fl)]++dn).length+ed e≤1000000000:=by simp only[dL] at hbd;omega
   have kc:=IHE.out _ B M _ _ w4 (hu.mono fun _ _ _=>trivial) hse o4 (by omega) (fun g hg=>M3.out g (by omega)) hlb;obtain⟨GX4,ROW4⟩:=Cg gx4 hrow;clear hb HW2 HG qb i1 hu o4 gx4 hrow IHE
   go_wp2_with fail
   refine ag kc ?_;rintro x w5 ⟨ho5,hg5⟩;have gx5:=GX4.out.grown hg5 (fun g hg=>HAT.out g hg);have ho:=HO2.out;clear kc;cases hE:eD e with
   |none=>
    rw[hE] at ho5;have hx:x=Pn:=ho5;subst hx;simp only[en,hE,be,bn] at ho;have hO:=HO.out;rw[←ho] at hO;simp only[bn] at hO;subst hO;exact⟨rfl,rfl,gx5.out b3 hbw⟩
   |some y=>
    rw[hE] at ho5;obtain⟨v5,rfl,hown5,hyl,hat5⟩:=ho5;simp only[en,hE,ai] at ho;have row5:=ROW4.out.grownX hg5 (fun he=>hvb b he rfl) hvP;simp only[dL] at hbd hln;have rel:FsR B M b (Value.slice av f.length cv).ownBlock (fun g=>(w1.heap.size≤g∧g≠b)∧g<w3.heap.size) OO (f++[⟨T,ks.length,[],[],[],[],[]⟩]) (dL ks) w3 v5 w5:=by
     refine⟨dn++y,t,by simpa using hown5,?_,row5,gx5,fun g hg=>?_,by simp at hbd⊢;omega,by simp;omega,IHT.out⟩
     ·rw[←ho]
      cases en t<;>simp
     ·rcases hat5 g hg with h|h
      ·exact HAT.out g h
      ·exact .inr (by omega)
    have hm:rowN b w5<rowN b wr:=by
     rw[row5.rowN,hrN.out]
     simp
    have REL:=hid rel;clear rel hown5 hat5 row5 gx5 hg5 GX4 ROW4 HAT HO2 ho hrN IHT hE
    go_wp2_with fail
    exact⟨REL.out,hm⟩
mutual
theorem je:∀el:El,jd el
 | .mk c t k b ks=>by
  by_cases h2:t=0∨t=1∨t=2
  ·exact sX (.mk c t k b ks) t rfl h2 (iV ks)
  by_cases h7:t=7
  ·exact qo (.mk c t k b ks) h7
  by_cases h4:t=4
  ·exact rM (.mk c t k b ks) h4
  exact qm (.mk c t k b ks) h2 h7 h4
theorem iV:∀ks:List El,∀e∈ks,jd e
 |[],e,h=>by simp at h
 |x::r,e,h=>by
  rcases aY.1 h with h|h
  ·rw[h]
   exact je x
  ·exact iV r e h
end
theorem fJ(c t:Int)(s:List UInt8)(ks:List El):dK (.mk c t false s ks) c t=some s:=by simp[dK,isE,El.cls,El.tag,El.cons,El.bytes]
theorem ew(c t:Int)(s:List UInt8)(ks:List El):ci (.mk c t true s ks) c t=some ks:=by simp[ci,isE,El.cls,El.tag,El.cons,El.kids]
theorem oo(c t:Int)(n:Nat)(h:n≤2147483647):fW (.mk c t false (sgB n) []) c t=some (n:Int):=by
 obtain⟨h1,h2,h3⟩:=sW n h
 simp[fW,gA,isE,El.cls,El.tag,El.cons,El.bytes,h1,h2,h3]
theorem rN(b:Bool):gT (.mk 0 1 false (blB b) [])=some b:=by cases b<;>simp[gT,isE,El.cls,El.tag,El.cons,El.bytes,blB]
theorem dg{α:Type}{g:El→Option α}{e:El}{x:α}(r:List El)(h:g e=some x):bS g (e::r)=some (x,r):=by simp[bS,ch,h]
theorem xq(s:List UInt8)(r:List El):cg (.mk 0 4 false s []::r)=some (s,r):=dg r (fJ 0 4 s [])
theorem eE(t:Int)(n:Nat)(r:List El)(h:n≤2147483647):eR t (.mk 0 t false (sgB n) []::r)=some ((n:Int),r):=dg r (oo 0 t n h)
theorem go(b:Bool)(r:List El):fm (.mk 0 1 false (blB b) []::r)=some (b,r):=dg r (rN b)
theorem gg(t:Int)(s:List UInt8)(r:List El):eS t (.mk 2 t false s []::r)=some ((s,true),r):=by
 simp[eS,da,El.cls,El.tag,dg (g:=fun e=>dK e 2 t) r (fJ 2 t s [])]
theorem gI(t:Int)(l:List El)(h:da 2 t l=false):eS t l=some (([],false),l):=by simp[eS,h]
theorem li(l:List (List UInt8)):dN (l.map cP)=some l:=by
 induction l with
 |nil=>rfl
 |cons s r ih=>simp[dN,cP,fJ] at ih⊢;simp[ih]
theorem jH(x:List UInt8×List (List UInt8)):dO (bI x)=some x:=by
 simp only[dO,bI,ew,ai];rw[cP,xq];simp only[ai];rw[dg (g:=fun e=>ci e 0 17) [] (ew 0 17 [] _)]
 simp[li,bN]
theorem jN{α β:Type}{g:El→Option β}{f:α→El}{k:α→β}(l:List α)(h:∀x∈l,g (f x)=some (k x)):ev g (l.map f)=some (l.map k):=by
 induction l with
 |nil=>rfl
 |cons x r ih=>simp[ev,h x (by simp),ih fun y hy=>h y (by simp[hy])]
theorem qq(x:Mo)(h:x.1≤2147483647):ft (du x)=some ((x.1:Int),x.2):=by
 simp only[ft,du,ew,ai];rw[eE _ _ _ h];simp only[ai];rw[dg [] (jH x.2)]
 simp[bN]
theorem qr(ml:List Md)(h:ml.all (fun x=>bB x.1 2)=true):ev ft ((dR ml).map du)=some ml:=by
 rw[jN (k:=fun x=>((x.1:Int),x.2)) (dR ml) (fun x hx=>?_)]
 ·simp only[dR,List.map_map,Option.some.injEq]
  conv=>rhs;rw[←List.map_id ml]
  refine List.map_congr_left fun x hx=>?_
  have:=gD h hx;simp only[Function.comp,id];exact Prod.ext (by simp;omega) rfl
 ·simp only[dR,List.mem_map] at hx
  obtain⟨y,hy,rfl⟩:=hx;have:=gD h hy;exact qq _ (by show y.1.toNat≤_;omega)
theorem qv(c:Ct)(h:eL c=false):AR (ei c)=some c:=by
 obtain⟨oid,crit,has,value⟩:=c;have hv:has=false→value=[]:=by
  intro h0;subst h0
  simpa[eL] using h
 simp only[AR,ei,fQ,ew,ai];cases crit<;>cases has
 ·simp[eQ,fP,xq,da,bN,hv rfl]
 ·simp[eQ,fP,xq,da,El.cls,El.tag,bN]
 ·simp[eQ,fP,xq,da,El.cls,El.tag,go,bN,hv rfl]
 ·simp[eQ,fP,xq,da,El.cls,El.tag,go,bN]
theorem qw(l:List Ct)(h:l.any eL=false):ev AR (l.map ei)=some l:=by
 have:=jN (g:=AR) (f:=ei) (k:=id) l (fun x hx=>qv x (by
  cases hb:eL x
  ·rfl
  ·rw[←h];exact(List.any_eq_true.2 ⟨x,hx,hb⟩).symm))
 simpa using this
/- Filters. -/
theorem il(t:Int)(s:List UInt8)(r:List El)(h:s≠[]):df t (.mk 2 t false s []::r)=some (s,r):=by
 simp only[df];rw[dg (g:=fun e=>dK e 2 t) r (fJ 2 t s [])]
 simp[h]
theorem lj(rest:List El)(h0:da 2 1 rest=false):∀(l:List (List UInt8)) (n:Nat),l.length≤n→(∀s∈l,s≠[])→dT n (l.map (fun s=>El.mk 2 1 false s [])++rest)=some (l,rest)
 |[],0,_,_=>rfl
 |[],n+1,_,_=>by simp[dT,h0]
 |s::r,0,h,_=>by simp at h
 |s::r,n+1,h,hs=>by
  have ih:=lj rest h0 r n (by simp at h;omega) (fun x hx=>hs x (by simp[hx]));simp only[List.map_cons,List.cons_append,dT,da,El.cls,El.tag,decide_true,Bool.and_self,if_true];rw[il 1 s _ (hs s (by simp))]
  simp[ih]
theorem qy(p:Fl)(h:p.any.contains []=false):fe (bL p)=some (p.init,p.any,p.final):=by
 have hs:∀s∈p.any,s≠[]:=by
  rintro s hs rfl;rw[List.contains_iff_mem.2 hs] at h;cases h
 have hf:∀(i:List UInt8),(dT (p.any.map (fun s=>El.mk 2 1 false s [])++(if p.final=[] then[] else[El.mk 2 2 false p.final []])).length (p.any.map (fun s=>El.mk 2 1 false s [])++(if p.final=[] then[] else[El.mk 2 2 false p.final []]))).bind
   (fun a=>(if da 2 2 a.2 then df 2 a.2 else some ([],a.2)).bind fun f=>bN (i,a.1,f.1) f.2)=some (i,p.any,p.final):=by
  intro i;rw[lj _ (by split<;>simp[da,El.cls,El.tag]) p.any _ (by simp) hs];simp only[ai]
  by_cases h1:p.final=[]
  ·simp[h1,da,bN]
  ·simp[h1,da,El.cls,El.tag,il 2 _ _ h1,bN]
 unfold fe bL
 by_cases hi:p.init=[]
 ·simp only[hi,if_true,List.nil_append]
  have h0:da 2 0 (p.any.map (fun s=>El.mk 2 1 false s [])++(if p.final=[] then[] else[El.mk 2 2 false p.final []]))=false:=by
   cases p.any with
   |nil=>simp only[List.map_nil,List.nil_append];split<;>simp[da,El.cls,El.tag]
   |cons x r=>simp[da,El.cls,El.tag]
  rw[h0];simp only[aW,if_false,ai];exact hf []
 ·simp only[hi,if_false,List.cons_append,List.nil_append,da,El.cls,El.tag,decide_true,Bool.and_self,if_true]
  rw[il 0 _ _ hi];simp only[ai];exact hf p.init
theorem qz(p:Fl)(hs:bU p=true)(h2:¬(p.op=0∨p.op=1∨p.op=2)):eD (er p)=some [p]:=by
 obtain⟨op,n,typ,value,ini,fin,any⟩:=p;simp only at h2;simp only[bU,h2,if_false] at hs
 by_cases h3:op=3∨op=5∨op=6∨op=8
 ·rw[if_pos h3] at hs
  simp only[aI,aT] at hs;obtain⟨⟨⟨⟨rfl,rfl⟩,rfl⟩,rfl⟩,_⟩:=hs;have h7:op≠7:=by omega
  have h4:op≠4:=by omega
  simp only[er,h7,h4,if_false,eD,h2,cj];rw[ew]
  simp[xq,bN]
 ·rw[if_neg h3] at hs
  by_cases h4:op=4
  ·rw[if_pos h4] at hs
   simp only[aI,aT,Bool.not_eq_true'] at hs;obtain⟨⟨⟨⟨_,hany⟩,rfl⟩,rfl⟩,_⟩:=hs;subst h4;simp only[er,if_true,show ¬((4:Int)=7) by decide,if_false,eD,cj,show ¬((4:Int)=0∨(4:Int)=1∨(4:Int)=2) by decide];rw[ew];simp only[ai];rw[xq];simp only[ai];rw[dg (g:=fun e=>ci e 0 16) [] (ew 0 16 [] _)];simp only[ai];rw[qy _ hany]
   simp[bN]
  ·rw[if_neg h4] at hs
   by_cases h7:op=7
   ·rw[if_pos h7] at hs
    simp only[aI,aT] at hs;obtain⟨⟨⟨⟨⟨rfl,rfl⟩,rfl⟩,rfl⟩,rfl⟩,_⟩:=hs;subst h7;simp only[er,if_true,eD,show ¬((7:Int)=0∨(7:Int)=1∨(7:Int)=2) by decide,if_false];rw[fJ]
    rfl
   ·rw[if_neg h7] at hs
    cases hs
theorem ku:∀(k:Nat) (f r:List Fl),bG k f=some r→∃pre,f=pre++r∧(cD k f).2=r∧eD (cD k f).1=some pre
 |0,f,r,h=>by simp[bG] at h
 |k+1,[],r,h=>by simp[bG] at h
 |k+1,p::f,r,h=>by
  have it:∀(n:Nat) (f r:List Fl),fg (bG k) n f=some r→∃pre,f=pre++r∧(cT (cD k) n f).2=r∧(cT (cD k) n f).1.length=n∧en (cT (cD k) n f).1=some pre:=by
   intro n
   induction n with
   |zero=>
    intro f r h;simp only[fg,Option.some.injEq] at h;subst h;exact⟨[],rfl,rfl,rfl,by simp[cT,en]⟩
   |succ n ih=>
    intro f r h;simp only[fg] at h;cases hw:bG k f with
    |none=>rw[hw] at h;cases h
    |some q=>
     rw[hw] at h;obtain⟨p1,e1,e2,e3⟩:=ku k f q hw;obtain⟨p2,e4,e5,e6,e7⟩:=ih q r h;refine⟨p1++p2,by rw[e1,e4,List.append_assoc],?_,?_,?_⟩
     ·simp only[cT,e2];exact e5
     ·simp only[cT,e2,aG];omega
     ·simp only[cT,e2,en,e3,e7];rfl
  simp only[bG] at h
  by_cases hs:bU p=true
  ·rw[if_pos hs] at h
   by_cases h2:p.op=0∨p.op=1∨p.op=2
   ·obtain⟨pre,e1,e2,e3,e4⟩:=it _ _ _ h
    refine⟨p::pre,by rw[e1];rfl,?_,?_⟩
    ·simp only[cD,h2,if_true];exact e2
    ·simp only[cD,h2,if_true,eD,e4]
     obtain⟨op,n,typ,value,ini,fin,any⟩:=p;simp only at h2 e3⊢;simp only[bU,h2,if_true,aI,aT] at hs;obtain⟨⟨⟨⟨⟨⟨rfl,rfl⟩,rfl⟩,rfl⟩,rfl⟩,hn⟩,_⟩:=hs;have:(((cT (cD k) n.toNat f).1.length:Nat):Int)=n:=by omega
     simp[isE,El.cls,El.tag,El.cons,this]
   ·have hn:=iQ hs h2
    rw[hn] at h;simp only[Int.toNat_zero,fg,Option.some.injEq] at h;subst h;refine⟨[p],rfl,?_,?_⟩
    ·simp only[cD,h2,if_false]
    ·simp only[cD,h2,if_false]
     exact qz p hs h2
  ·rw[if_neg hs] at h
   cases h
def Mg.pl(m:Mg):Mg:={m with filt:=Sn,sel:=Sn,mods:=Sn,attrs:=Sn,ctl:=Sn}
def Ls.bare(l:Ls):Ls:={l with ctl:=[]}
theorem rO(c t:Int):da c t []=false:=rfl
theorem rP{m:Mg}{l:Ls}(h:iB m l=true):(m.op≠3→l.filt=[]∧l.sel=[])∧(m.op≠6→l.mods=[])∧(¬(m.op=8∨m.op=4)→l.attrs=[]):=by
 simp only[iB,aI,beq_iff_eq] at h;obtain⟨⟨⟨h1,h2⟩,h3⟩,h4⟩:=h;refine⟨fun h0=>⟨?_,?_⟩,fun h0=>?_,fun h0=>?_⟩
 ·simp only[iy,h0,if_false] at h1;exact List.length_eq_zero_iff.1 h1.symm
 ·simp only[iz,h0,if_false] at h2;exact List.length_eq_zero_iff.1 h2.symm
 ·simp only[gQ,h0,if_false] at h3;exact List.length_eq_zero_iff.1 h3.symm
 ·simp only[wQ,h0,if_false] at h4;exact List.length_eq_zero_iff.1 h4.symm
structure LsL (B:Nat) (w:World) (m:Mg) (l:Ls):Prop where
 filt:bM kdF (fun g=>B≤g) w m.filt l.filt
 sel:bM kdS (fun g=>B≤g) w m.sel l.sel
 mods:bM kdM (fun g=>B≤g) w m.mods l.mods
 attrs:bM kdA (fun g=>B≤g) w m.attrs l.attrs
 ctl:bM kdC (fun g=>B≤g) w m.ctl l.ctl
theorem LsL.to{B:Nat}{w w':World}{m:Mg}{l:Ls}(h:LsL B w m l){X:List Nat}(k:Lft X w.heap.size w w')(hX:∀j∈X,j<B):LsL B w' m l:=by
 have hk:∀g,B≤g→g<w.heap.size→w'.heap[g]?=w.heap[g]?∧B≤g:=fun g hg hl=>⟨k.old hl fun hm=>by have:=hX g hm;omega,hg⟩
 exact⟨h.filt.kept hk (by decide),h.sel.kept hk (by decide),h.mods.kept hk (by decide),h.attrs.kept hk (by decide),h.ctl.kept hk (by decide)⟩
theorem LsL.none(B:Nat)(w:World)(m:Mg):LsL B w m.pl {}:=⟨bM.nil _ _ _,bM.nil _ _ _,bM.nil _ _ _,bM.nil _ _ _,bM.nil _ _ _⟩
structure MsR (w:World) (P:Nat→Prop) (b M:Nat) (m:Mg) (r:List El) (wx:World):Prop where
 msg:Hc wx M m.row 32
 row:RowA (fun g=>P g∧g<w.heap.size) b r wx
 lft:Lft [b,M] w.heap.size w wx
 blt:b<w.heap.size
 mlt:M<w.heap.size
 ne:b≠M
 nP:∀g,P g→g≠M
theorem MsR.lftn{w wx wy:World}{P:Nat→Prop}{b M:Nat}{m:Mg}{r:List El}(h:MsR w P b M m r wx){X:List Nat}(k:Lft X wx.heap.size wx wy)(hX:∀j∈X,j=b∨j=M∨w.heap.size≤j):Lft [b,M] w.heap.size w wy:=by
 have hs:=h.lft.size;have hl:=h.lft;exact⟨k.os.trans hl.os,k.tape.trans hl.tape,k.output.trans hl.output,Nat.le_trans hs k.size,fun j hj hne=>(k.block j (by omega) fun hm=>by
  rcases hX j hm with h1|h1|h1
  ·exact hne (by simp[h1])
  ·exact hne (by simp[h1])
  ·omega).trans (hl.block j hj hne)⟩
theorem MsR.next{w wx wy:World}{P:Nat→Prop}{b M:Nat}{m:Mg}{r:List El}(h:MsR w P b M m r wx)(k:Lft [b] wx.heap.size wx wy)(r':List El)(hr:RowA (fun g=>P g∧g<w.heap.size) b r' wy):MsR w P b M m r' wy:=by
 have hs:=h.lft.size;exact⟨k.at h.msg (by have:=h.ne;simp;omega),hr,h.lftn k (by simp),h.blt,h.mlt,h.ne,h.nP⟩
theorem MsR.to{w wx wy:World}{P:Nat→Prop}{b M:Nat}{m:Mg}{r:List El}(h:MsR w P b M m r wx){X:List Nat}(k:Lft X wx.heap.size wx wy)(hX:∀j∈X,w.heap.size≤j):MsR w P b M m r wy:=by
 have h1:=h.blt;have h2:=h.mlt;exact⟨k.at h.msg fun hm=>by have:=hX _ hm;omega,h.row.keep k (fun hm=>by have:=hX _ hm;omega) (fun g hg _ hm=>by have:=hX _ hm;have:=hg.2;omega),h.lftn k (fun j hj=>.inr (.inr (hX j hj))),h1,h2,h.ne,h.nP⟩
theorem MsR.bel{w wx wy:World}{P:Nat→Prop}{b M:Nat}{m:Mg}{r:List El}(h:MsR w P b M m r wx)(k:Bw wx wy):MsR w P b M m r wy:=h.to (X:=[]) (.of k) (by simp)
theorem MsR.set{w wx:World}{P:Nat→Prop}{b M:Nat}{m m':Mg}{r:List El}(h:MsR w P b M m r wx)(k:Nat)(v:Value)(hc:m.row.setIfInBounds k v=m'.row):MsR w P b M m' r (wx.setCell ⟨M,k,none⟩ v):=by
 have k1:Lft [M] wx.heap.size wx (wx.setCell ⟨M,k,none⟩ v):=(Lft.refl wx).set _ _ _ (by simp);refine⟨?_,h.row.keep k1 (by simpa using h.ne) (fun g hg _=>by simpa using h.nP g hg.1),h.lftn k1 (by simp),h.blt,h.mlt,h.ne,h.nP⟩;rw[←hc];exact cq (i:=k) (u:=v) h.msg
theorem MsR.size{w wx:World}{P:Nat→Prop}{b M:Nat}{m:Mg}{r:List El}(h:MsR w P b M m r wx):w.heap.size≤wx.heap.size:=h.lft.size
def MgO(B M:Nat)(y:Mg×Ls)(w':World):Prop:=∃m:Mg,Hc w' M m.row 32∧m.pl=y.1∧LsL B w' m y.2∧m.ctl=Sn
theorem MsR.done{w wx:World}{P:Nat→Prop}{b M:Nat}{m:Mg}{r:List El}(h:MsR w P b M m r wx)(hm:m.pl=m):MgO w.heap.size M (m,({}:Ls)) wx∧RowA (fun g=>P g∧g<w.heap.size) b r wx:=
 ⟨⟨m,h.msg,hm,by have q:=LsL.none w.heap.size wx m;rw[hm] at q;exact q,by rw[←hm];rfl⟩,h.row⟩
theorem o0(P:Nat→Prop)(b M:Nat)(l:List El)(id:Int)(w:World)(hM:Hc w M (Mg.row {id:=id,op:=12}) 32)(hbM:b≠M)(hP:∀g,P g→g≠M)(h:RowA P b l w):
  Calls Tryz.prog 137 #[.pointer (some ⟨M,0,none⟩),.pointer (some ⟨b,0,none⟩)] w fun e w'=>Out (gV id l) (fun y v w'=>v=.tuple #[]∧MgO w.heap.size M y.1 w'∧RowA (fun g=>P g∧g<w.heap.size) b y.2 w') e w'∧Lft [b,M] w.heap.size w w':=by
 have h0:MsR w P b M {id:=id,op:=12} l w:=⟨hM,h.shut,Lft.refl w,h.lt,(gl hM),hbM,hP⟩;generalize hO:gV id l=O;simp only[gV] at hO;have HO:=hid hO;clear hO;have hblt:=h0.blt;have hmlt:=h0.mlt;clear h hM hbM hP
 go_enter Tryz.func137,Tryz.ntmps137
 have kc:=cQ _ b l w h0.row
 go_wp2_with fail
 refine ag kc ?_;rintro x w1 ⟨ho,hb⟩;have l1:=h0.lftn hb (by simp);have nx1:=h0.next hb;have hs1:=hb.size;clear kc hb h0;replace HO:=HO.out;generalize cg l=E at ho HO;rcases E with _|d
 ·obtain⟨rfl,rfl⟩:x=Pn∧none=O:=⟨ho,HO⟩
  exact⟨rfl,rfl,l1⟩
 obtain⟨v,rfl,rfl,hrow⟩:=ho
 try simp only[ai] at HO
 replace HO:=hid HO;have h1c:=nx1 _ hrow;clear nx1 hrow l1;have kc:=cQ _ b d.2 w1 h1c.row
 go_wp2_with fail
 refine ag kc ?_;rintro x w2 ⟨ho,hb⟩;have l2:=h1c.lftn hb (by simp);have nx2:=h1c.next hb;have hs2:=hb.size;clear kc hb h1c;replace HO:=HO.out;generalize cg d.2=E at ho HO;rcases E with _|n
 ·obtain⟨rfl,rfl⟩:x=Pn∧none=O:=⟨ho,HO⟩
  exact⟨rfl,rfl,l2⟩
 obtain⟨v,rfl,rfl,hrow⟩:=ho
 try simp only[ai] at HO
 replace HO:=hid HO;have h2c:=nx2 _ hrow;clear nx2 hrow l2;have kc:=nF _ b n.2 w2 h2c.row
 go_wp2_with fail
 refine ag kc ?_;rintro x w3 ⟨ho,hb⟩;have l3:=h2c.lftn hb (by simp);have nx3:=h2c.next hb;have hs3:=hb.size;clear kc hb h2c;replace HO:=HO.out;generalize fm n.2=E at ho HO;rcases E with _|y
 ·obtain⟨rfl,rfl⟩:x=Pn∧none=O:=⟨ho,HO⟩
  exact⟨rfl,rfl,l3⟩
 obtain⟨v,rfl,rfl,hrow⟩:=ho
 try simp only[ai] at HO
 replace HO:=hid HO;have h3c:=nx3 _ hrow;clear nx3 hrow l3;have q4:=cval h3c.msg 2 Es;have z4:=aj h3c.msg 2;have h4s:MsR w P b M ({id:=id,op:=12,dn:=d.1}:Mg) _ (w3.setCell ⟨M,2,none⟩ (.string ⟨List.toArray d.1⟩)):=h3c.set 2 (.string ⟨List.toArray d.1⟩) rfl;have q5:(w3.setCell ⟨M,2,none⟩ (.string ⟨List.toArray d.1⟩)).cell? ⟨M,15,none⟩=some (Es):=(aq h4s.msg 15).trans rfl;have z5:=aj h4s.msg 15;have h5s:MsR w P b M ({id:=id,op:=12,dn:=d.1,newRdn:=n.1}:Mg) _ ((w3.setCell ⟨M,2,none⟩ (.string ⟨List.toArray d.1⟩)).setCell ⟨M,15,none⟩ (.string ⟨List.toArray n.1⟩)):=h4s.set 15 (.string ⟨List.toArray n.1⟩) rfl;have q6:((w3.setCell ⟨M,2,none⟩ (.string ⟨List.toArray d.1⟩)).setCell ⟨M,15,none⟩ (.string ⟨List.toArray n.1⟩)).cell? ⟨M,17,none⟩=some (Bf):=(aq h5s.msg 17).trans rfl;have z6:=aj h5s.msg 17;have h6s:MsR w P b M ({id:=id,op:=12,dn:=d.1,newRdn:=n.1,delOld:=y.1}:Mg) _ (((w3.setCell ⟨M,2,none⟩ (.string ⟨List.toArray d.1⟩)).setCell ⟨M,15,none⟩ (.string ⟨List.toArray n.1⟩)).setCell ⟨M,17,none⟩ (.bool y.1)):=h5s.set 17 (.bool y.1) rfl;have kc:=gw _ b y.2 0 (((w3.setCell ⟨M,2,none⟩ (.string ⟨List.toArray d.1⟩)).setCell ⟨M,15,none⟩ (.string ⟨List.toArray n.1⟩)).setCell ⟨M,17,none⟩ (.bool y.1)) h6s.row
 go_wp2_with fail
 refine ag kc ?_;rintro x w7 ⟨ho,hb⟩;have l7:=h6s.lftn hb (by simp);have nx7:=h6s.next hb;have hs7:=hb.size;clear kc hb;replace HO:=HO.out;generalize eS 0 y.2=E at ho HO;rcases E with _|z
 ·obtain⟨rfl,rfl⟩:x=Pn∧none=O:=⟨ho,HO⟩
  exact⟨rfl,rfl,l7⟩
 obtain⟨v,rfl,rfl,hrow⟩:=ho
 try simp only[aw] at HO
 replace HO:=hid HO;have h7c:=nx7 _ hrow;clear nx7 hrow l7;have q8:=cval h7c.msg 16 Es;have z8:=aj h7c.msg 16;have h8s:MsR w P b M ({id:=id,op:=12,dn:=d.1,newRdn:=n.1,newSup:=z.1.1,delOld:=y.1}:Mg) _ (w7.setCell ⟨M,16,none⟩ (.string ⟨List.toArray z.1.1⟩)):=h7c.set 16 (.string ⟨List.toArray z.1.1⟩) rfl;have q9:(w7.setCell ⟨M,16,none⟩ (.string ⟨List.toArray z.1.1⟩)).cell? ⟨M,18,none⟩=some (Bf):=(aq h8s.msg 18).trans rfl;have z9:=aj h8s.msg 18;have h9s:MsR w P b M ({id:=id,op:=12,dn:=d.1,newRdn:=n.1,newSup:=z.1.1,delOld:=y.1,hasSup:=z.1.2}:Mg) _ ((w7.setCell ⟨M,16,none⟩ (.string ⟨List.toArray z.1.1⟩)).setCell ⟨M,18,none⟩ (.bool z.1.2)):=h8s.set 18 (.bool z.1.2) rfl
 go_wp2_with fail
 have hO:=HO.out;subst hO
 first|go_end0|(refine aH (v:=.tuple #[]) (by simp[results,Tryz.f137]) rfl ?_)
 exact⟨⟨_,rfl,rfl,h9s.done rfl⟩,h9s.lft⟩
theorem mq(P:Nat→Prop)(b M:Nat)(l:List El)(id:Int)(w:World)(hM:Hc w M (Mg.row {id:=id,op:=23}) 32)(hbM:b≠M)(hP:∀g,P g→g≠M)(h:RowA P b l w):
  Calls Tryz.prog 141 #[.pointer (some ⟨M,0,none⟩),.pointer (some ⟨b,0,none⟩)] w fun e w'=>Out (fI id l) (fun y v w'=>v=.tuple #[]∧MgO w.heap.size M y.1 w'∧RowA (fun g=>P g∧g<w.heap.size) b y.2 w') e w'∧Lft [b,M] w.heap.size w w':=by
 have h0:MsR w P b M {id:=id,op:=23} l w:=⟨hM,h.shut,Lft.refl w,h.lt,(gl hM),hbM,hP⟩;generalize hO:fI id l=O;simp only[fI,bS] at hO;have HO:=hid hO;clear hO;have hblt:=h0.blt;have hmlt:=h0.mlt;clear h hM hbM hP
 go_enter Tryz.func141,Tryz.ntmps141
 have kc:=cG _ b l w h0.row
 go_wp2_with fail
 refine ag kc ?_;rintro x w1 ⟨ho,hb⟩;have l1:=h0.lftn hb (by simp);have nx1:=h0.next hb;have hs1:=hb.size;clear kc hb h0;replace HO:=HO.out;generalize ch l=E at ho HO;rcases E with _|q
 ·obtain⟨rfl,rfl⟩:x=Pn∧none=O:=⟨ho,HO⟩
  exact⟨rfl,rfl,l1⟩
 obtain⟨v,rfl,u5,rfl,hse,hu,hrow⟩:=ho
 try simp only[ai] at HO
 replace HO:=hid HO;have h1c:=nx1 _ hrow;clear nx1 hrow l1;obtain⟨a5,c5,hf5⟩:=hu.shape;subst hf5;have kc:=gC q.1 _ 2 0 w1 (hu.mono fun _ _ _=>trivial)
 go_wp2_with fail
 refine ag kc ?_;rintro x w2 ⟨ho,hb⟩;have nx2:=h1c.to (X:=[]) (.of hb) (by simp);have l2:=nx2.lft;have hs2:=hb.size;clear kc hb h1c hu hse;replace HO:=HO.out;generalize dK q.1 2 0=E at ho HO;rcases E with _|s
 ·obtain⟨rfl,rfl⟩:x=Pn∧none=O:=⟨ho,HO⟩
  exact⟨rfl,rfl,l2⟩
 obtain⟨v,rfl,rfl⟩:=ho
 try simp only[ai,aw] at HO
 replace HO:=hid HO;have h2c:=nx2;clear nx2 l2;have q3:=cval h2c.msg 21 Es;have z3:=aj h2c.msg 21;have h3s:MsR w P b M ({id:=id,op:=23,oid:=s}:Mg) _ (w2.setCell ⟨M,21,none⟩ (.string ⟨List.toArray s⟩)):=h2c.set 21 (.string ⟨List.toArray s⟩) rfl;have kc:=gw _ b q.2 1 (w2.setCell ⟨M,21,none⟩ (.string ⟨List.toArray s⟩)) h3s.row
 go_wp2_with fail
 refine ag kc ?_;rintro x w4 ⟨ho,hb⟩;have l4:=h3s.lftn hb (by simp);have nx4:=h3s.next hb;have hs4:=hb.size;clear kc hb;replace HO:=HO.out;generalize eS 1 q.2=E at ho HO;rcases E with _|v
 ·obtain⟨rfl,rfl⟩:x=Pn∧none=O:=⟨ho,HO⟩
  exact⟨rfl,rfl,l4⟩
 obtain⟨v,rfl,rfl,hrow⟩:=ho
 try simp only[aw] at HO
 replace HO:=hid HO;have h4c:=nx4 _ hrow;clear nx4 hrow l4;have q5:=cval h4c.msg 20 Es;have z5:=aj h4c.msg 20;have h5s:MsR w P b M ({id:=id,op:=23,value:=v.1.1,oid:=s}:Mg) _ (w4.setCell ⟨M,20,none⟩ (.string ⟨List.toArray v.1.1⟩)):=h4c.set 20 (.string ⟨List.toArray v.1.1⟩) rfl;have q6:(w4.setCell ⟨M,20,none⟩ (.string ⟨List.toArray v.1.1⟩)).cell? ⟨M,22,none⟩=some (Bf):=(aq h5s.msg 22).trans rfl;have z6:=aj h5s.msg 22;have h6s:MsR w P b M ({id:=id,op:=23,value:=v.1.1,oid:=s,has:=v.1.2}:Mg) _ ((w4.setCell ⟨M,20,none⟩ (.string ⟨List.toArray v.1.1⟩)).setCell ⟨M,22,none⟩ (.bool v.1.2)):=h5s.set 22 (.bool v.1.2) rfl
 go_wp2_with fail
 have hO:=HO.out;subst hO
 first|go_end0|(refine aH (v:=.tuple #[]) (by simp[results,Tryz.f141]) rfl ?_)
 exact⟨⟨_,rfl,rfl,h6s.done rfl⟩,h6s.lft⟩
theorem lQ(P:Nat→Prop)(b M:Nat)(l:List El)(id:Int)(w:World)(hM:Hc w M (Mg.row {id:=id,op:=14}) 32)(hbM:b≠M)(hP:∀g,P g→g≠M)(h:RowA P b l w):
  Calls Tryz.prog 139 #[.pointer (some ⟨M,0,none⟩),.pointer (some ⟨b,0,none⟩)] w fun e w'=>Out (eZ id l) (fun y v w'=>v=.tuple #[]∧MgO w.heap.size M y.1 w'∧RowA (fun g=>P g∧g<w.heap.size) b y.2 w') e w'∧Lft [b,M] w.heap.size w w':=by
 have h0:MsR w P b M {id:=id,op:=14} l w:=⟨hM,h.shut,Lft.refl w,h.lt,(gl hM),hbM,hP⟩;generalize hO:eZ id l=O;simp only[eZ,bS] at hO;have HO:=hid hO;clear hO;have hblt:=h0.blt;have hmlt:=h0.mlt;clear h hM hbM hP
 go_enter Tryz.func139,Tryz.ntmps139
 have kc:=cQ _ b l w h0.row
 go_wp2_with fail
 refine ag kc ?_;rintro x w1 ⟨ho,hb⟩;have l1:=h0.lftn hb (by simp);have nx1:=h0.next hb;have hs1:=hb.size;clear kc hb h0;replace HO:=HO.out;generalize cg l=E at ho HO;rcases E with _|d
 ·obtain⟨rfl,rfl⟩:x=Pn∧none=O:=⟨ho,HO⟩
  exact⟨rfl,rfl,l1⟩
 obtain⟨v,rfl,rfl,hrow⟩:=ho
 try simp only[ai] at HO
 replace HO:=hid HO;have h1c:=nx1 _ hrow;clear nx1 hrow l1;have q2:=cval h1c.msg 2 Es;have z2:=aj h1c.msg 2;have h2s:MsR w P b M ({id:=id,op:=14,dn:=d.1}:Mg) _ (w1.setCell ⟨M,2,none⟩ (.string ⟨List.toArray d.1⟩)):=h1c.set 2 (.string ⟨List.toArray d.1⟩) rfl;have kc:=cG _ b d.2 (w1.setCell ⟨M,2,none⟩ (.string ⟨List.toArray d.1⟩)) h2s.row
 go_wp2_with fail
 refine ag kc ?_;rintro x w3 ⟨ho,hb⟩;have l3:=h2s.lftn hb (by simp);have nx3:=h2s.next hb;have hs3:=hb.size;clear kc hb;replace HO:=HO.out;generalize ch d.2=E at ho HO;rcases E with _|q
 ·obtain⟨rfl,rfl⟩:x=Pn∧none=O:=⟨ho,HO⟩
  exact⟨rfl,rfl,l3⟩
 obtain⟨v,rfl,u5,rfl,hse,hu,hrow⟩:=ho
 try simp only[ai] at HO
 replace HO:=hid HO;have h3c:=nx3 _ hrow;clear nx3 hrow l3;obtain⟨a5,c5,hf5⟩:=hu.shape;subst hf5;have kc:=dk q.1 _ 0 16 w3 (hu.mono fun _ _ _=>trivial) hse
 go_wp2_with fail
 refine ag kc ?_;rintro x w4 ⟨ho,hb⟩;have nx4:=h3c.to (X:=[]) (.of hb) (by simp);have l4:=nx4.lft;have hs4:=hb.size;have hsx:=h3c.size;clear kc hb h3c hu hse;replace HO:=HO.out;generalize ci q.1 0 16=E at ho HO;rcases E with _|ks
 ·obtain⟨rfl,rfl⟩:x=Pn∧none=O:=⟨ho,HO⟩
  exact⟨rfl,rfl,l4⟩
 obtain⟨v,rfl,b2,rfl,hb2ge,hrow2⟩:=ho
 try simp only[ai,aw] at HO
 replace HO:=hid HO;have h4c:=nx4;clear nx4 l4;have kc:=cQ _ b2 ks w4 hrow2
 go_wp2_with fail
 refine ag kc ?_;rintro x w5 ⟨ho,hb⟩;have nx5:=h4c.to (X:=[b2]) hb (by simp;omega);have l5:=nx5.lft;have hs5:=hb.size;clear kc hb h4c hrow2;replace HO:=HO.out;generalize cg ks=E at ho HO;rcases E with _|t
 ·obtain⟨rfl,rfl⟩:x=Pn∧none=O:=⟨ho,HO⟩
  exact⟨rfl,rfl,l5⟩
 obtain⟨v,rfl,rfl,hrow3⟩:=ho
 try simp only[ai] at HO
 replace HO:=hid HO;have h5c:=nx5;clear nx5 l5;have kc:=cQ _ b2 t.2 w5 hrow3
 go_wp2_with fail
 refine ag kc ?_;rintro x w6 ⟨ho,hb⟩;have nx6:=h5c.to (X:=[b2]) hb (by simp;omega);have l6:=nx6.lft;have hs6:=hb.size;clear kc hb h5c hrow3;replace HO:=HO.out;generalize cg t.2=E at ho HO;rcases E with _|v
 ·obtain⟨rfl,rfl⟩:x=Pn∧none=O:=⟨ho,HO⟩
  exact⟨rfl,rfl,l6⟩
 obtain⟨v,rfl,rfl,hrow4⟩:=ho
 try simp only[ai] at HO
 replace HO:=hid HO;have h6c:=nx6;clear nx6 l6;have hlt5:=hrow4.lt;have q7:=cval h6c.msg 19 Es;have z7:=aj h6c.msg 19;have h7s:MsR w P b M ({id:=id,op:=14,dn:=d.1,typ:=t.1}:Mg) _ (w6.setCell ⟨M,19,none⟩ (.string ⟨List.toArray t.1⟩)):=h6c.set 19 (.string ⟨List.toArray t.1⟩) rfl;have q8:(w6.setCell ⟨M,19,none⟩ (.string ⟨List.toArray t.1⟩)).cell? ⟨M,20,none⟩=some (Es):=(aq h7s.msg 20).trans rfl;have z8:=aj h7s.msg 20;have h8s:MsR w P b M ({id:=id,op:=14,dn:=d.1,typ:=t.1,value:=v.1}:Mg) _ ((w6.setCell ⟨M,19,none⟩ (.string ⟨List.toArray t.1⟩)).setCell ⟨M,20,none⟩ (.string ⟨List.toArray v.1⟩)):=h7s.set 20 (.string ⟨List.toArray v.1⟩) rfl;have row5:=(hrow4.keep (X:=[M]) ((Lft.refl w6).set M 19 (.string ⟨List.toArray t.1⟩) (by simp)) (by simp;omega) (fun g hg _=>by have:=hg.1;simp;omega)).keep (X:=[M]) ((Lft.refl _).set M 20 (.string ⟨List.toArray v.1⟩) (by simp)) (by simp;omega) (fun g hg _=>by have:=hg.1;simp;omega);have kc:=cX _ b2 v.2 _ row5
 go_wp2_with fail
 refine ag kc ?_;rintro x w9 ⟨ho,hb⟩;have nx9:=h8s.to (X:=[]) (.of hb) (by simp);have l9:=nx9.lft;have hs9:=hb.size;clear kc hb row5 hrow4;replace HO:=HO.out;rw[dJ] at HO;generalize bN () v.2=E at ho HO;rcases E with _|uu
 ·obtain⟨rfl,rfl⟩:x=Pn∧none=O:=⟨ho,HO⟩
  exact⟨rfl,rfl,l9⟩
 obtain⟨v,rfl,rfl⟩:=ho
 try simp only[aw] at HO
 replace HO:=hid HO;have h9c:=nx9;clear nx9 l9
 go_wp2_with fail
 have hO:=HO.out;subst hO
 first|go_end0|(refine aH (v:=.tuple #[]) (by simp[results,Tryz.f139]) rfl ?_)
 exact⟨⟨_,rfl,rfl,h9c.done rfl⟩,h9c.lft⟩
theorem mr(P:Nat→Prop)(b M:Nat)(l:List El)(id op:Int)(w:World)(hM:Hc w M (Mg.row {id:=id,op:=op}) 32)(hbM:b≠M)(hP:∀g,P g→g≠M)(h:RowA P b l w)(hop:op≠24):
  Calls Tryz.prog 143 #[.pointer (some ⟨M,0,none⟩),.pointer (some ⟨b,0,none⟩)] w fun e w'=>Out (dI id op l) (fun y v w'=>v=.tuple #[]∧MgO w.heap.size M y.1 w'∧RowA (fun g=>P g∧g<w.heap.size) b y.2 w') e w'∧Lft [b,M] w.heap.size w w':=by
 have h0:MsR w P b M {id:=id,op:=op} l w:=⟨hM,h.shut,Lft.refl w,h.lt,(gl hM),hbM,hP⟩;generalize hO:dI id op l=O;simp only[dI] at hO;simp only[hop,if_false] at hO;have HO:=hid hO;clear hO;have hblt:=h0.blt;have hmlt:=h0.mlt;clear h hM hbM hP
 go_enter Tryz.func143,Tryz.ntmps143
 have kc:=fd _ b l 10 w h0.row
 go_wp2_with fail
 refine ag kc ?_;rintro x w1 ⟨ho,hb⟩;have l1:=h0.lftn hb (by simp);have nx1:=h0.next hb;have hs1:=hb.size;clear kc hb h0;replace HO:=HO.out;generalize eR 10 l=E at ho HO;rcases E with _|c
 ·obtain⟨rfl,rfl⟩:x=Pn∧none=O:=⟨ho,HO⟩
  exact⟨rfl,rfl,l1⟩
 obtain⟨v,rfl,rfl,hrow⟩:=ho
 try simp only[ai] at HO
 replace HO:=hid HO;have h1c:=nx1 _ hrow;clear nx1 hrow l1;have kc:=cQ _ b c.2 w1 h1c.row
 go_wp2_with fail
 refine ag kc ?_;rintro x w2 ⟨ho,hb⟩;have l2:=h1c.lftn hb (by simp);have nx2:=h1c.next hb;have hs2:=hb.size;clear kc hb h1c;replace HO:=HO.out;generalize cg c.2=E at ho HO;rcases E with _|a
 ·obtain⟨rfl,rfl⟩:x=Pn∧none=O:=⟨ho,HO⟩
  exact⟨rfl,rfl,l2⟩
 obtain⟨v,rfl,rfl,hrow⟩:=ho
 try simp only[ai] at HO
 replace HO:=hid HO;have h2c:=nx2 _ hrow;clear nx2 hrow l2;have kc:=cQ _ b a.2 w2 h2c.row
 go_wp2_with fail
 refine ag kc ?_;rintro x w3 ⟨ho,hb⟩;have l3:=h2c.lftn hb (by simp);have nx3:=h2c.next hb;have hs3:=hb.size;clear kc hb h2c;replace HO:=HO.out;generalize cg a.2=E at ho HO;rcases E with _|t
 ·obtain⟨rfl,rfl⟩:x=Pn∧none=O:=⟨ho,HO⟩
  exact⟨rfl,rfl,l3⟩
 obtain⟨v,rfl,rfl,hrow⟩:=ho
 try simp only[ai] at HO
 replace HO:=hid HO;have h3c:=nx3 _ hrow;clear nx3 hrow l3;have q4:=cval h3c.msg 24 I0;have z4:=aj h3c.msg 24;have h4s:MsR w P b M ({id:=id,op:=op,code:=c.1}:Mg) _ (w3.setCell ⟨M,24,none⟩ (.int .i64 c.1)):=h3c.set 24 (.int .i64 c.1) rfl;have q5:(w3.setCell ⟨M,24,none⟩ (.int .i64 c.1)).cell? ⟨M,25,none⟩=some (Es):=(aq h4s.msg 25).trans rfl;have z5:=aj h4s.msg 25;have h5s:MsR w P b M ({id:=id,op:=op,code:=c.1,matched:=a.1}:Mg) _ ((w3.setCell ⟨M,24,none⟩ (.int .i64 c.1)).setCell ⟨M,25,none⟩ (.string ⟨List.toArray a.1⟩)):=h4s.set 25 (.string ⟨List.toArray a.1⟩) rfl;have q6:((w3.setCell ⟨M,24,none⟩ (.int .i64 c.1)).setCell ⟨M,25,none⟩ (.string ⟨List.toArray a.1⟩)).cell? ⟨M,26,none⟩=some (Es):=(aq h5s.msg 26).trans rfl;have z6:=aj h5s.msg 26;have h6s:MsR w P b M ({id:=id,op:=op,code:=c.1,matched:=a.1,text:=t.1}:Mg) _ (((w3.setCell ⟨M,24,none⟩ (.int .i64 c.1)).setCell ⟨M,25,none⟩ (.string ⟨List.toArray a.1⟩)).setCell ⟨M,26,none⟩ (.string ⟨List.toArray t.1⟩)):=h5s.set 26 (.string ⟨List.toArray t.1⟩) rfl;have q1:(((w3.setCell ⟨M,24,none⟩ (.int .i64 c.1)).setCell ⟨M,25,none⟩ (.string ⟨List.toArray a.1⟩)).setCell ⟨M,26,none⟩ (.string ⟨List.toArray t.1⟩)).cell? ⟨M,1,none⟩=some (.int .i64 op):=(aq h6s.msg 1).trans rfl;have i24:(op==24)=false:=aE hop
 go_wp2_with fail
 have hO:=HO.out;subst hO
 first|go_end0|(refine aH (v:=.tuple #[]) (by simp[results,Tryz.f143]) rfl ?_)
 exact⟨⟨_,rfl,rfl,h6s.done rfl⟩,h6s.lft⟩
theorem qA(P:Nat→Prop)(b M:Nat)(l:List El)(id:Int)(w:World)(hM:Hc w M (Mg.row {id:=id,op:=24}) 32)(hbM:b≠M)(hP:∀g,P g→g≠M)(h:RowA P b l w):
  Calls Tryz.prog 143 #[.pointer (some ⟨M,0,none⟩),.pointer (some ⟨b,0,none⟩)] w fun e w'=>Out (dI id 24 l) (fun y v w'=>v=.tuple #[]∧MgO w.heap.size M y.1 w'∧RowA (fun g=>P g∧g<w.heap.size) b y.2 w') e w'∧Lft [b,M] w.heap.size w w':=by
 have h0:MsR w P b M {id:=id,op:=24} l w:=⟨hM,h.shut,Lft.refl w,h.lt,(gl hM),hbM,hP⟩;generalize hO:dI id 24 l=O;simp only[dI,eq_self,if_true] at hO;have HO:=hid hO;clear hO;have hblt:=h0.blt;have hmlt:=h0.mlt;clear h hM hbM hP
 go_enter Tryz.func143,Tryz.ntmps143
 have kc:=fd _ b l 10 w h0.row
 go_wp2_with fail
 refine ag kc ?_;rintro x w1 ⟨ho,hb⟩;have l1:=h0.lftn hb (by simp);have nx1:=h0.next hb;have hs1:=hb.size;clear kc hb h0;replace HO:=HO.out;generalize eR 10 l=E at ho HO;rcases E with _|c
 ·obtain⟨rfl,rfl⟩:x=Pn∧none=O:=⟨ho,HO⟩
  exact⟨rfl,rfl,l1⟩
 obtain⟨v,rfl,rfl,hrow⟩:=ho
 try simp only[ai] at HO
 replace HO:=hid HO;have h1c:=nx1 _ hrow;clear nx1 hrow l1;have kc:=cQ _ b c.2 w1 h1c.row
 go_wp2_with fail
 refine ag kc ?_;rintro x w2 ⟨ho,hb⟩;have l2:=h1c.lftn hb (by simp);have nx2:=h1c.next hb;have hs2:=hb.size;clear kc hb h1c;replace HO:=HO.out;generalize cg c.2=E at ho HO;rcases E with _|a
 ·obtain⟨rfl,rfl⟩:x=Pn∧none=O:=⟨ho,HO⟩
  exact⟨rfl,rfl,l2⟩
 obtain⟨v,rfl,rfl,hrow⟩:=ho
 try simp only[ai] at HO
 replace HO:=hid HO;have h2c:=nx2 _ hrow;clear nx2 hrow l2;have kc:=cQ _ b a.2 w2 h2c.row
 go_wp2_with fail
 refine ag kc ?_;rintro x w3 ⟨ho,hb⟩;have l3:=h2c.lftn hb (by simp);have nx3:=h2c.next hb;have hs3:=hb.size;clear kc hb h2c;replace HO:=HO.out;generalize cg a.2=E at ho HO;rcases E with _|t
 ·obtain⟨rfl,rfl⟩:x=Pn∧none=O:=⟨ho,HO⟩
  exact⟨rfl,rfl,l3⟩
 obtain⟨v,rfl,rfl,hrow⟩:=ho
 try simp only[ai] at HO
 replace HO:=hid HO;have h3c:=nx3 _ hrow;clear nx3 hrow l3;have q4:=cval h3c.msg 24 I0;have z4:=aj h3c.msg 24;have h4s:MsR w P b M ({id:=id,op:=24,code:=c.1}:Mg) _ (w3.setCell ⟨M,24,none⟩ (.int .i64 c.1)):=h3c.set 24 (.int .i64 c.1) rfl;have q5:(w3.setCell ⟨M,24,none⟩ (.int .i64 c.1)).cell? ⟨M,25,none⟩=some (Es):=(aq h4s.msg 25).trans rfl;have z5:=aj h4s.msg 25;have h5s:MsR w P b M ({id:=id,op:=24,code:=c.1,matched:=a.1}:Mg) _ ((w3.setCell ⟨M,24,none⟩ (.int .i64 c.1)).setCell ⟨M,25,none⟩ (.string ⟨List.toArray a.1⟩)):=h4s.set 25 (.string ⟨List.toArray a.1⟩) rfl;have q6:((w3.setCell ⟨M,24,none⟩ (.int .i64 c.1)).setCell ⟨M,25,none⟩ (.string ⟨List.toArray a.1⟩)).cell? ⟨M,26,none⟩=some (Es):=(aq h5s.msg 26).trans rfl;have z6:=aj h5s.msg 26;have h6s:MsR w P b M ({id:=id,op:=24,code:=c.1,matched:=a.1,text:=t.1}:Mg) _ (((w3.setCell ⟨M,24,none⟩ (.int .i64 c.1)).setCell ⟨M,25,none⟩ (.string ⟨List.toArray a.1⟩)).setCell ⟨M,26,none⟩ (.string ⟨List.toArray t.1⟩)):=h5s.set 26 (.string ⟨List.toArray t.1⟩) rfl;have q1:(((w3.setCell ⟨M,24,none⟩ (.int .i64 c.1)).setCell ⟨M,25,none⟩ (.string ⟨List.toArray a.1⟩)).setCell ⟨M,26,none⟩ (.string ⟨List.toArray t.1⟩)).cell? ⟨M,1,none⟩=some (.int .i64 24):=(aq h6s.msg 1).trans rfl;have kc:=gw _ b t.2 10 (((w3.setCell ⟨M,24,none⟩ (.int .i64 c.1)).setCell ⟨M,25,none⟩ (.string ⟨List.toArray a.1⟩)).setCell ⟨M,26,none⟩ (.string ⟨List.toArray t.1⟩)) h6s.row
 go_wp2_with fail
 refine ag kc ?_;rintro x w7 ⟨ho,hb⟩;have l7:=h6s.lftn hb (by simp);have nx7:=h6s.next hb;have hs7:=hb.size;clear kc hb;replace HO:=HO.out;generalize eS 10 t.2=E at ho HO;rcases E with _|y
 ·obtain⟨rfl,rfl⟩:x=Pn∧none=O:=⟨ho,HO⟩
  exact⟨rfl,rfl,l7⟩
 obtain⟨v,rfl,rfl,hrow⟩:=ho
 try simp only[ai] at HO
 replace HO:=hid HO;have h7c:=nx7 _ hrow;clear nx7 hrow l7;obtain⟨s,hs⟩:=nmm y.1.1;obtain⟨c2,hc⟩:=nmm y.1.2;have hO:=HO.out;clear HO;rw[hs,hc] at hO;rw[hs,hc];clear hs hc;cases c2 with
 |false=>
  simp only[aW,false_and,if_false] at hO;have HO:=hid hO;clear hO
  go_wp2_with fail
  refine ag (show Calls _ _ _ _ _ from cN true w7) ?_;rintro e wz ⟨⟨_,rfl,rfl⟩,hwz⟩;obtain rfl:=hwz.symm;have q8:=cval h7c.msg 21 Es;have z8:=aj h7c.msg 21;have h8s:MsR w P b M ({id:=id,op:=24,oid:=s,code:=c.1,matched:=a.1,text:=t.1}:Mg) _ (w7.setCell ⟨M,21,none⟩ (.string ⟨List.toArray s⟩)):=h7c.set 21 (.string ⟨List.toArray s⟩) rfl;have kc:=gw _ b y.2 11 (w7.setCell ⟨M,21,none⟩ (.string ⟨List.toArray s⟩)) h8s.row
  go_wp2_with fail
  refine ag kc ?_;rintro x w9 ⟨ho,hb⟩;have l9:=h8s.lftn hb (by simp);have nx9:=h8s.next hb;have hs9:=hb.size;clear kc hb;replace HO:=HO.out;generalize eS 11 y.2=E at ho HO;rcases E with _|v
  ·obtain⟨rfl,rfl⟩:x=Pn∧none=O:=⟨ho,HO⟩
   exact⟨rfl,rfl,l9⟩
  obtain⟨v,rfl,rfl,hrow⟩:=ho
  try simp only[aw] at HO
  replace HO:=hid HO;have h9c:=nx9 _ hrow;clear nx9 hrow l9;have q10:=cval h9c.msg 20 Es;have z10:=aj h9c.msg 20;have h10s:MsR w P b M ({id:=id,op:=24,value:=v.1.1,oid:=s,code:=c.1,matched:=a.1,text:=t.1}:Mg) _ (w9.setCell ⟨M,20,none⟩ (.string ⟨List.toArray v.1.1⟩)):=h9c.set 20 (.string ⟨List.toArray v.1.1⟩) rfl;have q11:(w9.setCell ⟨M,20,none⟩ (.string ⟨List.toArray v.1.1⟩)).cell? ⟨M,22,none⟩=some (Bf):=(aq h10s.msg 22).trans rfl;have z11:=aj h10s.msg 22;have h11s:MsR w P b M ({id:=id,op:=24,value:=v.1.1,oid:=s,has:=v.1.2,code:=c.1,matched:=a.1,text:=t.1}:Mg) _ ((w9.setCell ⟨M,20,none⟩ (.string ⟨List.toArray v.1.1⟩)).setCell ⟨M,22,none⟩ (.bool v.1.2)):=h10s.set 22 (.bool v.1.2) rfl
  go_wp2_with fail
  have hO:=HO.out;subst hO
  first|go_end0|(refine aH (v:=.tuple #[]) (by simp[results,Tryz.f143]) rfl ?_)
  exact⟨⟨_,rfl,rfl,h11s.done rfl⟩,h11s.lft⟩
 |true=>
  by_cases hse:s=[]
  ·simp only[hse,and_self,if_true] at hO
   subst hse
   go_wp2_with fail
   refine ag (show Calls _ _ _ _ _ from cN false _) ?_;rintro e wz ⟨he,hwz⟩;obtain rfl:=hwz.symm;subst hO;have he2:e=Pn:=he;subst he2;exact⟨rfl,rfl,h7c.lft⟩
  ·simp only[hse,and_false,if_false] at hO
   have HO:=hid hO;clear hO;have hse2:s.isEmpty=false:=by cases s with
    |nil=>exact absurd rfl hse
    |cons a b=>rfl
   go_wp2_with fail
   refine ag (show Calls _ _ _ _ _ from cN true w7) ?_;rintro e wz ⟨⟨_,rfl,rfl⟩,hwz⟩;obtain rfl:=hwz.symm;have q8:=cval h7c.msg 21 Es;have z8:=aj h7c.msg 21;have h8s:MsR w P b M ({id:=id,op:=24,oid:=s,code:=c.1,matched:=a.1,text:=t.1}:Mg) _ (w7.setCell ⟨M,21,none⟩ (.string ⟨List.toArray s⟩)):=h7c.set 21 (.string ⟨List.toArray s⟩) rfl;have kc:=gw _ b y.2 11 (w7.setCell ⟨M,21,none⟩ (.string ⟨List.toArray s⟩)) h8s.row
   go_wp2_with fail
   refine ag kc ?_;rintro x w9 ⟨ho,hb⟩;have l9:=h8s.lftn hb (by simp);have nx9:=h8s.next hb;have hs9:=hb.size;clear kc hb;replace HO:=HO.out;generalize eS 11 y.2=E at ho HO;rcases E with _|v
   ·obtain⟨rfl,rfl⟩:x=Pn∧none=O:=⟨ho,HO⟩
    exact⟨rfl,rfl,l9⟩
   obtain⟨v,rfl,rfl,hrow⟩:=ho
   try simp only[aw] at HO
   replace HO:=hid HO;have h9c:=nx9 _ hrow;clear nx9 hrow l9;have q10:=cval h9c.msg 20 Es;have z10:=aj h9c.msg 20;have h10s:MsR w P b M ({id:=id,op:=24,value:=v.1.1,oid:=s,code:=c.1,matched:=a.1,text:=t.1}:Mg) _ (w9.setCell ⟨M,20,none⟩ (.string ⟨List.toArray v.1.1⟩)):=h9c.set 20 (.string ⟨List.toArray v.1.1⟩) rfl;have q11:(w9.setCell ⟨M,20,none⟩ (.string ⟨List.toArray v.1.1⟩)).cell? ⟨M,22,none⟩=some (Bf):=(aq h10s.msg 22).trans rfl;have z11:=aj h10s.msg 22;have h11s:MsR w P b M ({id:=id,op:=24,value:=v.1.1,oid:=s,has:=v.1.2,code:=c.1,matched:=a.1,text:=t.1}:Mg) _ ((w9.setCell ⟨M,20,none⟩ (.string ⟨List.toArray v.1.1⟩)).setCell ⟨M,22,none⟩ (.bool v.1.2)):=h10s.set 22 (.bool v.1.2) rfl
   go_wp2_with fail
   have hO:=HO.out;subst hO
   first|go_end0|(refine aH (v:=.tuple #[]) (by simp[results,Tryz.f143]) rfl ?_)
   exact⟨⟨_,rfl,rfl,h11s.done rfl⟩,h11s.lft⟩
theorem pa(P:Nat→Prop)(b M:Nat)(l:List El)(id:Int)(w:World)(hM:Hc w M (Mg.row {id:=id,op:=0}) 32)(hbM:b≠M)(hP:∀g,P g→g≠M)(h:RowA P b l w):
  Calls Tryz.prog 127 #[.pointer (some ⟨M,0,none⟩),.pointer (some ⟨b,0,none⟩)] w fun e w'=>Out (gU id l) (fun y v w'=>v=.tuple #[]∧MgO w.heap.size M y.1 w'∧RowA (fun g=>P g∧g<w.heap.size) b y.2 w') e w'∧Lft [b,M] w.heap.size w w':=by
 have h0:MsR w P b M {id:=id,op:=0} l w:=⟨hM,h.shut,Lft.refl w,h.lt,(gl hM),hbM,hP⟩;generalize hO:gU id l=O;simp only[gU,bS] at hO;have HO:=hid hO;clear hO;have hblt:=h0.blt;have hmlt:=h0.mlt;clear h hM hbM hP
 go_enter Tryz.func127,Tryz.ntmps127
 have kc:=fd _ b l 2 w h0.row
 go_wp2_with fail
 refine ag kc ?_;rintro x w1 ⟨ho,hb⟩;have l1:=h0.lftn hb (by simp);have nx1:=h0.next hb;have hs1:=hb.size;clear kc hb h0;replace HO:=HO.out;generalize eR 2 l=E at ho HO;rcases E with _|v
 ·obtain⟨rfl,rfl⟩:x=Pn∧none=O:=⟨ho,HO⟩
  exact⟨rfl,rfl,l1⟩
 obtain⟨v,rfl,rfl,hrow⟩:=ho
 try simp only[ai] at HO
 replace HO:=hid HO;have h1c:=nx1 _ hrow;clear nx1 hrow l1;have kc:=cQ _ b v.2 w1 h1c.row
 go_wp2_with fail
 refine ag kc ?_;rintro x w2 ⟨ho,hb⟩;have l2:=h1c.lftn hb (by simp);have nx2:=h1c.next hb;have hs2:=hb.size;clear kc hb h1c;replace HO:=HO.out;generalize cg v.2=E at ho HO;rcases E with _|d
 ·obtain⟨rfl,rfl⟩:x=Pn∧none=O:=⟨ho,HO⟩
  exact⟨rfl,rfl,l2⟩
 obtain⟨v,rfl,rfl,hrow⟩:=ho
 try simp only[ai] at HO
 replace HO:=hid HO;have h2c:=nx2 _ hrow;clear nx2 hrow l2;have q3:=cval h2c.msg 3 I0;have z3:=aj h2c.msg 3;have h3s:MsR w P b M ({id:=id,op:=0,ver:=v.1}:Mg) _ (w2.setCell ⟨M,3,none⟩ (.int .i64 v.1)):=h2c.set 3 (.int .i64 v.1) rfl;have q4:(w2.setCell ⟨M,3,none⟩ (.int .i64 v.1)).cell? ⟨M,2,none⟩=some (Es):=(aq h3s.msg 2).trans rfl;have z4:=aj h3s.msg 2;have h4s:MsR w P b M ({id:=id,op:=0,dn:=d.1,ver:=v.1}:Mg) _ ((w2.setCell ⟨M,3,none⟩ (.int .i64 v.1)).setCell ⟨M,2,none⟩ (.string ⟨List.toArray d.1⟩)):=h3s.set 2 (.string ⟨List.toArray d.1⟩) rfl;have kc:=gw _ b d.2 0 ((w2.setCell ⟨M,3,none⟩ (.int .i64 v.1)).setCell ⟨M,2,none⟩ (.string ⟨List.toArray d.1⟩)) h4s.row
 go_wp2_with fail
 refine ag kc ?_;rintro x w5 ⟨ho,hb⟩;have l5:=h4s.lftn hb (by simp);have nx5:=h4s.next hb;have hs5:=hb.size;clear kc hb;replace HO:=HO.out;generalize eS 0 d.2=E at ho HO;rcases E with _|y
 ·obtain⟨rfl,rfl⟩:x=Pn∧none=O:=⟨ho,HO⟩
  exact⟨rfl,rfl,l5⟩
 obtain⟨v,rfl,rfl,hrow⟩:=ho
 try simp only[ai] at HO
 replace HO:=hid HO;have h5c:=nx5 _ hrow;clear nx5 hrow l5;obtain⟨s,hs⟩:=nmm y.1.1;obtain⟨c2,hc⟩:=nmm y.1.2;have hO:=HO.out;clear HO;rw[hs,hc] at hO;rw[hs,hc];clear hs hc;have q6:=cval h5c.msg 5 Es;have z6:=aj h5c.msg 5;have h6s:MsR w P b M ({id:=id,op:=0,dn:=d.1,ver:=v.1,secret:=s}:Mg) _ (w5.setCell ⟨M,5,none⟩ (.string ⟨List.toArray s⟩)):=h5c.set 5 (.string ⟨List.toArray s⟩) rfl;cases c2 with
 |true=>
  simp only[if_true] at hO;have HO:=hid hO;clear hO
  go_wp2_with fail
  have hO:=HO.out;subst hO
  first|go_end0|(refine aH (v:=.tuple #[]) (by simp[results,Tryz.f127]) rfl ?_)
  exact⟨⟨_,rfl,rfl,h6s.done rfl⟩,h6s.lft⟩
 |false=>
  simp only[aW,if_false] at hO;have HO:=hid hO;clear hO;have q7:(w5.setCell ⟨M,5,none⟩ (.string ⟨List.toArray s⟩)).cell? ⟨M,4,none⟩=some (Bf):=(aq h6s.msg 4).trans rfl;have z7:=aj h6s.msg 4;have h7s:MsR w P b M ({id:=id,op:=0,dn:=d.1,ver:=v.1,sasl:=true,secret:=s}:Mg) _ ((w5.setCell ⟨M,5,none⟩ (.string ⟨List.toArray s⟩)).setCell ⟨M,4,none⟩ (.bool true)):=h6s.set 4 (.bool true) rfl;have kc:=cG _ b y.2 ((w5.setCell ⟨M,5,none⟩ (.string ⟨List.toArray s⟩)).setCell ⟨M,4,none⟩ (.bool true)) h7s.row
  go_wp2_with fail
  refine ag kc ?_;rintro x w8 ⟨ho,hb⟩;have l8:=h7s.lftn hb (by simp);have nx8:=h7s.next hb;have hs8:=hb.size;clear kc hb;replace HO:=HO.out;generalize ch y.2=E at ho HO;rcases E with _|q
  ·obtain⟨rfl,rfl⟩:x=Pn∧none=O:=⟨ho,HO⟩
   exact⟨rfl,rfl,l8⟩
  obtain⟨v,rfl,u5,rfl,hse,hu,hrow⟩:=ho
  try simp only[ai] at HO
  replace HO:=hid HO;have h8c:=nx8 _ hrow;clear nx8 hrow l8;obtain⟨a5,c5,hf5⟩:=hu.shape;subst hf5;have kc:=dk q.1 _ 2 3 w8 (hu.mono fun _ _ _=>trivial) hse
  go_wp2_with fail
  refine ag kc ?_;rintro x w9 ⟨ho,hb⟩;have nx9:=h8c.to (X:=[]) (.of hb) (by simp);have l9:=nx9.lft;have hs9:=hb.size;have hsx:=h8c.size;clear kc hb h8c hu hse;replace HO:=HO.out;generalize ci q.1 2 3=E at ho HO;rcases E with _|ks
  ·obtain⟨rfl,rfl⟩:x=Pn∧none=O:=⟨ho,HO⟩
   exact⟨rfl,rfl,l9⟩
  obtain⟨v,rfl,b2,rfl,hb2ge,hrow2⟩:=ho
  try simp only[ai,aw] at HO
  replace HO:=hid HO;have h9c:=nx9;clear nx9 l9;have kc:=cQ _ b2 ks w9 hrow2
  go_wp2_with fail
  refine ag kc ?_;rintro x w10 ⟨ho,hb⟩;have nx10:=h9c.to (X:=[b2]) hb (by simp;omega);have l10:=nx10.lft;have hs10:=hb.size;clear kc hb h9c hrow2;replace HO:=HO.out;generalize cg ks=E at ho HO;rcases E with _|t
  ·obtain⟨rfl,rfl⟩:x=Pn∧none=O:=⟨ho,HO⟩
   exact⟨rfl,rfl,l10⟩
  obtain⟨v,rfl,rfl,hrow3⟩:=ho
  try simp only[ai] at HO
  replace HO:=hid HO;have h10c:=nx10;clear nx10 l10;have hlt5:=hrow3.lt;have q11:=cval h10c.msg 5 (.string ⟨List.toArray s⟩);have z11:=aj h10c.msg 5;have h11s:MsR w P b M ({id:=id,op:=0,dn:=d.1,ver:=v.1,sasl:=true,secret:=t.1}:Mg) _ (w10.setCell ⟨M,5,none⟩ (.string ⟨List.toArray t.1⟩)):=h10c.set 5 (.string ⟨List.toArray t.1⟩) rfl;have row5:=hrow3.keep (X:=[M]) ((Lft.refl w10).set M 5 (.string ⟨List.toArray t.1⟩) (by simp)) (by simp;omega) (fun g hg _=>by have:=hg.1;simp;omega);obtain⟨ar,cr,qb⟩:=row5.cell;obtain⟨T,hT⟩:=nmm t.2;have hO:=HO.out;clear HO;rw[hT] at hO row5 qb;clear hT hrow3;cases T with
  |nil=>
   simp only[if_true,ai] at hO;have HO:=hid hO;clear hO;simp only[aU] at qb;have kc:=cX _ b2 [] _ row5
   go_wp2_with fail
   refine ag kc ?_;rintro x w12 ⟨ho,hb⟩;have nx12:=h11s.to (X:=[]) (.of hb) (by simp);have l12:=nx12.lft;have hs12:=hb.size;clear kc hb row5;replace HO:=HO.out;rw[dJ] at HO;generalize bN () ([]:List El)=E at ho HO;rcases E with _|uu
   ·obtain⟨rfl,rfl⟩:x=Pn∧none=O:=⟨ho,HO⟩
    exact⟨rfl,rfl,l12⟩
   obtain⟨v,rfl,rfl⟩:=ho
   try simp only[aw] at HO
   replace HO:=hid HO;have h12c:=nx12;clear nx12 l12
   go_wp2_with fail
   have hO:=HO.out;subst hO
   first|go_end0|(refine aH (v:=.tuple #[]) (by simp[results,Tryz.f127]) rfl ?_)
   exact⟨⟨_,rfl,rfl,h12c.done rfl⟩,h12c.lft⟩
  |cons e T=>
   simp only[List.cons_ne_nil, if_false] at hO;have HO:=hid hO;clear hO;simp only[aG] at qb;have i1:decide ((0:Int)<(T.length:Int)+1)=true:=aC (by omega);have kc:=cQ _ b2 (e::T) _ row5
   go_wp2_with fail
   refine ag kc ?_;rintro x w12 ⟨ho,hb⟩;have nx12:=h11s.to (X:=[b2]) hb (by simp;omega);have l12:=nx12.lft;have hs12:=hb.size;clear kc hb row5;replace HO:=HO.out;generalize cg (e::T)=E at ho HO;rcases E with _|t2
   ·obtain⟨rfl,rfl⟩:x=Pn∧none=O:=⟨ho,HO⟩
    exact⟨rfl,rfl,l12⟩
   obtain⟨v,rfl,rfl,hrow3⟩:=ho
   try simp only[ai,aw] at HO
   replace HO:=hid HO;have h12c:=nx12;clear nx12 l12;have kc:=cX _ b2 t2.2 _ hrow3
   go_wp2_with fail
   refine ag kc ?_;rintro x w13 ⟨ho,hb⟩;have nx13:=h12c.to (X:=[]) (.of hb) (by simp);have l13:=nx13.lft;have hs13:=hb.size;clear kc hb hrow3;replace HO:=HO.out;rw[dJ] at HO;generalize bN () t2.2=E at ho HO;rcases E with _|uu
   ·obtain⟨rfl,rfl⟩:x=Pn∧none=O:=⟨ho,HO⟩
    exact⟨rfl,rfl,l13⟩
   obtain⟨v,rfl,rfl⟩:=ho
   try simp only[aw] at HO
   replace HO:=hid HO;have h13c:=nx13;clear nx13 l13
   go_wp2_with fail
   have hO:=HO.out;subst hO
   first|go_end0|(refine aH (v:=.tuple #[]) (by simp[results,Tryz.f127]) rfl ?_)
   exact⟨⟨_,rfl,rfl,h13c.done rfl⟩,h13c.lft⟩
end Go.Proofs.YtfhghdcbofbceaaGreatDoor
