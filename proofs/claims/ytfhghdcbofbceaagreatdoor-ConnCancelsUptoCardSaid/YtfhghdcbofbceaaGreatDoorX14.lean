/- ReC, ReD, ReE, ReF. -/
import Derived.Test.YtfhghdcbofbceaaGreatDoorX13
namespace Go.Proofs.YtfhghdcbofbceaaGreatDoor
open Go.RowKit Go.Lib
set_option maxRecDepth 100000
set_option maxHeartbeats 16000000
theorem A7{α:Type}{g:El→Option α}{l:List El}{y:α×List El}(h:bS g l=some y):l.length=y.2.length+1∧y.2<:+l:=by
 cases l with
 |nil=>simp[bS,ch] at h
 |cons e r=>
  simp only[bS,ch,ai,aV] at h;obtain⟨x,_,rfl⟩:=h;exact⟨rfl,List.suffix_cons e r⟩
theorem oU(e:El)(r:List El):dN (e::r)=(cg (e::r)).bind fun y=>(dN y.2).map (y.1:: ·):=by
 simp only[dN,cg,bS,ch,ai];cases dK e 0 4<;>rfl
def slN:Value→Nat
 | .slice _ n _=>n
 |_=>0
theorem RowA.shut{P:Nat→Prop}{b:Nat}{l:List El}{w:World}(h:RowA P b l w):RowA (fun g=>P g∧g<w.heap.size) b l w:=by
 obtain⟨⟨v,h1,h2⟩,hs,hl,hn⟩:=h;exact⟨⟨v,h1,h2.kept fun g hg hlg=>⟨rfl,hg,hlg⟩⟩,hs,hl,fun g hg=>hn g hg.1⟩
theorem RowA.mono{P Q:Nat→Prop}{b:Nat}{l:List El}{w:World}(h:RowA P b l w)(k:∀g,P g→Q g)(hQ:∀g,Q g→g≠b):RowA Q b l w:=by
 obtain⟨⟨v,h1,h2⟩,hs,hl,hn⟩:=h;exact⟨⟨v,h1,h2.mono fun g hg _=>k g hg⟩,hs,hl,hQ⟩
theorem RowA.cell{P:Nat→Prop}{b:Nat}{l:List El}{w:World}(h:RowA P b l w):∃a c,w.cell? ⟨b,0,none⟩=some (.slice a l.length c):=by
 obtain⟨⟨v,h1,h2⟩,_⟩:=h;obtain⟨a,c,rfl⟩:=h2.shape;exact⟨a,c,(aq h1 0).trans (by simp)⟩
theorem Lft.old{X:List Nat}{w w':World}(h:Lft X w.heap.size w w'){g:Nat}(hl:g<w.heap.size)(hX:g∉X):w'.heap[g]?=w.heap[g]?:=h.block g hl hX
theorem Lft.grown{X:List Nat}{B:Nat}{w w' w2:World}{o:Option Nat}(h:Lft X B w w')(hg:w'.grownBy w2 o)(ho:∀g,o=some g→B≤g)(hB:B≤w'.heap.size):Lft X B w w2:=
 ⟨hg.os.trans h.os,hg.tape.trans h.tape,hg.output.trans h.output,Nat.le_trans h.size hg.size,fun j hj hne=>(hg.block j (by omega) fun he=>by have:=ho j he.symm;omega).trans (h.block j hj hne)⟩
theorem Tryz.info5S:(Tryz.prog.info? 9).map (fun i=>(i.zero,i.size,i.bytes))=some (some (Es),1,16):=by kernel_rfl
theorem jZ{w:World}{ops:Array Oper}{rest:List Oper}{o:Oper}{a:Act}{Q:Exit→Act→World→Prop}(hgd:o.guard=none)(s x:Operand)(ho:o.op=.call {callee:=.builtin .append,args:=#[s,x],argTypes:=#[27,27]})
  (B:Nat) (v:Value) (l:List (List UInt8)) (hs:a.eval s=v) (hown:dt kdS 9 B w v l) (e:List UInt8) (c:List Value) (b:Nat) (hx:a.eval x=.slice (some ⟨b,0,none⟩) 1 1) (hb:Hc w b c.toArray 9)
  (hke:kdS.R (fun g=>B≤g∧v.ownBlock≠some g) w e c) (hl:l.length≤1000000000) (hB:B≤w.heap.size)
  (h:∀a' c' w',dt kdS 9 B w' (.slice a' (l.length+1) c') (l++[e])→w.grownBy w' v.ownBlock→wpList Tryz.prog ops Q rest (a.put o.dst (.slice a' (l.length+1) c')) w'):wpList Tryz.prog ops Q (o::rest) a w:=by
 obtain⟨i0,hi0,hz0,hz1,hz2⟩:=info_parts Tryz.info5S;exact fN kdS 27 9 i0 _ 16 Tryz.underlying27 hi0 hz0 hz1 hz2 rfl (by decide) (by decide) hgd s x ho B v l hs hown e c b hx hb hke hl hB h
theorem Tryz.info5A:(Tryz.prog.info? 143).map (fun i=>(i.zero,i.size,i.bytes))=some (some (.agg #[Es,Sn]),2,40):=by kernel_rfl
theorem j9{w:World}{ops:Array Oper}{rest:List Oper}{o:Oper}{a:Act}{Q:Exit→Act→World→Prop}(hgd:o.guard=none)(s x:Operand)(ho:o.op=.call {callee:=.builtin .append,args:=#[s,x],argTypes:=#[29,29]})
  (B:Nat) (v:Value) (l:List (List UInt8×List (List UInt8))) (hs:a.eval s=v) (hown:dt kdA 143 B w v l) (e:List UInt8×List (List UInt8)) (c:List Value) (b:Nat) (hx:a.eval x=.slice (some ⟨b,0,none⟩) 1 1) (hb:Hc w b c.toArray 143)
  (hke:kdA.R (fun g=>B≤g∧v.ownBlock≠some g) w e c) (hl:l.length≤1000000000) (hB:B≤w.heap.size)
  (h:∀a' c' w',dt kdA 143 B w' (.slice a' (l.length+1) c') (l++[e])→w.grownBy w' v.ownBlock→wpList Tryz.prog ops Q rest (a.put o.dst (.slice a' (l.length+1) c')) w'):wpList Tryz.prog ops Q (o::rest) a w:=by
 obtain⟨i0,hi0,hz0,hz1,hz2⟩:=info_parts Tryz.info5A;exact fN kdA 29 143 i0 _ 40 Tryz.underlying29 hi0 hz0 hz1 hz2 rfl (by decide) (by decide) hgd s x ho B v l hs hown e c b hx hb hke hl hB h
theorem Tryz.info5M:(Tryz.prog.info? 112).map (fun i=>(i.zero,i.size,i.bytes))=some (some (.agg #[I0,Es,Sn]),3,48):=by kernel_rfl
theorem kj{w:World}{ops:Array Oper}{rest:List Oper}{o:Oper}{a:Act}{Q:Exit→Act→World→Prop}(hgd:o.guard=none)(s x:Operand)(ho:o.op=.call {callee:=.builtin .append,args:=#[s,x],argTypes:=#[28,28]})
  (B:Nat) (v:Value) (l:List (Md)) (hs:a.eval s=v) (hown:dt kdM 112 B w v l) (e:Md) (c:List Value) (b:Nat) (hx:a.eval x=.slice (some ⟨b,0,none⟩) 1 1) (hb:Hc w b c.toArray 112)
  (hke:kdM.R (fun g=>B≤g∧v.ownBlock≠some g) w e c) (hl:l.length≤1000000000) (hB:B≤w.heap.size)
  (h:∀a' c' w',dt kdM 112 B w' (.slice a' (l.length+1) c') (l++[e])→w.grownBy w' v.ownBlock→wpList Tryz.prog ops Q rest (a.put o.dst (.slice a' (l.length+1) c')) w'):wpList Tryz.prog ops Q (o::rest) a w:=by
 obtain⟨i0,hi0,hz0,hz1,hz2⟩:=info_parts Tryz.info5M;exact fN kdM 28 112 i0 _ 48 Tryz.underlying28 hi0 hz0 hz1 hz2 rfl (by decide) (by decide) hgd s x ho B v l hs hown e c b hx hb hke hl hB h
theorem Tryz.info5C:(Tryz.prog.info? 83).map (fun i=>(i.zero,i.size,i.bytes))=some (some (.agg #[Es,Bf,Bf,Es]),4,40):=by kernel_rfl
theorem Tryz.info5F:(Tryz.prog.info? 141).map (fun i=>(i.zero,i.size,i.bytes))=some (some (.agg Zf),7,104):=by kernel_rfl
def StR(P:Nat→Prop)(b:Nat)(l:List El)(w:World)(v:Value)(wr:World):Prop:=
 ∃(ss:List (List UInt8)) (r:List El),ss.length+r.length=l.length∧dN l=(dN r).map (ss++ ·)∧dt kdS 9 w.heap.size wr v ss∧RowA (fun g=>P g∧g<w.heap.size) b r wr∧Lft [b] w.heap.size w wr
theorem mo(P:Nat→Prop)(b:Nat)(l:List El)(w:World)(h:RowA P b l w):
  Calls Tryz.prog 154 #[.pointer (some ⟨b,0,none⟩)] w fun x w'=>Out (dN l) (fun y v w'=>bM kdS (fun g=>w.heap.size≤g) w' v y) x w'∧Lft [b] w.heap.size w w':=by
 have hblt:=h.lt;have hll:=h.len;have H:=hid h.shut;clear h
 go_enter Tryz.func154,Tryz.ntmps154
 go_wp2_with fail
 go_loopw [3] (fun v wr=>StR P b l w v wr) (fun v _=>l.length -slN v)
 case atStart=>exact⟨[],l,by simp,by cases dN l<;>rfl,dt.nil _ _ _ _,H.out,Lft.refl w⟩
 case round=>
  obtain⟨ss,r,hlen,ho,hown,hrow,hbe⟩:=hrel;obtain⟨av,cv,hsh⟩:=hown.shape;subst hsh;obtain⟨ar,cr,qb⟩:=hrow.cell;have hszr:=hbe.size;obtain⟨HW,HB⟩:=Cg hown hbe;cases r with
  |nil=>
   simp only[dN,aw,List.append_nil] at ho;have HO:=hid ho;simp only[aU] at qb;clear hown hbe ho hrow H
   go_wp2_with fail
   go_ret
   rw[HO.out];exact⟨⟨_,rfl,HW.out.lst⟩,HB.out⟩
  |cons e t=>
   have ks:=cQ _ b (e::t) wr hrow;rw[oU] at ho;have HO:=hid ho;simp only[aG] at qb hlen;have i1:decide ((0:Int)<(t.length:Int)+1)=true:=aC (by omega);clear hown hbe ho hrow
   go_wp2_with fail
   refine ag ks ?_;rintro x w2 ⟨ho2,hb2⟩;have hL2:=HB.out.trans hb2 (ah _);cases hO:cg (e::t) with
   |none=>
    rw[hO] at ho2;have ho3:=HO.out;rw[hO] at ho3;have hx:x=Pn:=ho2;subst hx;refine⟨rfl,?_⟩;rw[ho3];exact⟨rfl,hL2⟩
   |some y=>
    rw[hO] at ho2;obtain⟨v,rfl,rfl,hr2⟩:=ho2;have ho3:=HO.out;rw[hO] at ho3;simp only[ai] at ho3;have hyl:=(A7 hO).1;simp only[aG] at hyl;have o2:dt kdS 9 w.heap.size w2 (.slice av ss.length cv) ss:=HW.out.keep fun j hj hl=>hb2.old hl (by simp;omega)
    have g3:=alb w2 #[.string ⟨y.1.toArray⟩] 9;have x3:=alz w2 #[.string ⟨y.1.toArray⟩] 9;have o3:=o2.below g3;have hL3:=hL2.trans (.of g3) (ah _);have hs3:=hL3.size;have r3:=hr2.below g3;obtain⟨O3,X3,L3,R3,HO3⟩:=Cj o3 x3 hL3 r3 ho3;clear HW HB HO ks qb i1 hb2 hL2 ho3 hO hr2 o2 g3 x3 o3 hL3 r3 H
    go_wp2_with (at_builtin;refine jZ rfl (.tmp 10) (.tmp 13) rfl w.heap.size (.slice av ss.length cv) ss rfl O3.out y.1 [.string ⟨y.1.toArray⟩] w2.heap.size rfl X3.out rfl (by omega) hs3 ?_;intro a' c' w5 ho5 hg5)
    have hl5:Lft [b] w.heap.size w w5:=L3.out.grown hg5 (fun g hg=>(O3.out.lt hg).1) hs3;have r5:RowA (fun g=>P g∧g<w.heap.size) b y.2 w5:=by
     obtain⟨⟨vr,q1,q2⟩,qs,ql,qn⟩:=R3.out;have hne:∀g,g<w.heap.size→w5.heap[g]?=(w2.alloc (.cells #[.string ⟨y.1.toArray⟩] 9)).heap[g]?:=fun g hg=>hg5.block g (by omega) fun he=>by have:=(O3.out.lt he.symm).1;omega
     exact⟨⟨vr,(hne b hblt).trans q1,q2.kept fun g hg hl=>⟨hne g hg.2,hg⟩⟩,qs,ql,qn⟩
    refine⟨⟨ss++[y.1],y.2,by simp;omega,?_,?_,r5,hl5⟩,by simp only[slN];omega⟩
    ·rw[HO3.out]
     cases dN y.2<;>simp
    ·exact ho5
theorem dJ{α:Type}(x:α)(l:List El):bN x l=(bN () l).map fun _=>x:=by
 unfold bN
 split<;>rfl
theorem nS(el:El)(u:Value)(w:World)(h:bf (fun _=>True) w u el.kids)(hs:SmE el):
  Calls Tryz.prog 155 #[.agg (elA el u)] w fun e w'=>Out (dO el) (fun y v w'=>∃c:List Value,v=.agg c.toArray∧kdA.R (fun g=>w.heap.size≤g) w' y c) e w'∧Bw w w':=by
 obtain⟨a,c,hf⟩:=h.shape;subst hf;have b1:Bw w ((w.alloc (.cells (Er el a c) 40)).alloc (.cells #[Es,Sn] 143)):=((aA _ _).alloc (ah _) _).alloc (by simp) _;have r1:Hc ((w.alloc (.cells (Er el a c) 40)).alloc (.cells #[Es,Sn] 143)) w.heap.size (Er el a c) 40:=(alloc_old _ _ _ (by simp)).trans (fb _ _ _ rfl);have n1:Hc ((w.alloc (.cells (Er el a c) 40)).alloc (.cells #[Es,Sn] 143)) (w.heap.size+1) #[Es,Sn] 143:=fb _ _ _ (by simp);have kc:=dk el _ 0 16 ((w.alloc (.cells (Er el a c) 40)).alloc (.cells #[Es,Sn] 143)) (h.below b1) hs;generalize hO:dO el=O;simp only[dO,bS] at hO;have HO:=hid hO;clear hO;unfold elA at kc⊢;clear h hs
 go_enter Tryz.func155,Tryz.ntmps155
 go_upto_region 1 with fail
 generalize((w.alloc (.cells (Er el a c) 40)).alloc (.cells #[Es,Sn] 143))=w1 at b1 r1 n1 kc⊢;have hn1:=(gl n1)
 go_wp2_with (refine ldE (.tmp 1) r1 rfl ?_)
 refine ag kc ?_;rintro x w2 ⟨ho,hb⟩;have b2:=btt b1 hb;have n2:=bk hb n1;have hs12:=hb.size;clear kc hb r1 n1 b1;replace HO:=HO.out;generalize ci el 0 16=E at ho HO;rcases E with _|ks
 ·obtain⟨rfl,rfl⟩:x=Pn∧none=O:=⟨ho,HO⟩
  exact⟨rfl,rfl,b2⟩
 obtain⟨v,rfl,b,rfl,hbge,hrow⟩:=ho
 try simp only[ai] at HO
 replace HO:=hid HO;have kc:=cQ _ b ks w2 hrow
 go_wp2_with fail
 refine ag kc ?_;rintro x w3 ⟨ho,hb⟩;have b3:=b2.trans (hb.below1 (B:=w.heap.size) (by omega) b2.size);have n3:=hb.at n2 (by simp;omega);have hs23:=hb.size;clear kc hb n2 b2 hrow;replace HO:=HO.out;generalize cg ks=E at ho HO;rcases E with _|t
 ·obtain⟨rfl,rfl⟩:x=Pn∧none=O:=⟨ho,HO⟩
  exact⟨rfl,rfl,b3⟩
 obtain⟨v,rfl,rfl,hrow⟩:=ho
 try simp only[ai] at HO
 replace HO:=hid HO;have m4:=alb w3 #[.string ⟨t.1.toArray⟩,Sn] 143;have x4:=alz w3 #[.string ⟨t.1.toArray⟩,Sn] 143;have row4:=hrow.shut.below m4;have n4:=bk m4 n3;have b4:=btt b3 m4;have hb3:=hrow.lt;have hs34:=(gl x4);obtain⟨X4,N4⟩:=Cg x4 n4;clear hrow n3 b3 m4 x4 n4;have kc:=cG _ b t.2 (w3.alloc (.cells #[.string ⟨t.1.toArray⟩,Sn] 143)) row4
 go_wp2_with fail
 refine ag kc ?_;rintro x w5 ⟨ho,hb⟩;have b5:=b4.trans (hb.below1 (B:=w.heap.size) (by omega) b4.size);have n5:=hb.at N4.out (by simp;omega);have x5:=hb.at X4.out (by simp;omega);have hs45:=hb.size;clear kc hb N4 X4 b4 row4;replace HO:=HO.out;generalize ch t.2=E at ho HO;rcases E with _|q
 ·obtain⟨rfl,rfl⟩:x=Pn∧none=O:=⟨ho,HO⟩
  exact⟨rfl,rfl,b5⟩
 obtain⟨v,rfl,u5,rfl,hse,hu,hrow⟩:=ho
 try simp only[ai] at HO
 replace HO:=hid HO;obtain⟨a5,c5,hf5⟩:=hu.shape;subst hf5;have kc:=dk q.1 _ 0 17 w5 (hu.mono fun _ _ _=>trivial) hse
 go_wp2_with fail
 refine ag kc ?_;rintro x w6 ⟨ho,hb⟩;have b6:=btt b5 hb;have n6:=bk hb n5;have x6:=bk hb x5;have hs56:=hb.size;have row6:=hrow.below hb;clear kc hb n5 x5 b5 hrow hu;replace HO:=HO.out;generalize ci q.1 0 17=E at ho HO;rcases E with _|ks2
 ·obtain⟨rfl,rfl⟩:x=Pn∧none=O:=⟨ho,HO⟩
  exact⟨rfl,rfl,b6⟩
 obtain⟨v,rfl,b2,rfl,hb2ge,hrow2⟩:=ho
 try simp only[ai,aw] at HO
 replace HO:=hid HO;have kc:=mo _ b2 ks2 w6 hrow2
 go_wp2_with fail
 refine ag kc ?_;rintro x w7 ⟨ho,hb⟩;have b7:=b6.trans (hb.below1 (B:=w.heap.size) (by omega) b6.size);have n7:=hb.at n6 (by simp;omega);have x7:=hb.at x6 (by simp;omega);have hs67:=hb.size;have row7:=row6.keep hb (by simp;omega) (fun g hg _=>by have:=hg.2;simp;omega);clear kc hb n6 x6 b6 row6 hrow2;replace HO:=HO.out;generalize dN ks2=E at ho HO;rcases E with _|vs
 ·obtain⟨rfl,rfl⟩:x=Pn∧none=O:=⟨ho,HO⟩
  exact⟨rfl,rfl,b7⟩
 obtain⟨v,rfl,hl⟩:=ho
 try simp only[ai] at HO
 replace HO:=hid HO;obtain⟨a7,c7,hf7⟩:=hl.shape;subst hf7;have q7:=cval x7 1 Sn;have z7:=aj x7 1;have m8:Lft [w3.heap.size] w7.heap.size w7 (w7.setCell ⟨w3.heap.size,1,none⟩ (.slice a7 vs.length c7)):=(Lft.refl w7).set _ _ _ (by simp);have x8:Hc (w7.setCell ⟨w3.heap.size,1,none⟩ (.slice a7 vs.length c7)) w3.heap.size #[.string ⟨t.1.toArray⟩,.slice a7 vs.length c7] 143:=cq (i:=1) (u:=.slice a7 vs.length c7) x7;have n8:=m8.at n7 (by simp;omega);have b8:=b7.trans (m8.below1 (B:=w.heap.size) (by omega) b7.size);have row8:=row7.keep m8 (by simp;omega) (fun g hg _=>by have:=hg.2;simp;omega);have l8:bM kdS (fun g=>w6.heap.size≤g) (w7.setCell ⟨w3.heap.size,1,none⟩ (.slice a7 vs.length c7)) (.slice a7 vs.length c7) vs:=hl.kept (fun g hg hlt=>⟨m8.old hlt (by simp;omega),by omega⟩) (by decide);have hs78:=m8.size;obtain⟨X8,N8,B8,L8⟩:=Ci x8 n8 b8 l8;clear m8 x8 n8 b8 l8 n7 b7 row7 hl x7;have kc:=cX _ b q.2 _ row8
 go_wp2_with fail
 refine ag kc ?_;rintro x w9 ⟨ho,hb⟩;have b9:=B8.out.trans (hb.mono B8.out.size);have n9:=bk hb N8.out;have x9:=bk hb X8.out;have l9:=L8.out.below hb (by decide);clear kc hb N8 X8 B8 L8 row8 q7 z7;replace HO:=HO.out;rw[dJ] at HO;generalize bN () q.2=E at ho HO;rcases E with _|uu
 ·obtain⟨rfl,rfl⟩:x=Pn∧none=O:=⟨ho,HO⟩
  exact⟨rfl,rfl,b9⟩
 obtain⟨v,rfl,rfl⟩:=ho
 try simp only[aw] at HO
 replace HO:=hid HO;have m10:Lft [w.heap.size+1] w9.heap.size w9 (w9.setRow (w.heap.size+1) #[.string ⟨t.1.toArray⟩,.slice a7 vs.length c7]):=(Lft.refl w9).row _ _ (by simp);have b10:=b9.trans (m10.below1 (B:=w.heap.size) (by omega) b9.size);have n10:=setRow_heap w9 (w.heap.size+1) _ #[.string ⟨t.1.toArray⟩,.slice a7 vs.length c7] _ _ n9;have l10:bM kdS (fun g=>w.heap.size≤g) (w9.setRow (w.heap.size+1) #[.string ⟨t.1.toArray⟩,.slice a7 vs.length c7]) (.slice a7 vs.length c7) vs:=l9.kept (fun g hg hlt=>⟨m10.old hlt (by simp;omega),by omega⟩) (by decide);obtain⟨B10,L10,N10⟩:=Ch b10 l10 n10;clear b10 l10 n10 m10 b9 l9
 go_wp2_with (first|(refine bg rfl 143 (.tmp 4) rfl w3.heap.size 143 _ (0,0) (by rfl) x9 _ Tryz.underlying143 rfl (by rfl) ?_)|(refine bh rfl 143 (.tmp 2) (.tmp 17) rfl (w.heap.size+1) 143 _ #[.string ⟨t.1.toArray⟩,.slice a7 vs.length c7] (by rfl) (by rfl) n9 (by rfl) (by rfl) (by simp[Value.oneCell']) ?_))
 have hO:=HO.out;subst hO;refine aH (v:=.agg #[.string ⟨t.1.toArray⟩,.slice a7 vs.length c7]) ?_ rfl ⟨⟨_,rfl,[.string ⟨t.1.toArray⟩,.slice a7 vs.length c7],rfl,_,rfl,L10.out⟩,B10.out⟩;have hr:=aJ (P:=Tryz.prog) _ (w.heap.size+1) 143 143 #[.string ⟨t.1.toArray⟩,.slice a7 vs.length c7] (0,0) _ N10.out (show Tryz.prog.underlying 143=_ from Tryz.underlying143) (by rfl) (by rfl)
 simp[results,Tryz.f155]
 exact hr
def LpR{α:Type}(kd:Kd α)(te:TypeId)(g:El→Option α)(O:Option (List α))(n:Nat)(P:Nat→Prop)(b:Nat)(w:World)(v:Value)(wr:World):Prop:=
 ∃(ss:List α) (r:List El),ss.length+r.length=n∧(ev g r).map (ss++ ·)=O∧dt kd te w.heap.size wr v ss∧RowA (fun g=>P g∧g<w.heap.size) b r wr∧Lft [b] w.heap.size w wr
theorem LpR.start{α:Type}(kd:Kd α)(te:TypeId)(g:El→Option α){O:Option (List α)}{P:Nat→Prop}{b:Nat}{w:World}{l:List El}(h:RowA P b l w)(hO:ev g l=O):LpR kd te g O l.length P b w (Sn) w:=
 ⟨[],l,by simp,by rw[←hO];cases ev g l<;>rfl,dt.nil _ _ _ _,h.shut,Lft.refl w⟩
theorem RowA.grown{P:Nat→Prop}{b B:Nat}{r:List El}{w w':World}{o:Option Nat}(h:RowA (fun g=>P g∧g<B) b r w)(hg:w.grownBy w' o)(ho:∀g,o=some g→B≤g)(hb:b<B):RowA (fun g=>P g∧g<B) b r w':=by
 obtain⟨⟨v,h1,h2⟩,hs,hl,hn⟩:=h;have hne:∀g,g<B→g<w.heap.size→w'.heap[g]?=w.heap[g]?:=fun g hg1 hg2=>hg.block g hg2 fun he=>by have:=ho g he.symm;omega
 exact⟨⟨v,(hne b hb (gl h1)).trans h1,h2.kept fun g hg1 hl1=>⟨hne g hg1.2 hl1,hg1⟩⟩,hs,hl,hn⟩
theorem jG(el:El)(u:Value)(w:World)(h:bf (fun _=>True) w u el.kids)(hs:SmE el):
  Calls Tryz.prog 134 #[.agg (elA el u)] w fun e w'=>Out (m0 dO el) (fun y v w'=>bM kdA (fun g=>w.heap.size≤g) w' v y) e w'∧Bw w w':=by
 obtain⟨a,c,hf⟩:=h.shape;subst hf;have b1:=alb w (Er el a c) 40;have r1:=alz w (Er el a c) 40;have kc:=dk el _ 0 16 _ (h.below b1) hs;generalize hO:m0 dO el=O;simp only[m0] at hO;have HO:=hid hO;clear hO;unfold elA at kc⊢;clear h hs
 go_enter Tryz.func134,Tryz.ntmps134
 go_upto_region 1 with fail
 generalize w.alloc (.cells (Er el a c) 40)=w1 at b1 r1 kc⊢
 go_upto_region 2 with fail
 go_wp2_with (refine ldE (.tmp 1) r1 rfl ?_)
 refine ag kc ?_;rintro x w2 ⟨ho,hb⟩;have b2:=btt b1 hb;have hs12:=hb.size;have hs1:=b1.size;clear kc hb r1 b1;replace HO:=HO.out;generalize ci el 0 16=E at ho HO;rcases E with _|ks
 ·obtain⟨rfl,rfl⟩:x=Pn∧none=O:=⟨ho,HO⟩
  exact⟨rfl,rfl,b2⟩
 obtain⟨v,rfl,b,rfl,hbge,hrow⟩:=ho
 try simp only[ai] at HO
 replace HO:=hid HO;have hO:=HO.out;have hbl:=hrow.lt;have hkl:=hrow.len;have hst:=LpR.start kdA 143 dO hrow hO;have HS:=hid hst;generalize ks.length=n at HS hkl;clear HO hO hst hrow
 go_wp2_with fail
 go_loopw [3] (fun v wr=>LpR kdA 143 dO O n (fun g=>w1.heap.size≤g∧g≠b) b w2 v wr) (fun v _=>n -slN v)
 case atStart=>exact HS.out
 case round=>
  obtain⟨ss,r,hlen,ho,hown,hrow,hbe⟩:=hrel;obtain⟨av,cv,hsh⟩:=hown.shape;subst hsh;obtain⟨ar,cr,qb⟩:=hrow.cell;have hszr:=hbe.size;obtain⟨HW,HB,HO⟩:=Ch hown hbe ho;cases r with
  |nil=>
   simp only[aU] at qb;clear hown hbe ho hrow HS
   go_wp2_with fail
   go_ret
   have hO:=HO.out;simp only[ev,aw,List.append_nil] at hO;subst hO;exact⟨⟨_,rfl,HW.out.lst.mono (fun g hg _=>by omega) (by decide)⟩,b2.trans (HB.out.below1 (B:=w.heap.size) (by omega) b2.size)⟩
  |cons e t=>
   simp only[aG] at qb hlen;have i1:decide ((0:Int)<(t.length:Int)+1)=true:=aC (by omega);have kc:=cG _ b (e::t) wr hrow;have hO:=HO.out;simp only[ev] at hO;clear HO;have HO:=hid hO;clear hown hbe ho hrow HS hO
   go_wp2_with fail
   refine ag kc ?_;rintro x w3 ⟨ho,hb⟩;have l3:=HB.out.trans hb (ah _);have o3:dt kdA 143 w2.heap.size w3 (.slice av ss.length cv) ss:=HW.out.keep fun j hj hl=>hb.old hl (by simp;omega)
   have hs3:=hb.size;obtain⟨v,rfl,u3,rfl,hse,hu,hrow⟩:=ho;obtain⟨a3,c3,hf3⟩:=hu.shape;subst hf3;have hlt:∀{g:Nat},(Value.slice av ss.length cv).ownBlock=some g→w2.heap.size≤g∧g<wr.heap.size:=fun hg=>HW.out.lt hg
   have hF:∀w',Bw w3 w'→Bw w w':=fun w' k=>b2.trans ((l3.trans (.of k) (ah _)).below1 (B:=w.heap.size) (by omega) b2.size)
   obtain⟨O3,L3,R3⟩:=Ch o3 l3 hrow;have k3:=aA w3.heap.size w3;clear kc hb HB HW qb i1 o3 l3 hrow;have kc:=nS e _ w3 (hu.mono fun _ _ _=>trivial) hse
   go_wp2_with fail
   refine ag kc ?_;rintro x w4 ⟨ho,hb⟩;have k4:Bw w3 w4:=k3.trans (hb.mono (by omega));have hs4:=hb.size;clear kc hb hu k3;replace HO:=HO.out;generalize dO e=E at ho HO;rcases E with _|y
   ·obtain⟨rfl,rfl⟩:x=Pn∧none=O:=⟨ho,HO⟩
    exact⟨rfl,rfl,(hF _ k4)⟩
   obtain⟨v,rfl,cc,rfl,u4,rfl,hl4⟩:=ho
   try simp only[ai] at HO
   replace HO:=hid HO;obtain⟨a4,c4,hf4⟩:=hl4.shape;subst hf4;have m5:=alb w4 #[.string ⟨y.1.toArray⟩,.slice a4 y.2.length c4] 143;have x5:Hc (w4.alloc (.cells #[.string ⟨y.1.toArray⟩,.slice a4 y.2.length c4] 143)) w4.heap.size (List.toArray [.string ⟨y.1.toArray⟩,.slice a4 y.2.length c4]) 143:=fb _ _ _ rfl;have k5:Bw w3 (w4.alloc (.cells #[.string ⟨y.1.toArray⟩,.slice a4 y.2.length c4] 143)):=k4.trans (m5.mono (by omega));have o5:=O3.out.below k5;have l5:=L3.out.trans (.of k5) (ah _);have row5:=R3.out.below k5;have hs5:=m5.size;have c5:kdA.R (fun g=>w2.heap.size≤g∧(Value.slice av ss.length cv).ownBlock≠some g) (w4.alloc (.cells #[.string ⟨y.1.toArray⟩,.slice a4 y.2.length c4] 143)) y [.string ⟨y.1.toArray⟩,.slice a4 y.2.length c4]:=
    ⟨_,rfl,hl4.kept (fun g hg hl=>⟨m5.block g hl,by omega,fun he=>by have:=(hlt he).2;omega⟩) (by decide)⟩
   obtain⟨O5,X5,L5,R5,C5⟩:=Cj o5 x5 l5 row5 c5;clear m5 x5 k5 o5 l5 row5 c5 O3 L3 R3 k4 hl4 hF
   go_wp2_with (at_builtin;refine j9 rfl (.tmp 13) (.tmp 17) rfl w2.heap.size (.slice av ss.length cv) ss rfl O5.out y [.string ⟨y.1.toArray⟩,.slice a4 y.2.length c4] w4.heap.size rfl X5.out C5.out (by omega) (by omega) ?_;intro a' c' w9 ho9 hg9)
   have hl9:Lft [b] w2.heap.size w2 w9:=L5.out.grown hg9 (fun g hg=>(hlt hg).1) (by omega);have r9:=R5.out.grown hg9 (fun g hg=>(hlt hg).1) hbl;refine⟨⟨ss++[y],t,by simp;omega,?_,ho9,r9,hl9⟩,by simp only[slN];omega⟩;have hO:=HO.out
   try simp only[ai,aw] at hO
   rw[←hO];cases ev dO t<;>simp
theorem oV(el:El)(u:Value)(w:World)(h:bf (fun _=>True) w u el.kids)(hs:SmE el):
  Calls Tryz.prog 132 #[.agg (elA el u)] w fun e w'=>Out (m0 ft el) (fun y v w'=>bM kdM (fun g=>w.heap.size≤g) w' v y) e w'∧Bw w w':=by
 obtain⟨a,c,hf⟩:=h.shape;subst hf;have b1:=alb w (Er el a c) 40;have r1:=alz w (Er el a c) 40;have kc:=dk el _ 0 16 _ (h.below b1) hs;generalize hO:m0 ft el=O;simp only[m0] at hO;have HO:=hid hO;clear hO;unfold elA at kc⊢;clear h hs
 go_enter Tryz.func132,Tryz.ntmps132
 go_upto_region 1 with fail
 generalize w.alloc (.cells (Er el a c) 40)=w1 at b1 r1 kc⊢
 go_upto_region 2 with fail
 go_wp2_with (refine ldE (.tmp 1) r1 rfl ?_)
 refine ag kc ?_;rintro x w2 ⟨ho,hb⟩;have b2:=btt b1 hb;have hs12:=hb.size;have hs1:=b1.size;clear kc hb r1 b1;replace HO:=HO.out;generalize ci el 0 16=E at ho HO;rcases E with _|ks
 ·obtain⟨rfl,rfl⟩:x=Pn∧none=O:=⟨ho,HO⟩
  exact⟨rfl,rfl,b2⟩
 obtain⟨v,rfl,b,rfl,hbge,hrow⟩:=ho
 try simp only[ai] at HO
 replace HO:=hid HO;have hO:=HO.out;have hbl:=hrow.lt;have hkl:=hrow.len;have hst:=LpR.start kdM 112 ft hrow hO;have HS:=hid hst;generalize ks.length=n at HS hkl;clear HO hO hst hrow
 go_wp2_with fail
 go_loopw [3] (fun v wr=>LpR kdM 112 ft O n (fun g=>w1.heap.size≤g∧g≠b) b w2 v wr) (fun v _=>n -slN v)
 case atStart=>exact HS.out
 case round=>
  obtain⟨ss,r,hlen,ho,hown,hrow,hbe⟩:=hrel;obtain⟨av,cv,hsh⟩:=hown.shape;subst hsh;obtain⟨ar,cr,qb⟩:=hrow.cell;have hszr:=hbe.size;obtain⟨HW,HB,HO⟩:=Ch hown hbe ho;cases r with
  |nil=>
   simp only[aU] at qb;clear hown hbe ho hrow HS
   go_wp2_with fail
   go_ret
   have hO:=HO.out;simp only[ev,aw,List.append_nil] at hO;subst hO;exact⟨⟨_,rfl,HW.out.lst.mono (fun g hg _=>by omega) (by decide)⟩,b2.trans (HB.out.below1 (B:=w.heap.size) (by omega) b2.size)⟩
  |cons e t=>
   simp only[aG] at qb hlen;have i1:decide ((0:Int)<(t.length:Int)+1)=true:=aC (by omega);have kc:=cG _ b (e::t) wr hrow;have hO:=HO.out;simp only[ev,ft,bS] at hO;clear HO;have HO:=hid hO;clear hown hbe ho hrow HS hO
   go_wp2_with fail
   refine ag kc ?_;rintro x w3 ⟨ho,hb⟩;have l3:=HB.out.trans hb (ah _);have o3:dt kdM 112 w2.heap.size w3 (.slice av ss.length cv) ss:=HW.out.keep fun j hj hl=>hb.old hl (by simp;omega)
   have hs3:=hb.size;obtain⟨v,rfl,u3,rfl,hse,hu,hrow⟩:=ho;obtain⟨a3,c3,hf3⟩:=hu.shape;subst hf3;have hlt:∀{g:Nat},(Value.slice av ss.length cv).ownBlock=some g→w2.heap.size≤g∧g<wr.heap.size:=fun hg=>HW.out.lt hg
   have hF:∀w',Bw w3 w'→Bw w w':=fun w' k=>b2.trans ((l3.trans (.of k) (ah _)).below1 (B:=w.heap.size) (by omega) b2.size)
   obtain⟨O3,L3,R3⟩:=Ch o3 l3 hrow;have k3:=aA w3.heap.size w3;clear kc hb HB HW qb i1 o3 l3 hrow;have kc:=dk e _ 0 16 w3 (hu.mono fun _ _ _=>trivial) hse
   go_wp2_with fail
   refine ag kc ?_;rintro x w4 ⟨ho,hb⟩;have k4:Bw w3 w4:=k3.trans (hb.mono (by omega));have hs4:=hb.size;clear kc hb hu k3;replace HO:=HO.out;generalize ci e 0 16=E at ho HO;rcases E with _|ks2
   ·obtain⟨rfl,rfl⟩:x=Pn∧none=O:=⟨ho,HO⟩
    exact⟨rfl,rfl,(hF _ k4)⟩
   obtain⟨v,rfl,b4,rfl,hb4,rowm⟩:=ho
   try simp only[ai] at HO
   replace HO:=hid HO;have kc:=fd _ b4 ks2 10 w4 rowm
   go_wp2_with fail
   refine ag kc ?_;rintro x w5 ⟨ho,hb⟩;have k5:Bw w3 w5:=k4.trans (hb.below1 (B:=w3.heap.size) (by omega) (by omega));have hs5:=hb.size;clear kc hb rowm k4;replace HO:=HO.out;generalize eR 10 ks2=E at ho HO;rcases E with _|nn
   ·obtain⟨rfl,rfl⟩:x=Pn∧none=O:=⟨ho,HO⟩
    exact⟨rfl,rfl,(hF _ k5)⟩
   obtain⟨v,rfl,rfl,rowm⟩:=ho
   try simp only[ai] at HO
   replace HO:=hid HO;have kc:=cG _ b4 nn.2 w5 rowm
   go_wp2_with fail
   refine ag kc ?_;rintro x w6 ⟨ho,hb⟩;have k6:Bw w3 w6:=k5.trans (hb.below1 (B:=w3.heap.size) (by omega) (by omega));have hs6:=hb.size;clear kc hb rowm k5;replace HO:=HO.out;generalize ch nn.2=E at ho HO;rcases E with _|q
   ·obtain⟨rfl,rfl⟩:x=Pn∧none=O:=⟨ho,HO⟩
    exact⟨rfl,rfl,(hF _ k6)⟩
   obtain⟨v,rfl,u6,rfl,hse6,hu6,rowm⟩:=ho
   try simp only[ai] at HO
   replace HO:=hid HO;obtain⟨a6,c6,hf6⟩:=hu6.shape;subst hf6;have kc:=nS q.1 _ w6 (hu6.mono fun _ _ _=>trivial) hse6
   go_wp2_with fail
   refine ag kc ?_;rintro x w7 ⟨ho,hb⟩;have k7:Bw w3 w7:=k6.trans (hb.mono (by omega));have hs7:=hb.size;have rowm7:=rowm.below hb;clear kc hb rowm hu6 k6;replace HO:=HO.out;generalize dO q.1=E at ho HO;rcases E with _|y
   ·obtain⟨rfl,rfl⟩:x=Pn∧none=O:=⟨ho,HO⟩
    exact⟨rfl,rfl,(hF _ k7)⟩
   obtain⟨v,rfl,cc,rfl,u7,rfl,hl7⟩:=ho
   try simp only[ai,aw] at HO
   replace HO:=hid HO;obtain⟨a7,c7,hf7⟩:=hl7.shape;subst hf7;have m8:=alb w7 #[.string ⟨y.1.toArray⟩,.slice a7 y.2.length c7] 143;have x8:=alz w7 #[.string ⟨y.1.toArray⟩,.slice a7 y.2.length c7] 143;have k8:Bw w3 (w7.alloc (.cells #[.string ⟨y.1.toArray⟩,.slice a7 y.2.length c7] 143)):=k7.trans (m8.mono (by omega));have rowm8:=rowm7.below m8;have hl8:=hl7.below m8 (by decide);have hs8:=m8.size;obtain⟨X8,K8⟩:=Cg x8 hl8;clear m8 x8 hl8 rowm7 hl7 k7;have kc:=cX _ b4 q.2 (w7.alloc (.cells #[.string ⟨y.1.toArray⟩,.slice a7 y.2.length c7] 143)) rowm8
   go_wp2_with fail
   refine ag kc ?_;rintro x w9 ⟨ho,hb⟩;have k9:Bw w3 w9:=k8.trans (hb.mono (by omega));have hs9:=hb.size;have x9:=bk hb X8.out;have hl9:=K8.out.below hb (by decide);clear kc hb X8 K8 rowm8 k8;replace HO:=HO.out;rw[dJ] at HO;generalize bN () q.2=E at ho HO;rcases E with _|uu
   ·obtain⟨rfl,rfl⟩:x=Pn∧none=O:=⟨ho,HO⟩
    exact⟨rfl,rfl,(hF _ k9)⟩
   obtain⟨v,rfl,rfl⟩:=ho
   try simp only[ai,aw] at HO
   replace HO:=hid HO;have f0:=cval x9 0 (.string ⟨y.1.toArray⟩);have f1:=cval x9 1 (.slice a7 y.2.length c7);have hs79:=(gl x9);clear x9;have m5:=alb w9 #[.int .i64 nn.1,.string ⟨y.1.toArray⟩,.slice a7 y.2.length c7] 112;have x5:Hc (w9.alloc (.cells #[.int .i64 nn.1,.string ⟨y.1.toArray⟩,.slice a7 y.2.length c7] 112)) w9.heap.size (List.toArray [.int .i64 nn.1,.string ⟨y.1.toArray⟩,.slice a7 y.2.length c7]) 112:=fb _ _ _ rfl;have k5:Bw w3 (w9.alloc (.cells #[.int .i64 nn.1,.string ⟨y.1.toArray⟩,.slice a7 y.2.length c7] 112)):=k9.trans (m5.mono (by omega));have o5:=O3.out.below k5;have l5:=L3.out.trans (.of k5) (ah _);have row5:=R3.out.below k5;have hs5:=m5.size;have c5:kdM.R (fun g=>w2.heap.size≤g∧(Value.slice av ss.length cv).ownBlock≠some g) (w9.alloc (.cells #[.int .i64 nn.1,.string ⟨y.1.toArray⟩,.slice a7 y.2.length c7] 112)) (nn.1,y) [.int .i64 nn.1,.string ⟨y.1.toArray⟩,.slice a7 y.2.length c7]:=
    ⟨_,rfl,hl9.kept (fun g hg hl=>⟨m5.block g hl,by omega,fun he=>by have:=(hlt he).2;omega⟩) (by decide)⟩
   obtain⟨O5,X5,L5,R5,C5⟩:=Cj o5 x5 l5 row5 c5;clear m5 x5 k5 o5 l5 row5 c5 O3 L3 R3 k9 hl9 hF
   go_wp2_with (at_builtin;refine kj rfl (.tmp 26) (.tmp 33) rfl w2.heap.size (.slice av ss.length cv) ss rfl O5.out (nn.1,y) [.int .i64 nn.1,.string ⟨y.1.toArray⟩,.slice a7 y.2.length c7] w9.heap.size rfl X5.out C5.out (by omega) (by omega) ?_;intro a' c' w9 ho9 hg9)
   have hl9:Lft [b] w2.heap.size w2 w9:=L5.out.grown hg9 (fun g hg=>(hlt hg).1) (by omega);have r9:=R5.out.grown hg9 (fun g hg=>(hlt hg).1) hbl;refine⟨⟨ss++[(nn.1,y)],t,by simp;omega,?_,ho9,r9,hl9⟩,by simp only[slN];omega⟩;have hO:=HO.out
   try simp only[ai,aw] at hO
   rw[←hO];cases ev ft t<;>simp
def rowN(b:Nat)(w:World):Nat:=match w.cell? ⟨b,0,none⟩ with
 |some (.slice _ n _)=>n
 |_=>0
theorem RowA.rowN{P:Nat→Prop}{b:Nat}{l:List El}{w:World}(h:RowA P b l w):rowN b w=l.length:=by
 obtain⟨a,c,hq⟩:=h.cell
 simp[Go.Proofs.YtfhghdcbofbceaaGreatDoor.rowN,hq]
theorem jc(P:Nat→Prop)(b x:Nat)(l:List El)(t:Int)(w:World)(hx:Hc w x #[.pointer (some ⟨b,0,none⟩)] 144)(h:RowA P b l w):
  Calls Tryz.prog 166 #[.int .i64 t,.pointer (some ⟨x,0,none⟩)] w fun e w'=>Out (df t l) (fun y v w'=>v=.string ⟨y.1.toArray⟩∧RowA P b y.2 w') e w'∧Lft [b] w.heap.size w w':=by
 have q:=cval hx 0 (.pointer (some ⟨b,0,none⟩));have kc:=cG P b l w h;generalize hO:df t l=O;simp only[df,bS] at hO;have HO:=hid hO;clear hO;clear h hx
 go_enter Tryz.func166,Tryz.ntmps166
 go_wp2_with fail
 refine ag kc ?_;rintro x w1 ⟨ho,hb⟩;clear kc;clear q;replace HO:=HO.out;generalize ch l=E at ho HO;rcases E with _|y
 ·obtain⟨rfl,rfl⟩:x=Pn∧none=O:=⟨ho,HO⟩
  exact⟨rfl,rfl,hb⟩
 obtain⟨v,rfl,u,rfl,hse,hu,hr⟩:=ho
 try simp only[ai] at HO
 replace HO:=hid HO;have h1:=hb;clear hb;obtain⟨a,c,hf⟩:=hu.shape;subst hf;have kc:=gC y.1 _ 2 t w1 (hu.mono fun _ _ _=>trivial)
 go_wp2_with fail
 refine ag kc ?_;rintro x w2 ⟨ho,hb⟩;have l2:=h1.trans (.of hb) (ah _);have r2:=hr.below hb;clear kc hb h1 hr hu;replace HO:=HO.out;generalize dK y.1 2 t=E at ho HO;rcases E with _|s
 ·obtain⟨rfl,rfl⟩:x=Pn∧none=O:=⟨ho,HO⟩
  exact⟨rfl,rfl,l2⟩
 obtain⟨v,rfl,rfl⟩:=ho
 try simp only[ai,aw] at HO
 replace HO:=hid HO;obtain⟨B,hB⟩:=nmm s.isEmpty;have HB:=hid hB;have kw:=cN (!B) w2;have R2:=hid r2
 go_upto_region 2 with fail
 clear r2;cases B with
 |true=>
  have hs:s=[]:=by have:=HB.out;simpa using this
  simp only[Bool.not_true,aW,if_false] at kw
  go_wp2_with fail
  refine ag kw ?_;rintro e w3 ⟨rfl,rfl⟩;have hO:=HO.out;rw[if_pos hs] at hO;subst hO;exact⟨rfl,rfl,l2⟩
 |false=>
  have hs:¬s=[]:=by rintro rfl;have:=HB.out;simp at this
  have HS:=hid hs;clear hs;simp only[Bool.not_false,if_true] at kw
  go_wp2_with fail
  refine ag kw ?_;rintro e w3 ⟨⟨_,rfl,rfl⟩,rfl⟩
  go_wp2_with fail
  go_ret
  have hO:=HO.out;rw[if_neg HS.out] at hO;subst hO;exact⟨⟨_,rfl,rfl,R2.out⟩,l2⟩
theorem ij{w:World}{o:Oper}{a:Act}{K:Act→World→Prop}{Q:Exit→Act→World→Prop}(s x:Operand)(ho:o.op=.call {callee:=.builtin .append,args:=#[s,x],argTypes:=#[27,27]})
  (B:Nat) (v:Value) (l:List (List UInt8)) (hs:a.eval s=v) (hown:dt kdS 9 B w v l) (e:List UInt8) (c:List Value) (b:Nat) (hx:a.eval x=.slice (some ⟨b,0,none⟩) 1 1) (hb:Hc w b c.toArray 9)
  (hke:kdS.R (fun g=>B≤g∧v.ownBlock≠some g) w e c) (hl:l.length≤1000000000) (hB:B≤w.heap.size)
  (h:∀a' c' w',dt kdS 9 B w' (.slice a' (l.length+1) c') (l++[e])→w.grownBy w' v.ownBlock→K (a.put o.dst (.slice a' (l.length+1) c')) w'):Oper.wp Tryz.prog o a w K Q:=by
 obtain⟨i0,hi0,hz0,hz1,hz2⟩:=info_parts Tryz.info5S;exact ii kdS 27 9 i0 _ 16 Tryz.underlying27 hi0 hz0 hz1 hz2 rfl (by decide) (by decide) s x ho B v l hs hown e c b hx hb hke hl hB h
def oW(i:List UInt8)(a:List (List UInt8))(r:List El):Option (List UInt8×List (List UInt8)×List UInt8):=
 (if da 2 2 r then df 2 r else some ([],r)).bind fun f=>bN (i,a,f.1) f.2
theorem oX(l:List El):fe l=(if da 2 0 l then df 0 l else some ([],l)).bind fun i=>(dT i.2.length i.2).bind fun a=>oW i.1 ([]++a.1) a.2:=rfl
theorem rJ{r:List El}(h:da 2 1 r=false)(n:Nat):dT n r=some ([],r):=by
 cases n<;>simp[dT,h]
theorem jv{t:Int}{l:List El}{y:List UInt8×List El}(h:df t l=some y):l.length=y.2.length+1:=by
 simp only[df,ax] at h;obtain⟨z,h1,h2⟩:=h
 split at h2
 ·cases h2
 ·obtain rfl:=aD h2
  exact(A7 h1).1
def PcR(w:World)(P:Nat→Prop)(b pb:Nat)(c0 c1 c2 c3:Value)(i f:List UInt8)(a:List (List UInt8))(r:List El)(u:Value)(wx:World):Prop:=
 Hc wx w.heap.size #[.pointer (some ⟨b,0,none⟩)] 144∧Hc wx pb #[c0,c1,c2,c3,.string ⟨i.toArray⟩,.string ⟨f.toArray⟩,u] 141∧dt kdS 9 (w.heap.size+1) wx u a∧RowA (fun g=>P g∧g<w.heap.size) b r wx∧Lft [b,pb] w.heap.size w wx∧b<w.heap.size∧pb<w.heap.size∧b≠pb∧∀g,P g→g≠pb
theorem PcR.size{w:World}{P:Nat→Prop}{b pb:Nat}{c0 c1 c2 c3:Value}{i f:List UInt8}{a:List (List UInt8)}{r:List El}{u:Value}{wx:World}(h:PcR w P b pb c0 c1 c2 c3 i f a r u wx):w.heap.size+1≤wx.heap.size:=(gl h.1)
theorem PcR.next{w:World}{P:Nat→Prop}{b pb:Nat}{c0 c1 c2 c3:Value}{i f:List UInt8}{a:List (List UInt8)}{r r':List El}{u:Value}{wx wy:World}(h:PcR w P b pb c0 c1 c2 c3 i f a r u wx)(hl:Lft [b] wx.heap.size wx wy)(hr:RowA (fun g=>P g∧g<w.heap.size) b r' wy):PcR w P b pb c0 c1 c2 c3 i f a r' u wy:=by
 have hs:=h.size;obtain⟨h1,h2,h3,h4,h5,h6,h7,h8,h9⟩:=h;exact⟨hl.at h1 (by simp;omega),hl.at h2 (by simp;omega),h3.keep fun j hj hlt=>hl.old hlt (by simp;omega),hr,h5.trans (hl.mono (ah _) fun j _ hj=>by simp at hj⊢;exact .inl hj) (ah _),h6,h7,h8,h9⟩
theorem PcR.below{w:World}{P:Nat→Prop}{b pb:Nat}{c0 c1 c2 c3:Value}{i f:List UInt8}{a:List (List UInt8)}{r:List El}{u:Value}{wx wy:World}(h:PcR w P b pb c0 c1 c2 c3 i f a r u wx)(hl:Bw wx wy):PcR w P b pb c0 c1 c2 c3 i f a r u wy:=
 h.next (.of hl) (h.2.2.2.1.below hl)
theorem PcR.set{w:World}{P:Nat→Prop}{b pb:Nat}{c0 c1 c2 c3:Value}{i f i' f':List UInt8}{a a':List (List UInt8)}{r:List El}{u u':Value}{wx:World}(k:Nat)(v:Value)(h:PcR w P b pb c0 c1 c2 c3 i f a r u wx)(hc:#[c0,c1,c2,c3,.string ⟨i.toArray⟩,.string ⟨f.toArray⟩,u].setIfInBounds k v=#[c0,c1,c2,c3,.string ⟨i'.toArray⟩,.string ⟨f'.toArray⟩,u'])
  (ho:dt kdS 9 (w.heap.size+1) wx u' a'):PcR w P b pb c0 c1 c2 c3 i' f' a' r u' (wx.setCell ⟨pb,k,none⟩ v):=by
 have hs:=h.size;obtain⟨h1,h2,h3,h4,h5,h6,h7,h8,h9⟩:=h;have m:Lft [pb] wx.heap.size wx (wx.setCell ⟨pb,k,none⟩ v):=(Lft.refl wx).set _ _ _ (by simp);refine⟨m.at h1 (by simp;omega),?_,ho.keep fun j hj hlt=>m.old hlt (by simp;omega),h4.keep m (by simpa using h8) (fun g hg _=>by simpa using h9 g hg.1),h5.trans (m.mono (ah _) fun j _ hj=>by simp at hj⊢;exact .inr hj) (ah _),h6,h7,h8,h9⟩;rw[←hc];exact cq (i:=k) (u:=v) h2
theorem PcR.grown{w:World}{P:Nat→Prop}{b pb:Nat}{c0 c1 c2 c3:Value}{i f:List UInt8}{a:List (List UInt8)}{r:List El}{u:Value}{wx wy:World}(h:PcR w P b pb c0 c1 c2 c3 i f a r u wx)(hg:wx.grownBy wy u.ownBlock):
  Hc wy pb #[c0,c1,c2,c3,.string ⟨i.toArray⟩,.string ⟨f.toArray⟩,u] 141∧∀(u':Value) (a':List (List UInt8)),dt kdS 9 (w.heap.size+1) wy u' a'→PcR w P b pb c0 c1 c2 c3 i f a' r u' (wy.setCell ⟨pb,6,none⟩ u'):=by
 have hs:=h.size;obtain⟨h1,h2,h3,h4,h5,h6,h7,h8,h9⟩:=h;have hne:∀g,g<w.heap.size+1→wy.heap[g]?=wx.heap[g]?:=fun g hg1=>hg.block g (by omega) fun he=>by have:=(h3.lt he.symm).1;omega
 have hp:Hc wy pb #[c0,c1,c2,c3,.string ⟨i.toArray⟩,.string ⟨f.toArray⟩,u] 141:=(hne pb (by omega)).trans h2;refine⟨hp,fun u' a' ho=>?_⟩;have hl:Lft [b,pb] w.heap.size w wy:=h5.grown hg (fun g hg=>by have:=(h3.lt hg).1;omega) (by omega);have hx:=(hne w.heap.size (by omega)).trans h1;have hr:=h4.grown hg (fun g hg=>by have:=(h3.lt hg).1;omega) h6;have m:Lft [pb] wy.heap.size wy (wy.setCell ⟨pb,6,none⟩ u'):=(Lft.refl wy).set _ _ _ (by simp);have hsy:=hg.size;exact⟨m.at hx (by simp;omega),cq (i:=6) (u:=u') hp,ho.keep fun j hj hlt=>m.old hlt (by simp;omega),hr.keep m (by simpa using h8) (fun g hg _=>by simpa using h9 g hg.1),hl.trans (m.mono (ah _) fun j _ hj=>by simp at hj⊢;exact .inr hj) (ah _),h6,h7,h8,h9⟩
theorem Fo(P:Nat→Prop)(b pb:Nat)(l:List El)(c0 c1 c2 c3:Value)(w:World)(hp:Hc w pb #[c0,c1,c2,c3,Es,Es,Sn] 141)(hpb:b≠pb)(hP:∀g,P g→g≠pb)(h:RowA P b l w):
  Calls Tryz.prog 162 #[.pointer (some ⟨pb,0,none⟩),.pointer (some ⟨b,0,none⟩)] w fun e w'=>Out (fe l) (fun y v w'=>v=.tuple #[]∧∃u,Hc w' pb #[c0,c1,c2,c3,.string ⟨y.1.toArray⟩,.string ⟨y.2.2.toArray⟩,u] 141∧bM kdS (fun g=>w.heap.size≤g) w' u y.2.1) e w'∧Lft [b,pb] w.heap.size w w':=by
 generalize hO:fe l=O;rw[oX] at hO;have HO:=hid hO;clear hO;have hll:=h.len;have hmf:∀(fn:Fn) (first cap:Array Value) (w:World),(Instr.makeFunc fn first cap).run Tryz.prog w=.ok (.func fn first cap) w:=fun _ _ _ _=>rfl
 have m1:=alb w #[.pointer (some ⟨b,0,none⟩)] 144;have p1:PcR w P b pb c0 c1 c2 c3 [] [] [] l (Sn) (w.alloc (.cells #[.pointer (some ⟨b,0,none⟩)] 144)):=⟨fb _ _ _ rfl,bk m1 hp,dt.nil _ _ _ _,h.shut.below m1,.of m1,h.lt,(gl hp),hpb,hP⟩;have P1:=hid p1;clear h hp m1 p1 hP
 go_enter Tryz.func162,Tryz.ntmps162
 go_upto_region 2 with fail
 generalize(w.alloc (.cells #[.pointer (some ⟨b,0,none⟩)] 144))=w1 at P1⊢;have kc:=iq _ b l 2 0 w1 P1.out.2.2.2.1;have qx:=cval P1.out.1 0 (.pointer (some ⟨b,0,none⟩))
 go_wp2_with fail
 refine ag kc ?_;rintro e w2 ⟨rfl,hb⟩;have P2:=hid (P1.out.below hb);clear kc qx P1 hb;obtain⟨B,hB⟩:=nmm (da 2 0 l);have hO:=HO.out;rw[hB] at hO;rw[hB];clear HO hB;have HO:=hid hO;clear hO
 go_upto_if 7 with fail
 go_cut [] from 8 to 12 (fun wx=>∃i r,PcR w P b pb c0 c1 c2 c3 i [] [] r (Sn) wx∧r.length≤1000000000∧(dT r.length r).bind (fun a=>oW i ([]++a.1) a.2)=O)
 case first=>
  cases B with
  |false=>
   go_wp2_with fail
   go_meet
   exact⟨[],l,P2.out,hll,by have hO:=HO.out;simpa using hO⟩
  |true=>
   have qx:=cval P2.out.1 0 (.pointer (some ⟨b,0,none⟩));have kc:=jc _ b w.heap.size l 0 w2 P2.out.1 P2.out.2.2.2.1
   go_wp2_with fail
   refine ag kc ?_;rintro e w3 ⟨ho,hb⟩;have l3:Lft [b,pb] w.heap.size w w3:=P2.out.2.2.2.2.1.trans (hb.mono (ah _) fun j _ hj=>by simp at hj⊢;exact .inl hj) (ah _);have hO:=HO.out;clear HO qx kc;simp only[if_true] at hO;cases hE:df 0 l with
   |none=>
    rw[hE] at ho hO;have hx:e=Pn:=ho;subst hx;simp only[be] at hO;subst hO;exact⟨rfl,rfl,l3⟩
   |some y=>
    have hyl:=jv hE;rw[hE] at ho hO;obtain⟨v,rfl,rfl,hr⟩:=ho;simp only[ai] at hO;have p3:=P2.out.next hb hr;have q4:=cval p3.2.1 4 Es;have z4:=aj p3.2.1 4;have p4:=p3.set 4 (.string ⟨y.1.toArray⟩) (i':=y.1) (f':=[]) (u':=Sn) rfl p3.2.2.1;obtain⟨P4,HO⟩:=Cg p4 hO;clear p3 p4 hO P2 hb hr hE
    go_wp2_with fail
    go_meet
    exact⟨y.1,y.2,P4.out,by omega,HO.out⟩
 case rest=>
  clear HO P2;obtain⟨i,r0,hp,hrl,hO⟩:=hcut;obtain⟨HP,HO⟩:=Cg hp hO;clear hp hO
  go_wp2_with fail
  go_loopw [] (fun wr=>∃a r n u,r.length≤n∧a.length+r.length≤1000000000∧PcR w P b pb c0 c1 c2 c3 i [] a r u wr∧(dT n r).bind (fun y=>oW i (a++y.1) y.2)=O) (fun wr=>rowN b wr)
  case atStart=>exact⟨[],r0,r0.length,_,ah _,by simpa using hrl,HP.out,HO.out⟩
  case round=>
   clear HP HO hrl;obtain⟨a,r,n,u,hrn,hal,hp,hO⟩:=hrel;obtain⟨HP,HO⟩:=Cg hp hO;obtain⟨au,cu,hfu⟩:=hp.2.2.1.shape;subst hfu;have kc:=iq _ b r 2 1 wr hp.2.2.2.1;have qx:=cval hp.1 0 (.pointer (some ⟨b,0,none⟩));have hrN:=hid hp.2.2.2.1.rowN;clear hp hO
   go_wp2_with fail
   refine ag kc ?_;rintro e w3 ⟨rfl,hb⟩;have P3:=hid (HP.out.below hb);clear kc qx HP hb;generalize hB:da 2 1 r=B;have HB:=hid hB;clear hB;cases B with
   |false=>
    have hO:=HO.out;rw[rJ HB.out] at hO;simp only[ai,List.append_nil] at hO;clear HO HB;have HO:=hid hO;clear hO;have kc:=iq _ b r 2 2 w3 P3.out.2.2.2.1;have qx:=cval P3.out.1 0 (.pointer (some ⟨b,0,none⟩))
    go_wp2_with fail
    refine ag kc ?_;rintro e w4 ⟨rfl,hb⟩;have P4:=hid (P3.out.below hb);clear kc qx P3 hb;obtain⟨B,hB⟩:=nmm (da 2 2 r);have hO:=HO.out;unfold oW at hO;rw[hB] at hO;rw[hB];clear HO hB;have HO:=hid hO;clear hO;have ENDF:∀(f:List UInt8) (r':List El) (wy:World),PcR w P b pb c0 c1 c2 c3 i f a r' (.slice au a.length cu) wy→(bN (i,a,f) r')=O→∀e w9,Out (bN () r') (fun _ v _=>v=.tuple #[]) e w9→Bw wy w9→Out O (fun y v w'=>v=.tuple #[]∧∃u,Hc w' pb #[c0,c1,c2,c3,.string ⟨y.1.toArray⟩,.string ⟨y.2.2.toArray⟩,u] 141∧bM kdS (fun g=>w.heap.size≤g) w' u y.2.1) e w9∧Lft [b,pb] w.heap.size w w9:=by
     intro f r' wy hp hO e w9 ho hb;have p9:=hp.below hb;refine⟨?_,p9.2.2.2.2.1⟩;rw[dJ] at hO;subst hO;cases hE:bN () r' with
     |none=>rw[hE] at ho;exact ho
     |some y=>
      rw[hE] at ho;obtain⟨v,hv,hv2⟩:=ho;exact⟨v,hv,hv2,_,p9.2.1,p9.2.2.1.lst.mono (fun g hg _=>by omega) (by decide)⟩
    have EF:=hid ENDF;clear ENDF;cases B with
    |false=>
     have hO:=HO.out;simp only[aW,if_false,ai] at hO;have kc:=cX _ b r w4 P4.out.2.2.2.1;have qx:=cval P4.out.1 0 (.pointer (some ⟨b,0,none⟩));have hE:=fun e w9 h1 h2=>EF.out [] r w4 P4.out hO e w9 h1 h2
     have HE:=hid hE;clear HO hO EF hE
     go_wp2_with fail
     refine ag kc ?_;rintro e w9 ⟨ho,hb⟩;have he:=HE.out e w9 ho hb;cases hE:bN () r with
     |none=>
      rw[hE] at ho;have hx:e=Pn:=ho;subst hx;exact⟨rfl,he⟩
     |some y=>
      rw[hE] at ho;obtain⟨v,rfl,rfl⟩:=ho;have HE2:=hid he;clear he HE kc qx hb
      go_wp2_with fail
      go_end0
      exact HE2.out
    |true=>
     have hO:=HO.out;simp only[if_true] at hO;have qx:=cval P4.out.1 0 (.pointer (some ⟨b,0,none⟩));have kc:=jc _ b w.heap.size r 2 w4 P4.out.1 P4.out.2.2.2.1;clear HO;have HO:=hid hO;clear hO
     go_wp2_with fail
     refine ag kc ?_;rintro e w5 ⟨ho,hb⟩;have l5:Lft [b,pb] w.heap.size w w5:=P4.out.2.2.2.2.1.trans (hb.mono (ah _) fun j _ hj=>by simp at hj⊢;exact .inl hj) (ah _);have hO:=HO.out;clear HO qx kc;cases hE:df 2 r with
     |none=>
      rw[hE] at ho hO;have hx:e=Pn:=ho;subst hx;simp only[be] at hO;subst hO;exact⟨rfl,rfl,l5⟩
     |some y=>
      rw[hE] at ho hO;obtain⟨v,rfl,rfl,hr⟩:=ho;simp only[ai] at hO;have p5:=P4.out.next hb hr;have q4:=cval p5.2.1 5 Es;have z4:=aj p5.2.1 5;have p6:=p5.set 5 (.string ⟨y.1.toArray⟩) (i':=i) (f':=y.1) (u':=.slice au a.length cu) rfl p5.2.2.1;have kc:=cX _ b y.2 _ p6.2.2.2.1;have qx:(w5.setCell ⟨pb,5,none⟩ (.string ⟨y.1.toArray⟩)).cell? ⟨w.heap.size,0,none⟩=some (.pointer (some ⟨b,0,none⟩)):=(aq p6.1 0).trans rfl;have hE:=fun e w9 h1 h2=>EF.out y.1 y.2 _ p6 hO e w9 h1 h2
      have HE:=hid hE;clear p5 p6 hO P4 hb hr hE EF l5
      go_wp2_with fail
      refine ag kc ?_;rintro e w9 ⟨ho,hb⟩;have he:=HE.out e w9 ho hb;cases hE:bN () y.2 with
      |none=>
       rw[hE] at ho;have hx:e=Pn:=ho;subst hx;exact⟨rfl,he⟩
      |some yy=>
       rw[hE] at ho;obtain⟨v,rfl,rfl⟩:=ho;have HE2:=hid he;clear he HE kc qx hb q4 z4
       go_wp2_with fail
       go_end0
       exact HE2.out
   |true=>
    obtain⟨n',rfl⟩:∃n',n=n'+1:=by
     cases n with
     |zero=>
      have hr0:r=[]:=List.length_eq_zero_iff.1 (by omega);have:=HB.out;rw[hr0] at this;cases this
     |succ k=>exact⟨k,rfl⟩
    have hO:=HO.out;simp only[dT,HB.out,if_true] at hO;clear HO HB;have HO:=hid hO;clear hO
    go_upto_region 5 with fail
    refine aR (S:=fun _=>True) (by kernel_rfl) ?_;have P4:=hid (P3.out.below (wy:=w3.drew) ((aA _ _).drew))
    change wpAnyH _ _ _ _ _ _ _ _ w3.drew
    clear P3;generalize w3.drew=w4 at P4⊢;refine tp 0 ⟨pb,0,none⟩ rfl trivial ?_;refine tp 1 ⟨pb,0,none⟩ rfl trivial ?_;refine tp 2 ⟨pb,0,none⟩ rfl trivial ?_;refine tp 3 ⟨pb,6,none⟩ rfl trivial ?_;refine tn 5 (.func (.func 166) #[] #[.pointer (some ⟨w.heap.size,0,none⟩)]) rfl (fun w' hS=>by go_simp) trivial ?_;have hs4:=P4.out.size;have kc:=jc _ b w.heap.size r 1 w4 P4.out.1 P4.out.2.2.2.1;have qu:=cval P4.out.2.1 6 (.slice au a.length cu);have hal1:a.length≤1000000000:=by omega
    refine fq 4 6 (by kernel_rfl) rfl (by rfl) rfl (by rfl) (fun K hK=>?_) (fun K hK=>?_)
    ·go_simp;refine hK _ _ trivial ?_;clear hK K
     refine ao 6 rfl (fun K hK=>?_);go_simp;go_wp2_with fail
     refine ag kc ?_;rintro e w5 ⟨ho,hb⟩;have l5:Lft [b,pb] w.heap.size w w5:=P4.out.2.2.2.2.1.trans (hb.mono (ah _) fun j _ hj=>by simp at hj⊢;exact .inl hj) (ah _);have hO:=HO.out;clear HO kc;cases hE:df 1 r with
     |none=>
      rw[hE] at ho hO;have hx:e=Pn:=ho;subst hx;simp only[be] at hO;subst hO;exact⟨rfl,rfl,l5⟩
     |some y=>
      have hyl:=jv hE;rw[hE] at ho hO;obtain⟨v,rfl,rfl,hr⟩:=ho;simp only[ai] at hO;have p5:=P4.out.next hb hr;have qu5:=cval p5.2.1 6 (.slice au a.length cu);have m6:=alb w5 #[.string ⟨y.1.toArray⟩] 9;have x6:=alz w5 #[.string ⟨y.1.toArray⟩] 9;have p6:=p5.below m6;have hs6:=p6.size;obtain⟨HO,P6,X6⟩:=Ch hO p6 x6;clear p5 m6 x6 p6 hO P4 hb hr hE l5 qu;refine hK _ _ trivial ?_;clear hK K
      refine ao 7 rfl (kks trivial ?_);refine ao 8 rfl (fun K hK=>?_);refine ij _ _ (by rfl) (w.heap.size+1) (.slice au a.length cu) a (by rfl) P6.out.2.2.1 y.1 [.string ⟨y.1.toArray⟩] w5.heap.size (by rfl) X6.out rfl hal1 hs6 ?_;intro a' c' w7 ho7 hg7;have hp7:=(P6.out.grown hg7).1;have p8:=(P6.out.grown hg7).2 _ _ ho7;have q7:=cval hp7 6 (.slice au a.length cu);have z7:=aj hp7 6;have P8:=hid p8;clear P6 X6 hp7 p8 ho7 hg7 qu5;refine hK _ _ trivial ?_;clear hK K
      refine ao 9 rfl (kks trivial ?_);refine ao 10 rfl (kks trivial ?_);refine ao 11 rfl (kks trivial ?_);refine xk (by kernel_rfl) ?_ _;simp only[Exit.inBlock];refine⟨?_,?_⟩
      ·(repeat apply Exists.intro)
       refine⟨⟨a++[y.1],y.2,n',_,by omega,by simp;omega,P8.out,?_⟩,rfl⟩;have hO:=HO.out;rw[←hO];cases dT n' y.2<;>simp
      ·have h1:=hrN.out
       have h2:=P8.out.2.2.2.1.rowN;show rowN b _<rowN b wr
       omega
    ·go_simp;go_wp2_with fail
     refine ag kc ?_;rintro e w5 ⟨ho,hb⟩;have l5:Lft [b,pb] w.heap.size w w5:=P4.out.2.2.2.2.1.trans (hb.mono (ah _) fun j _ hj=>by simp at hj⊢;exact .inl hj) (ah _);have hO:=HO.out;clear HO kc;cases hE:df 1 r with
     |none=>
      rw[hE] at ho hO;have hx:e=Pn:=ho;subst hx;simp only[be] at hO;subst hO;exact⟨rfl,rfl,l5⟩
     |some y=>
      have hyl:=jv hE;rw[hE] at ho hO;obtain⟨v,rfl,rfl,hr⟩:=ho;simp only[ai] at hO;have p5:=P4.out.next hb hr;have qu5:=cval p5.2.1 6 (.slice au a.length cu);have m6:=alb w5 #[.string ⟨y.1.toArray⟩] 9;have x6:=alz w5 #[.string ⟨y.1.toArray⟩] 9;have p6:=p5.below m6;have hs6:=p6.size;obtain⟨HO,P6,X6⟩:=Ch hO p6 x6;clear p5 m6 x6 p6 hO P4 hb hr hE l5 qu;refine hK _ _ trivial ?_;clear hK K
      have qu6:(w5.alloc (.cells #[.string ⟨y.1.toArray⟩] 9)).cell? ⟨pb,6,none⟩=some (.slice au a.length cu):=(aq P6.out.2.1 6).trans rfl;refine fq 4 7 (by kernel_rfl) rfl (by rfl) rfl (by rfl) (fun K hK=>?_) (fun K hK=>?_)
      ·go_simp;refine hK _ _ trivial ?_;clear hK K
       refine ao 7 rfl (kks trivial ?_);refine ao 8 rfl (fun K hK=>?_);refine ij _ _ (by rfl) (w.heap.size+1) (.slice au a.length cu) a (by rfl) P6.out.2.2.1 y.1 [.string ⟨y.1.toArray⟩] w5.heap.size (by rfl) X6.out rfl hal1 hs6 ?_;intro a' c' w7 ho7 hg7;have hp7:=(P6.out.grown hg7).1;have p8:=(P6.out.grown hg7).2 _ _ ho7;have q7:=cval hp7 6 (.slice au a.length cu);have z7:=aj hp7 6;have P8:=hid p8;clear P6 X6 hp7 p8 ho7 hg7 qu5 qu6;refine hK _ _ trivial ?_;clear hK K
       refine ao 9 rfl (kks trivial ?_);refine ao 10 rfl (kks trivial ?_);refine ao 11 rfl (kks trivial ?_);refine xk (by kernel_rfl) ?_ _;simp only[Exit.inBlock];refine⟨?_,?_⟩
       ·(repeat apply Exists.intro)
        refine⟨⟨a++[y.1],y.2,n',_,by omega,by simp;omega,P8.out,?_⟩,rfl⟩;have hO:=HO.out;rw[←hO];cases dT n' y.2<;>simp
       ·have h1:=hrN.out
        have h2:=P8.out.2.2.2.1.rowN;show rowN b _<rowN b wr
        omega
      ·go_simp;refine hK _ _ trivial ?_;clear hK K
       refine ao 4 rfl (kks trivial ?_);refine ao 8 rfl (fun K hK=>?_);refine ij _ _ (by rfl) (w.heap.size+1) (.slice au a.length cu) a (by rfl) P6.out.2.2.1 y.1 [.string ⟨y.1.toArray⟩] w5.heap.size (by rfl) X6.out rfl hal1 hs6 ?_;intro a' c' w7 ho7 hg7;have hp7:=(P6.out.grown hg7).1;have p8:=(P6.out.grown hg7).2 _ _ ho7;have q7:=cval hp7 6 (.slice au a.length cu);have z7:=aj hp7 6;have P8:=hid p8;clear P6 X6 hp7 p8 ho7 hg7 qu5 qu6;refine hK _ _ trivial ?_;clear hK K
       refine ao 9 rfl (kks trivial ?_);refine ao 10 rfl (kks trivial ?_);refine ao 11 rfl (kks trivial ?_);refine xk (by kernel_rfl) ?_ _;simp only[Exit.inBlock];refine⟨?_,?_⟩
       ·(repeat apply Exists.intro)
        refine⟨⟨a++[y.1],y.2,n',_,by omega,by simp;omega,P8.out,?_⟩,rfl⟩;have hO:=HO.out;rw[←hO];cases dT n' y.2<;>simp
       ·have h1:=hrN.out
        have h2:=P8.out.2.2.2.1.rowN;show rowN b _<rowN b wr
        omega
end Go.Proofs.YtfhghdcbofbceaaGreatDoor
