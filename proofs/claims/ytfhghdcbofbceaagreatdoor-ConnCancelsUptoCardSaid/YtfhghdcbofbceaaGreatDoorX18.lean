/- PlainBl, PlainSz, PlainSy, WrA, PlainSw, ReO. -/
import Derived.Test.YtfhghdcbofbceaaGreatDoorX17
namespace Go.Proofs.YtfhghdcbofbceaaGreatDoor
open Go.RowKit Go.Lib
set_option maxRecDepth 100000
set_option maxHeartbeats 16000000
theorem pj(m:Mg):(bo m).id=m.id∧(bo m).op=m.op:=by
 have key:∀(p:Prop) [Decidable p] (a b:Mg),(a.id=m.id∧a.op=m.op)→(b.id=m.id∧b.op=m.op)→((if p then a else b).id=m.id∧(if p then a else b).op=m.op):=fun p _ a b ha hb=>by split<;>assumption
 unfold bo
 repeat' (first|apply key|exact⟨rfl,rfl⟩)
theorem Df{m:Mg}(h:wJ (bo m) m=true):m.pl=(bo m).pl:=by
 obtain⟨h1,h2⟩:=pj m;generalize bo m=b at h h1 h2⊢;simp only[wJ,List.all_cons,List.all_nil,id,aI,aT,and_true] at h;cases b;cases m;simp only[Mg.pl,Mg.mk.injEq] at h h1 h2⊢
 simp_all
theorem lp{m:Mg}{l:Ls}(h:bH m l=true):m.pl=(bo m).pl∧iB m l=true∧l.ctl.any eL=false:=by
 simp only[bH,aI,Bool.not_eq_true'] at h;exact⟨Df h.1.1.2,h.1.2,h.2⟩
theorem qE{f:List Fl}(h:dz f=true):eD (cD 20 f).1=some f:=by
 simp only[dz,aI,aT] at h;obtain⟨_,h⟩:=h;cases hw:bG 20 f with
 |none=>rw[hw] at h;cases h
 |some r=>
  rw[hw] at h;cases r with
  |cons x y=>cases h
  |nil=>
   obtain⟨pre,e1,_,e3⟩:=ku 20 f [] hw;rw[List.append_nil] at e1;rw[e1] at e3⊢;exact e3
theorem ef{n k:Int}(h:bB n k=true):0≤n∧n≤k:=by simpa[bB] using h
theorem eM{id t:Int}{ks:List El}(h2:t≠2)(h10:t≠10)(h16:t≠16):oOp id (.mk 1 t true [] ks)=(oDo id t ks).bind fun x=>bN x.1 x.2:=by
 simp only[oOp,El.tag,h2,h10,h16,if_false,ew,ai]
theorem jQ(c t:Int)(ks r:List El):bS (fun e=>ci e c t) (.mk c t true [] ks::r)=some (ks,r):=dg r (ew c t [] ks)
theorem rX(c t:Int)(s:List UInt8)(r:List El):bS (fun e=>dK e c t) (.mk c t false s []::r)=some (s,r):=dg r (fJ c t s [])
theorem Dg{m:Mg}{l:Ls}(h:bH m l=true):oOp m.id (opE m l)=some (m.pl,l.bare):=by
 have hk:=(xp h).1;obtain⟨hp,hl,_⟩:=lp h;obtain⟨hn3,hn6,hn8⟩:=rP hl;clear h hl
 by_cases h0:m.op=0
 ·have e:l.bare={}:=by simp[Ls.bare,hn3 (by omega),hn6 (by omega),hn8 (by omega)]
  have hv:1≤m.ver∧m.ver≤127:=by simpa[br,h0] using hk
  rw[hp,e];have hv2:((m.ver.toNat:Nat):Int)=m.ver:=by omega
  simp only[opE,h0,if_true];rw[eM (by decide) (by decide) (by decide)];simp only[oDo,if_true,gU];rw[eE _ _ _ (by omega)];simp only[ai];rw[xq];simp only[ai,ip];cases hs:m.sasl
  ·simp only[aW,if_false]
   rw[gg]
   simp[bN,bo,h0,Mg.pl,hv2,hs]
  ·simp only[if_true]
   rw[gI _ _ (by simp[da,El.cls,El.tag])];simp only[ai,aW,if_false];rw[jQ];simp only[ai];rw[xq]
   simp[bN,bo,h0,Mg.pl,hv2,hs]
 by_cases h2:m.op=2
 ·have e:l.bare={}:=by simp[Ls.bare,hn3 (by omega),hn6 (by omega),hn8 (by omega)]
  rw[hp,e];rw[opE,if_neg h0,if_pos h2];simp only[oOp,El.tag,if_true];rw[fJ]
  simp[bo,h2,Mg.pl,ez]
 by_cases h3:m.op=3
 ·have e:l.bare={filt:=l.filt,sel:=l.sel}:=by simp[Ls.bare,hn6 (by omega),hn8 (by omega)]
  have hv:bB m.scope 2=true∧bB m.deref 3=true∧bB m.size 2147483647=true∧bB m.time 2147483647=true∧dz l.filt=true:=by
   simp only[br,h3,if_true,show ¬((3:Int)=0) by decide,show ¬((3:Int)=2) by decide,if_false,aI] at hk;exact⟨hk.1.1.1.1,hk.1.1.1.2,hk.1.1.2,hk.1.2,hk.2⟩
  obtain⟨v1,v2,v3,v4,v5⟩:=hv;have v1:=ef v1;have v2:=ef v2;have v3:=ef v3;have v4:=ef v4;have f5:=qE v5;rw[hp,e];have w1:((m.scope.toNat:Nat):Int)=m.scope:=by omega
  have w2:((m.deref.toNat:Nat):Int)=m.deref:=by omega
  have w3:((m.size.toNat:Nat):Int)=m.size:=by omega
  have w4:((m.time.toNat:Nat):Int)=m.time:=by omega
  have hop:opE m l=.mk 1 3 true [] (cY m.dn m.scope.toNat m.deref.toNat m.size.toNat m.time.toNat m.types (cD 20 l.filt).1 l.sel):=by rw[opE,if_neg h0,if_neg h2,if_pos h3]
  rw[hop,eM (by decide) (by decide) (by decide)];simp only[oDo,show ¬((3:Int)=0) by decide,if_true,if_false,fG,cY];rw[xq];simp only[ai];rw[eE _ _ _ (by omega)];simp only[ai];rw[eE _ _ _ (by omega)];simp only[ai];rw[eE _ _ _ (by omega)];simp only[ai];rw[eE _ _ _ (by omega)];simp only[ai];rw[go];simp only[ai];rw[dg _ f5];simp only[ai];rw[jQ];simp only[ai];rw[li]
  simp[bN,bo,h3,Mg.pl,w1,w2,w3,w4]
 by_cases h6:m.op=6
 ·have e:l.bare={mods:=l.mods}:=by simp[Ls.bare,hn3 (by omega),hn8 (by omega)]
  have hv:l.mods.all (fun x=>bB x.1 2)=true:=by simpa[br,h6] using hk
  rw[hp,e];rw[opE,if_neg h0,if_neg h2,if_neg h3,if_pos h6];rw[eM (by decide) (by decide) (by decide)];simp only[oDo,show ¬((6:Int)=0) by decide,show ¬((6:Int)=3) by decide,if_true,if_false,fH];rw[xq];simp only[ai];rw[dg (x:=l.mods) [] (by simp only[m0];rw[ew];exact qr _ hv)]
  simp[bN,bo,h6,Mg.pl]
 by_cases h8:m.op=8∨m.op=4
 ·have e:l.bare={attrs:=l.attrs}:=by simp[Ls.bare,hn3 (by omega),hn6 (by omega)]
  have ha:∀r:List El,bS (m0 dO) (.mk 0 16 true [] (l.attrs.map bI)::r)=some (l.attrs,r):=fun r=>by
   refine dg r ?_;simp only[m0];rw[ew];have:=jN (g:=dO) (f:=bI) (k:=id) l.attrs (fun x _=>jH x)
   simpa using this
  rw[hp,e];rw[opE,if_neg h0,if_neg h2,if_neg h3,if_neg h6,if_pos h8];rcases h8 with h8|h8
  ·rw[h8]
   rw[eM (by decide) (by decide) (by decide)];simp only[oDo,show ¬((8:Int)=0) by decide,show ¬((8:Int)=3) by decide,show ¬((8:Int)=6) by decide,if_true,if_false,fh];rw[xq];simp only[ai];rw[ha]
   simp[bN,bo,h8,Mg.pl]
  ·rw[h8]
   rw[eM (by decide) (by decide) (by decide)];simp only[oDo,show ¬((4:Int)=0) by decide,show ¬((4:Int)=3) by decide,show ¬((4:Int)=6) by decide,show ¬((4:Int)=8) by decide,if_true,if_false,fh];rw[xq];simp only[ai];rw[ha]
   simp[bN,bo,h8,Mg.pl]
 have e:l.bare={}:=by simp[Ls.bare,hn3 h3,hn6 h6,hn8 h8]
 rw[hp,e];have n8:m.op≠8:=fun h=>h8 (.inl h)
 have n4:m.op≠4:=fun h=>h8 (.inr h)
 by_cases h10:m.op=10
 ·rw[opE,if_neg h0,if_neg h2,if_neg h3,if_neg h6,if_neg h8,if_pos h10]
  simp only[oOp,El.tag,show ¬((10:Int)=2) by decide,if_true,if_false];rw[fJ]
  simp[bo,h10,Mg.pl]
 by_cases h12:m.op=12
 ·have hv:m.hasSup=true∨m.newSup=[]:=by simpa[br,h12] using hk
  rw[opE,if_neg h0,if_neg h2,if_neg h3,if_neg h6,if_neg h8,if_neg h10,if_pos h12];rw[eM (by decide) (by decide) (by decide)];simp only[oDo,show ¬((12:Int)=0) by decide,show ¬((12:Int)=3) by decide,show ¬((12:Int)=6) by decide,show ¬((12:Int)=8) by decide,show ¬((12:Int)=4) by decide,if_true,if_false,gV,List.cons_append,List.nil_append];rw[xq];simp only[ai];rw[xq];simp only[ai];rw[go];simp only[ai];cases hs:m.hasSup
  ·simp only[aW,if_false]
   rw[gI _ _ rfl];have hz:m.newSup=[]:=by rw[hs] at hv;simpa using hv
   simp[bN,bo,h12,Mg.pl,hs,hz]
  ·simp only[if_true]
   rw[gg]
   simp[bN,bo,h12,Mg.pl,hs]
 by_cases h14:m.op=14
 ·rw[opE,if_neg h0,if_neg h2,if_neg h3,if_neg h6,if_neg h8,if_neg h10,if_neg h12,if_pos h14]
  rw[eM (by decide) (by decide) (by decide)];simp only[oDo,show ¬((14:Int)=0) by decide,show ¬((14:Int)=3) by decide,show ¬((14:Int)=6) by decide,show ¬((14:Int)=8) by decide,show ¬((14:Int)=4) by decide,show ¬((14:Int)=12) by decide,if_true,if_false,eZ];rw[xq];simp only[ai];rw[jQ];simp only[ai];rw[xq];simp only[ai];rw[xq]
  simp[bN,bo,h14,Mg.pl]
 by_cases h16:m.op=16
 ·have hv:bB m.target 2147483647=true:=by simpa[br,h16] using hk
  have hv:=ef hv;have w1:((m.target.toNat:Nat):Int)=m.target:=by omega
  rw[opE,if_neg h0,if_neg h2,if_neg h3,if_neg h6,if_neg h8,if_neg h10,if_neg h12,if_neg h14,if_pos h16];simp only[oOp,El.tag,show ¬((16:Int)=2) by decide,show ¬((16:Int)=10) by decide,if_true,if_false];rw[oo _ _ _ (by omega)]
  simp[bo,h16,Mg.pl,w1]
 by_cases h23:m.op=23
 ·have hv:m.has=true∨m.value=[]:=by simpa[br,h23] using hk
  rw[opE,if_neg h0,if_neg h2,if_neg h3,if_neg h6,if_neg h8,if_neg h10,if_neg h12,if_neg h14,if_neg h16,if_pos h23];rw[eM (by decide) (by decide) (by decide)];simp only[oDo,show ¬((23:Int)=0) by decide,show ¬((23:Int)=3) by decide,show ¬((23:Int)=6) by decide,show ¬((23:Int)=8) by decide,show ¬((23:Int)=4) by decide,show ¬((23:Int)=12) by decide,show ¬((23:Int)=14) by decide,if_true,if_false,fI,List.cons_append,List.nil_append];rw[rX];simp only[ai];cases hs:m.has
  ·simp only[aW,if_false]
   rw[gI _ _ rfl];have hz:m.value=[]:=by rw[hs] at hv;simpa using hv
   simp[bN,bo,h23,Mg.pl,hs,hz]
  ·simp only[if_true]
   rw[gg]
   simp[bN,bo,h23,Mg.pl,hs]
 have hop:opE m l=.mk 1 m.op true [] (dh m):=by rw[opE,if_neg h0,if_neg h2,if_neg h3,if_neg h6,if_neg h8,if_neg h10,if_neg h12,if_neg h14,if_neg h16,if_neg h23]
 have hdo:∀r,ez.contains m.op=true→oDo m.id m.op r=dI m.id m.op r:=fun r hc=>by
  simp only[oDo,h0,h3,h6,n8,n4,h12,h14,h23,hc,if_true,if_false]
 by_cases h24:m.op=24
 ·have hc:ez.contains m.op=true:=by rw[h24];rfl
  have hv:bB m.code 2147483647=true∧(m.has=true∨m.value=[]):=by simpa[br,h24] using hk
  obtain⟨v1,v2⟩:=hv;have v1:=ef v1;have w1:((m.code.toNat:Nat):Int)=m.code:=by omega
  rw[hop,eM h2 h10 h16,hdo _ hc];simp only[dI,dh,List.cons_append,List.nil_append];rw[eE _ _ _ (by omega)];simp only[ai];rw[xq];simp only[ai];rw[xq];simp only[ai,h24,if_true];have oS:∀o:List UInt8,(eS 11 (if m.has=true then[El.mk 2 11 false m.value []] else[])).map (fun v=>(({id:=m.id,op:=24,code:=((m.code.toNat:Nat):Int),matched:=m.matched,text:=m.text,oid:=o,has:=v.1.2,value:=v.1.1},{}),v.2))=some ((({id:=m.id,op:=24,code:=m.code,matched:=m.matched,text:=m.text,oid:=o,has:=m.has,value:=m.value}:Mg),({}:Ls)),([]:List El)):=by
   intro o;cases hs:m.has
   ·simp only[aW,if_false]
    rw[gI _ _ rfl];have hz:m.value=[]:=by rw[hs] at v2;simpa using v2
    simp[w1,hz]
   ·simp only[if_true]
    rw[gg]
    simp[w1]
  by_cases ho:m.oid=[]
  ·simp only[ho,if_true,List.nil_append]
   rw[gI _ _ (by cases m.has<;>simp[da,El.cls,El.tag])];simp only[ai,aW,false_and,if_false];rw[oS]
   simp[bN,bo,h24,Mg.pl,ho]
  ·simp only[ho,if_false,List.cons_append,List.nil_append]
   rw[gg];simp only[ai,ho,and_false,if_false];rw[oS]
   simp[bN,bo,h24,Mg.pl]
 ·have hc:ez.contains m.op=true:=by
   cases hc:ez.contains m.op
   ·simp only[br,h0,h2,h3,h6,h8,h10,h12,h14,h16,h23,h24,hc,if_false,aW] at hk
   ·rfl
  have hv:bB m.code 2147483647=true:=by
   simp only[br,h0,h2,h3,h6,h8,h10,h12,h14,h16,h23,h24,hc,if_false,if_true] at hk;exact hk
  have v1:=ef hv;have w1:((m.code.toNat:Nat):Int)=m.code:=by omega
  have hb:bo m={id:=m.id,op:=m.op,ctl:=m.ctl,code:=m.code,matched:=m.matched,text:=m.text}:=by
   simp only[bo,h0,h3,h6,h8,h10,h12,h14,h16,h23,h24,hc,if_false,if_true]
  have ho:m.oid=[]:=by have:=congrArg Mg.oid hp;rw[hb] at this;exact this
  have hh:m.has=false:=by have:=congrArg Mg.has hp;rw[hb] at this;exact this
  rw[hop,eM h2 h10 h16,hdo _ hc];simp only[dI,dh,ho,hh,if_true,aW,if_false,List.append_nil];rw[eE _ _ _ (by omega)];simp only[ai];rw[xq];simp only[ai];rw[xq];simp only[ai,h24,if_false];rw[hb]
  simp[bN,Mg.pl,w1]
theorem qF{m:Mg}{l:Ls}(h:bH m l=true):dU (EY m l)=some (m.pl,l):=by
 have hid:=(xp h).2.1;obtain⟨_,_,hct⟩:=lp h;have w1:((m.id.toNat:Nat):Int)=m.id:=by omega
 unfold dU EY;rw[ew];simp only[ai,mn,List.cons_append,List.nil_append];rw[eE _ _ _ (by omega)];simp only[ai,w1];rw[dg _ (Dg h)];simp only[ai]
 by_cases hc:l.ctl=[]
 ·simp[hc,rO,bN,Ls.bare]
  cases l
  simp_all
 ·simp only[hc,if_false,da,El.cls,El.tag,decide_true,Bool.and_self,if_true]
  rw[dg (x:=l.ctl) [] (by rw[ew];exact qw _ hct)]
  simp[bN,Ls.bare]
mutual
def cW:El→Nat
 | .mk _ _ _ b ks=>1+(cV (b.length+bD ks)).length+b.length+bD ks
def bD:List El→Nat
 |[]=>0
 |e::r=>cW e+bD r
end
theorem ia{a b:Nat}(h:a≤b):(cV a).length≤(cV b).length:=by
 unfold cV
 repeat' split
 all_goals simp only[aG,aU];omega
theorem mz(a:Nat):1≤(cV a).length:=by
 unfold cV
 repeat' split
 all_goals simp
theorem iK(e:El):2≤cW e:=by
 cases e with
 |mk c t k b ks=>have:=mz (b.length+bD ks);simp only[cW];omega
theorem iL:∀l:List El,2*l.length≤bD l
 |[]=>by simp
 |e::r=>by have:=iK e;have:=iL r;simp only[bD,aG];omega
mutual
theorem kC:∀e:El,cW e≤1000000000→SmE e
 | .mk c t k b ks,h=>by
  have:=iL ks;simp only[cW] at h;exact⟨by omega,by omega,ov ks (by omega)⟩
theorem ov:∀l:List El,bD l≤1000000000→SmL l
 |[],_=>trivial
 |e::r,h=>by
  simp only[bD] at h;exact⟨kC e (by omega),ov r (by omega)⟩
end
theorem Dh(l:List UInt8):dW l<256^l.length:=by
 have key:∀(l:List UInt8) (v:Nat),l.foldl (fun v b=>v*256+b.toNat) v<(v+1)*256^l.length:=by
  intro l
  induction l with
  |nil=>intro v;simp
  |cons b r ih=>
   intro v;have h:=ih (v*256+b.toNat);have hb:=UInt8.toNat_lt b;simp only[List.foldl_cons,aG];refine Nat.lt_of_lt_of_le h ?_;rw[Nat.pow_succ,Nat.mul_comm (256^r.length) 256,←Nat.mul_assoc];exact Nat.mul_le_mul_right _ (by omega)
 have:=key l 0;unfold dW
 simpa using this
theorem qG(b:List UInt8)(h:(bt b).2.2=0):1+(cV (bt b).2.1).length≤(bt b).1:=by
 unfold bt at*
 split at h
 ·simp at h
 ·rename_i b0 r
  split at h
  ·simp at h
  ·rename_i h1
   simp only[h1,if_false];cases r with
   |nil=>simp at h
   |cons b1 r2=>
    simp only at h⊢
    split
    ·rename_i h2
     simp only[cV,h2,if_true,aG,aU]
     omega
    ·rename_i h2
     simp only[h2,if_false] at h
     split
     ·rename_i h3;rw[if_pos h3] at h;simp at h
     ·rename_i h3
      simp only[h3,if_false] at h
      split
      ·rename_i h4;rw[if_pos h4] at h;simp at h
      ·rename_i h4
       simp only[h4,if_false] at h
       split
       ·rename_i h5;rw[if_pos h5] at h;simp at h
       ·rename_i h5
        have hn:=Dh (r2.take (b1.toNat -128));rw[List.length_take,Nat.min_eq_left (by omega)] at hn;simp only;have hk:b1.toNat -128=1∨b1.toNat -128=2∨3≤b1.toNat -128:=by omega
        rcases hk with hk|hk|hk
        ·rw[hk] at hn⊢
         unfold cV
         repeat' split
         all_goals simp only[aG,aU];omega
        ·rw[hk] at hn⊢
         unfold cV
         repeat' split
         all_goals simp only[aG,aU];omega
        ·unfold cV
         repeat' split
         all_goals simp only[aG,aU];omega
theorem lu{g:List UInt8→Except Int (El×List UInt8)}(hg:∀b e r,g b=.ok (e,r)→cW e+r.length≤b.length):∀(n:Nat) (c:List UInt8) (ks:List El),dC g n c=.ok ks→bD ks≤c.length
 |0,[],ks,h=>by simp only[dC,Except.ok.injEq] at h;subst h;simp[bD]
 |0,b::t,ks,h=>by simp only[dC,Except.ok.injEq] at h;subst h;simp[bD]
 |n+1,[],ks,h=>by simp only[dC,Except.ok.injEq] at h;subst h;simp[bD]
 |n+1,b::t,ks,h=>by
  unfold dC at h;cases hr:g (b::t) with
  |error e=>rw[hr] at h;cases h
  |ok p=>
   obtain⟨k,c⟩:=p;rw[hr] at h;simp only at h;cases hk:dC g n c with
   |error e=>rw[hk] at h;cases h
   |ok ks2=>
    rw[hk] at h;simp only[Except.ok.injEq] at h;subst h;have h1:=hg _ _ _ hr;have h2:=lu hg n c ks2 hk;simp only[bD]
    omega
theorem fL:∀(k:Nat) (b:List UInt8) (e:El) (r:List UInt8),bP k b=.ok (e,r)→cW e+r.length≤b.length∧cW e≤65536
 |0,b,e,r,h=>by
  unfold bP at h
  split at h<;>cases h
 |k+1,b,e,r,h=>by
  unfold bP at h
  by_cases h0:(bt b).2.2=0
  ·have h2:=qG b h0
   have h4:=jL b;rw[if_pos h0] at h
   by_cases h1:b.length<(bt b).1+(bt b).2.1
   ·rw[if_pos h1] at h;cases h
   ·rw[if_neg h1] at h
    have hbl:((b.drop (bt b).1).take (bt b).2.1).length=(bt b).2.1:=by rw[List.length_take,List.length_drop];omega
    by_cases h3:(b.headD 0).toNat/32% 2=0
    ·rw[if_pos h3] at h
     cases h;simp only[cW,bD,hbl,List.length_drop,Nat.add_zero]
     omega
    ·rw[if_neg h3] at h
     cases hk:dC (bP k) ((b.drop (bt b).1).take (bt b).2.1).length ((b.drop (bt b).1).take (bt b).2.1) with
     |error e=>rw[hk] at h;cases h
     |ok ks=>
      rw[hk] at h;cases h;have hr:=lu (fun b e r h=>(fL k b e r h).1) _ _ _ hk;rw[hbl] at hr;have hm:=ia (a:=bD ks) hr;simp only[cW,aU,List.length_drop,Nat.zero_add]
      omega
  ·rw[if_neg h0] at h;cases h
def Le(a b:El):Prop:=cW a≤cW b∧∀d,okE d b=true→okE d a=true
def LL(a b:List El):Prop:=bD a≤bD b∧∀d,okL d b=true→okL d a=true
theorem LL.nil(b:List El):LL [] b:=⟨by simp[bD],fun _ _=>by simp[okL]⟩
theorem LL.cons{a b:El}{r s:List El}(h:Le a b)(k:LL r s):LL (a::r) (b::s):=by
 refine⟨?_,fun d hd=>?_⟩
 ·have:=h.1;have:=k.1;simp only[bD];omega
 ·simp only[okL,aI] at hd⊢
  exact⟨h.2 d hd.1,k.2 d hd.2⟩
theorem LL.drop{b:El}{r s:List El}(k:LL r s):LL r (b::s):=by
 refine⟨?_,fun d hd=>?_⟩
 ·have:=k.1;simp only[bD];omega
 ·simp only[okL,aI] at hd
  exact k.2 d hd.2
theorem Le.prim{c t:Int}{b s:List UInt8}{ks:List El}(h:s.length≤b.length):Le (.mk c t false s []) (.mk c t false b ks):=by
 refine⟨?_,fun d hd=>?_⟩
 ·have:=ia (a:=s.length+bD []) (b:=b.length+bD ks) (by simp only[bD];omega)
  simp only[cW,bD] at this⊢
  omega
 ·cases d with
  |zero=>simp[okE] at hd
  |succ d=>
   simp only[okE,okL,aI,aT,aW,if_false] at hd⊢;exact⟨⟨hd.1.1,trivial⟩,trivial⟩
theorem Le.cons'{c t:Int}{b:List UInt8}{ks ks':List El}(h:LL ks' ks):Le (.mk c t true [] ks') (.mk c t true b ks):=by
 refine⟨?_,fun d hd=>?_⟩
 ·have h1:=h.1
  have:=ia (a:=0+bD ks') (b:=b.length+bD ks) (by omega);simp only[cW,aU] at this⊢
  omega
 ·cases d with
  |zero=>simp[okE] at hd
  |succ d=>
   simp only[okE,aI,aT,if_true] at hd⊢;exact⟨⟨hd.1.1,trivial⟩,h.2 d hd.2⟩
theorem jj{e:El}{c t:Int}{k:Bool}(h:isE e c t k=true):e=.mk c t k e.bytes e.kids:=by
 cases e with
 |mk c' t' k' b ks=>
  simp only[isE,El.cls,El.tag,El.cons,aI, beq_iff_eq] at h;obtain⟨⟨h1,h2⟩,h3⟩:=h;have h1:=of_decide_eq_true h1;have h2:=of_decide_eq_true h2;subst h1 h2 h3
  rfl
theorem Le.txt{e:El}{c t:Int}{s:List UInt8}(h:dK e c t=some s):Le (.mk c t false s []) e:=by
 unfold dK at h
 split at h
 ·rename_i hi
  cases h;rw[jj hi];exact Le.prim (ah _)
 ·cases h
theorem Le.kid{e:El}{c t:Int}{ks ks':List El}(h:ci e c t=some ks)(k:LL ks' ks):Le (.mk c t true [] ks') e:=by
 unfold ci at h
 split at h
 ·rename_i hi
  cases h;rw[jj hi];exact Le.cons' k
 ·cases h
theorem qJ:∀(r:List UInt8) (v:Int),r.length≤3→-128≤v→v<128→v*256^r.length≤r.foldl dZ v∧r.foldl dZ v<(v+1)*256^r.length
 |[],v,_,_,_=>by simp;omega
 |[b],v,_,_,_=>by
  have hb:=UInt8.toNat_lt b;simp only[List.foldl_cons,List.foldl_nil,aG,aU,dZ];rw[aK]
  omega
 |[b,c],v,_,_,_=>by
  have hb:=UInt8.toNat_lt b;have hc:=UInt8.toNat_lt c;simp only[List.foldl_cons,List.foldl_nil,aG,aU,dZ];simp only[aK]
  omega
 |[b,c,d],v,_,_,_=>by
  have hb:=UInt8.toNat_lt b;have hc:=UInt8.toNat_lt c;have hd:=UInt8.toNat_lt d;simp only[List.foldl_cons,List.foldl_nil,aG,aU,dZ];simp only[aK]
  omega
 |_::_::_::_::_,_,h,_,_=>by simp at h
theorem tL{b:List UInt8}(h1:1≤b.length)(h0:0≤sgI b):(sgB (sgI b).toNat).length≤b.length:=by
 have h4:=(eg (sgI b).toNat).2;cases b with
 |nil=>simp at h1
 |cons x r=>
  simp only[aG]
  by_cases hr:3≤r.length
  ·omega
  ·have hx:=UInt8.toNat_lt x
   have hv:sgI (x::r)<128*256^r.length:=by
    show r.foldl dZ (if x.toNat<128 then(x.toNat:Int) else(x.toNat:Int) -256)<_
    split
    ·have:=(qJ r (x.toNat:Int) (by omega) (by omega) (by omega)).2
     refine Int.lt_of_lt_of_le this ?_;exact Int.mul_le_mul_of_nonneg_right (by omega) (Int.le_of_lt (Int.pow_pos (by decide)))
    ·have:=(qJ r ((x.toNat:Int) -256) (by omega) (by omega) (by omega)).2
     refine Int.lt_of_lt_of_le this ?_;exact Int.mul_le_mul_of_nonneg_right (by omega) (Int.le_of_lt (Int.pow_pos (by decide)))
   have hk:r.length=0∨r.length=1∨r.length=2:=by omega
   rcases hk with hk|hk|hk
   all_goals
    rw[hk] at hv⊢;simp only[Int.pow_succ,Int.pow_zero] at hv;unfold sgB
    repeat' split
    all_goals simp only[aG,aU];omega
theorem Le.int{e:El}{c t n:Int}(h:fW e c t=some n)(h0:0≤n):Le (.mk c t false (sgB n.toNat) []) e:=by
 unfold fW at h
 split at h
 ·rename_i hi
  cases h;unfold gA at hi h0⊢
  by_cases hc:(isE e c t false&&decide (1≤e.bytes.length∧e.bytes.length≤8))=true
  ·rw[if_pos hc] at h0⊢
   simp only[aI,aT] at hc;have hb:=tL hc.2.1 h0;have he:=jj hc.1;generalize e.bytes=b at*;rw[he];exact Le.prim hb
  ·rw[if_neg hc] at hi
   exact absurd hi (by decide)
 ·cases h
theorem Le.bool{e:El}{b:Bool}(h:gT e=some b)(x:Bool):Le (.mk 0 1 false (blB x) []) e:=by
 unfold gT at h
 split at h
 ·rename_i hi
  simp only[aI,aT] at hi;rw[jj hi.1];refine Le.prim ?_;rw[hi.2];cases x<;>simp[blB]
 ·cases h
theorem LL.get{α:Type}{g:El→Option α}{l:List El}{y:α×List El}{F:El}{r:List El}(h:bS g l=some y)(hg:∀e,g e=some y.1→Le F e)(k:LL r y.2):LL (F::r) l:=by
 cases l with
 |nil=>simp[bS,ch] at h
 |cons e t=>
  simp only[bS,ch,ai,aV] at h;obtain⟨a,ha,rfl⟩:=h;exact LL.cons (hg e ha) k
theorem LL.skip{α:Type}{g:El→Option α}{l:List El}{y:α×List El}{r:List El}(h:bS g l=some y)(k:LL r y.2):LL r l:=by
 cases l with
 |nil=>simp[bS,ch] at h
 |cons e t=>
  simp only[bS,ch,ai,aV] at h;obtain⟨a,ha,rfl⟩:=h;exact LL.drop k
theorem LL.str{l:List El}{y:List UInt8×List El}{r:List El}(h:cg l=some y)(k:LL r y.2):LL (.mk 0 4 false y.1 []::r) l:=LL.get h (fun _ he=>Le.txt he) k
theorem LL.num{t:Int}{l:List El}{y:Int×List El}{r:List El}(h:eR t l=some y)(h0:0≤y.1)(k:LL r y.2):LL (.mk 0 t false (sgB y.1.toNat) []::r) l:=LL.get h (fun _ he=>Le.int he h0) k
theorem LL.flag{l:List El}{y:Bool×List El}{r:List El}(h:fm l=some y)(x:Bool)(k:LL r y.2):LL (.mk 0 1 false (blB x) []::r) l:=LL.get h (fun _ he=>Le.bool he x) k
theorem LL.opt{t:Int}{l:List El}{y:(List UInt8×Bool)×List El}{r:List El}(h:eS t l=some y)(k:LL r y.2):LL ((if y.1.2 then[.mk 2 t false y.1.1 []] else[])++r) l:=by
 unfold eS at h
 split at h
 ·simp only[aV] at h
  obtain⟨x,hx,rfl⟩:=h;exact LL.get hx (fun _ he=>Le.txt he) k
 ·cases h
  exact k
theorem bY{α:Type}{x y:α}{l:List El}(h:bN x l=some y):x=y∧l=[]:=by
 unfold bN at h
 split at h
 ·cases h
  exact⟨rfl,by assumption⟩
 ·cases h
theorem LL.strs:∀{l:List El} {ss:List (List UInt8)},dN l=some ss→LL (ss.map cP) l
 |[],ss,h=>by simp only[dN,Option.some.injEq] at h;subst h;exact LL.nil _
 |e::r,ss,h=>by
  simp only[dN,ax,aV] at h;obtain⟨s,h1,t,h2,rfl⟩:=h;exact LL.cons (Le.txt h1) (LL.strs h2)
theorem Le.attr{e:El}{x:List UInt8×List (List UInt8)}(h:dO e=some x):Le (bI x) e:=by
 simp only[dO,ax] at h;obtain⟨ks,h1,a,h2,b,h3,vs,h4,h5⟩:=h;obtain⟨rfl,_⟩:=bY h5;exact Le.kid h1 (LL.str h2 (LL.get h3 (fun _ he=>Le.kid he (LL.strs h4)) (LL.nil _)))
theorem LL.all{α:Type}{g:El→Option α}{f:α→El}:∀{l:List El} {xs:List α},ev g l=some xs→(∀x∈xs,∀e,g e=some x→Le (f x) e)→LL (xs.map f) l
 |[],xs,h,_=>by simp only[ev,Option.some.injEq] at h;subst h;exact LL.nil _
 |e::r,xs,h,k=>by
  simp only[ev,ax,aV] at h;obtain⟨x,h1,t,h2,rfl⟩:=h;exact LL.cons (k x (by simp) e h1) (LL.all h2 fun y hy=>k y (by simp[hy]))
theorem Le.ctl{e:El}{c:Ct}(h:AR e=some c):Le (ei c) e:=by
 simp only[AR,ax] at h;obtain⟨ks,h1,o,h2,b,h3,v,h4,h5⟩:=h;obtain⟨rfl,_⟩:=bY h5;refine Le.kid h1 ?_;show LL (.mk 0 4 false o.1 []::(eQ _++fP _)) ks;refine LL.str h2 ?_;have hv:LL (fP ⟨o.1,b.1,v.1.2,v.1.1⟩) b.2:=by
  split at h4
  ·cases h4
   exact LL.nil _
  ·simp only[aV] at h4
   obtain⟨s,hs,rfl⟩:=h4;exact LL.str hs (LL.nil _)
 split at h3
 ·unfold eQ
  cases b.1 with
  |true=>exact LL.flag h3 true hv
  |false=>exact LL.skip h3 hv
 ·cases h3
  exact hv
/- Filters. -/
theorem LL.piece{t:Int}{l:List El}{y:List UInt8×List El}{r:List El}(h:df t l=some y)(k:LL r y.2):LL (.mk 2 t false y.1 []::r) l:=by
 simp only[df,ax] at h;obtain⟨s,h1,h2⟩:=h
 split at h2
 ·cases h2
 ·cases h2
  exact LL.get h1 (fun _ he=>Le.txt he) k
theorem LL.anys:∀{n:Nat} {l:List El} {y:List (List UInt8)×List El} {r:List El},dT n l=some y→LL r y.2→LL (y.1.map (fun s=>.mk 2 1 false s [])++r) l
 |0,l,y,r,h,k=>by simp only[dT,Option.some.injEq] at h;subst h;exact k
 |n+1,l,y,r,h,k=>by
  simp only[dT] at h
  split at h
  ·simp only[ax,aV] at h
   obtain⟨s,h1,x,h2,rfl⟩:=h;exact LL.piece h1 (LL.anys h2 k)
  ·cases h
   exact k
theorem LL.part{t:Int}{l:List El}{y:List UInt8×List El}{r:List El}(h:(if da 2 t l then df t l else some ([],l))=some y)(k:LL r y.2):LL ((if y.1=[] then[] else[.mk 2 t false y.1 []])++r) l:=by
 split at h
 ·split
  ·simp only[df,ax] at h
   obtain⟨s,h1,h2⟩:=h
   split at h2
   ·cases h2
   ·cases h2
    exact LL.skip h1 k
  ·exact LL.piece h k
 ·cases h
  exact k
theorem LL.pieces{l:List El}{x:List UInt8×List (List UInt8)×List UInt8}(h:fe l=some x)(o n:Int)(t v:List UInt8):LL (bL ⟨o,n,t,v,x.1,x.2.2,x.2.1⟩) l:=by
 simp only[fe,ax] at h;obtain⟨i,h1,a,h2,f,h3,h5⟩:=h;obtain⟨rfl,_⟩:=bY h5;simp only[bL];rw[List.append_assoc];refine LL.part h1 (LL.anys h2 ?_);have:=LL.part (r:=[]) h3 (LL.nil _)
 rwa [List.append_nil] at this
theorem sy{m:Mg}{l:Ls}(hk:LsOk m l)(hv:bH m l=true):SmE (opE m l):=by
 obtain⟨hkb,_,_⟩:=xp hv;have d1:=hk.dn;have d2:=hk.secret;have d3:=hk.newRdn;have d4:=hk.newSup;have d5:=hk.typ;have d6:=hk.value;have d7:=hk.oid;have d8:(blB m.delOld).length=1:=by cases m.delOld<;>rfl
 by_cases h0:m.op=0
 ·have h1:=(eg m.ver.toNat).2
  simp only[opE,h0,if_true,ip]
  split<;>simp[SmE,SmL]<;>omega
 by_cases h2:m.op=2
 ·simp[opE,h2,SmE,SmL]
 by_cases h3:m.op=3
 ·have hkb2:(bB m.scope 2&&bB m.deref 3&&bB m.size 2147483647&&bB m.time 2147483647&&dz l.filt)=true:=by simpa[br,h3] using hkb
  simp only[aI,bB,aT,dz] at hkb2;obtain⟨⟨⟨⟨h1,h2⟩,h3'⟩,h4⟩,h5,h6⟩:=hkb2;have hw:bG 20 l.filt=some []:=by
   split at h6
   ·assumption
   ·cases h6
  have e:opE m l=.mk 1 3 true [] (cY m.dn m.scope.toNat m.deref.toNat m.size.toNat m.time.toNat m.types (cD 20 l.filt).1 l.sel):=by simp[opE,h3]
  rw[e];simp only[SmE];exact⟨by simp,by simp[cY],xO _ _ _ _ _ _ _ _ (by omega) (jr 20 l.filt [] (fun p hp=>(hk.filt.2 p hp).1) h5 hw) hk.sels (by have:=hk.sel;omega)⟩
 by_cases h6:m.op=6
 ·have hr:l.mods.all (fun x=>bB x.1 2)=true:=by simpa[br,h6] using hkb
  have hs:=mg hk hr;have e:opE m l=.mk 1 6 true [] [.mk 0 4 false m.dn [],.mk 0 16 true [] ((dR l.mods).map du)]:=by simp[opE,h6]
  rw[e];simp only[SmE,SmL] at hs⊢
  simp at hs⊢
  exact⟨by omega,hs⟩
 by_cases h8:m.op=8∨m.op=4
 ·have hs:=xF hk
  have e:opE m l=.mk 1 m.op true [] [.mk 0 4 false m.dn [],.mk 0 16 true [] (l.attrs.map bI)]:=by simp only[opE,h0,h2,h3,h6,h8,if_true,if_false]
  rw[e];simp only[SmE,SmL] at hs⊢
  simp at hs⊢
  exact⟨by omega,hs⟩
 by_cases h10:m.op=10
 ·simp[opE,h10,SmE,SmL];omega
 by_cases h12:m.op=12
 ·simp only[opE,h12]
  simp
  split<;>simp[SmE,SmL]<;>omega
 by_cases h14:m.op=14
 ·simp[opE,h14,SmE,SmL];omega
 by_cases h16:m.op=16
 ·have h1:=(eg m.target.toNat).2
  simp[opE,h16,SmE,SmL];omega
 by_cases h23:m.op=23
 ·simp only[opE,h23]
  simp
  split<;>simp[SmE,SmL]<;>omega
 have hn:m.op∉([0,2,3,6,8,4,10,12,14,16,23]:List Int):=by
  simp only[aY,aZ,or_false,not_or] at h8⊢;exact⟨h0,h2,h3,h6,h8.1,h8.2,h10,h12,h14,h16,h23⟩
 obtain⟨hc0,hc1⟩:=lg hkb hn;obtain⟨hs1,hs2⟩:=kY hk (by omega);have e:opE m l=.mk 1 m.op true [] (dh m):=by simp only[opE,h0,h2,h3,h6,h8,h10,h12,h14,h16,h23,if_false]
 rw[e];simp only[SmE];exact⟨by simp,by omega,hs1⟩
theorem tM{m:Mg}{l:Ls}(hk:LsOk m l)(hv:bH m l=true):SmE (EY m l):=by
 have h1:=sy hk hv;have h2:=(eg m.id.toNat).2;have h3:=kO l.ctl hk.ctls;have h4:=hk.ctl;unfold EY mn;simp only[SmE];refine⟨by simp,by split<;>simp,wP _ _ ?_ ?_⟩
 ·simp only[SmL]
  exact⟨by simp[SmE,SmL];omega,h1,trivial⟩
 ·split
  ·trivial
  ·simp only[SmL,SmE,List.length_map]
   exact⟨⟨by simp,by omega,h3⟩,trivial⟩
def cR(m:Mg)(l:Ls):List UInt8×Int:=if bH m l then dD (EY m l) else([],70)
theorem qL(A:Array Value)(hsz:A.size=28)(w:World)
  (hval:∀w',Bw w w'→Calls Tryz.prog 22 #[.agg A] w' fun e w''=>e=.returned (Bf)∧Bw w' w''):
  Cr 6 #[.agg A] w (.tuple #[Es,.int .i64 70]):=by
 have b1:=alb w A 32;have m1:=alz w A 32;have HS:=hid hsz;have kv:=hval _ b1;clear hsz hval
 go_enter Tryz.func6,Tryz.ntmps6
 go_upto_region 1 with fail
 generalize w.alloc (.cells A 32)=w1 at b1 m1 kv⊢
 go_wp2_with (refine ldM (.tmp 1) m1 HS.out ?_)
 refine ag kv ?_;rintro e w2 ⟨rfl,hb2⟩;have b2:=btt b1 hb2;clear kv hb2 b1 m1
 go_wp2_with fail
 go_ret2
 exact⟨rfl,b2⟩
theorem fa(m:Mg)(l:Ls)(w:World)(hm:MgM w m l)(hk:LsOk m l)(hE:Env w):
  Cr 6 #[.agg m.row] w (.tuple #[.string ⟨(cR m l).1.toArray⟩,.int .i64 (cR m l).2]):=by
 have kv:∀w',Bw w w'→Calls Tryz.prog 22 #[.agg m.row] w' fun e w''=>e=.returned (.bool (bH m l))∧Bw w' w'':=fun w' hb=>
  gR m l w' (hm.below hb) (by have:=hk.mods;omega) (by have:=hk.ctl;omega) (fun _ w2 hb2=>gu l.filt m.filt w2 ((hm.filt.below hb).below hb2) hk.filt ((hE.below hb).below hb2))
 unfold cR;cases hv:bH m l with
 |false=>
  rw[hv] at kv;exact qL m.row rfl w kv
 |true=>
  rw[hv] at kv;have hid:=(xp hv).2.1;exact sp 65537 pC m.row rfl (EY m l) (tM hk hv) (fV _) w kv (fun w' hb=>AT m l w' (hm.below hb) hk hid (opE m l) (sy hk hv) (fun w2 hb2=>tK m l w2 ((hm.below hb).below hb2) hk hv) (mn m l) rfl)
theorem fx{e:El}{c t:Int}{s:List UInt8}(h:dK e c t=some s):s.length≤cW e:=by
 have:=(Le.txt h).1;simp only[cW] at this
 omega
theorem dB{e:El}{c t:Int}{ks:List El}(h:ci e c t=some ks):bD ks≤cW e:=by
 unfold ci at h
 split at h
 ·cases h
  cases e;simp only[cW,El.kids]
  omega
 ·cases h
theorem l0{α:Type}{g:El→Option α}{l:List El}{y:α×List El}(h:bS g l=some y):∃e,g e=some y.1∧cW e≤bD l∧bD y.2≤bD l:=by
 cases l with
 |nil=>simp[bS,ch] at h
 |cons e t=>
  simp only[bS,ch,ai,aV] at h;obtain⟨a,ha,rfl⟩:=h;exact⟨e,ha,by simp only[bD];omega,by simp only[bD];omega⟩
theorem dF{l:List El}{y:List UInt8×List El}(h:cg l=some y):y.1.length≤bD l∧bD y.2≤bD l:=by
 obtain⟨e,h1,h2,h3⟩:=l0 h;exact⟨Nat.le_trans (fx h1) h2,h3⟩
theorem gm{t:Int}{l:List El}{y:Int×List El}(h:eR t l=some y):bD y.2≤bD l:=by
 obtain⟨e,h1,h2,h3⟩:=l0 h;exact h3
theorem jk{l:List El}{y:Bool×List El}(h:fm l=some y):bD y.2≤bD l:=by
 obtain⟨e,h1,h2,h3⟩:=l0 h;exact h3
theorem gL{t:Int}{l:List El}{y:(List UInt8×Bool)×List El}(h:eS t l=some y):y.1.1.length≤bD l∧bD y.2≤bD l:=by
 unfold eS at h
 split at h
 ·simp only[aV] at h
  obtain⟨x,hx,rfl⟩:=h;obtain⟨e,h1,h2,h3⟩:=l0 hx;exact⟨Nat.le_trans (fx h1) h2,h3⟩
 ·cases h
  exact⟨by simp,ah _⟩
theorem jl:∀{l:List El} {ss:List (List UInt8)},dN l=some ss→ss.length≤bD l∧∀s∈ss,s.length≤bD l
 |[],ss,h=>by simp only[dN,Option.some.injEq] at h;subst h;simp
 |e::r,ss,h=>by
  simp only[dN,ax,aV] at h;obtain⟨s,h1,t,h2,rfl⟩:=h;have q1:=fx h1;have q2:=jl h2;have q3:=iK e;simp only[bD,aG,aY];refine⟨by omega,fun x hx=>?_⟩;rcases hx with rfl|hx
  ·omega
  ·have:=q2.2 x hx;omega
theorem lv{e:El}{x:List UInt8×List (List UInt8)}(h:dO e=some x):x.1.length≤cW e∧x.2.length≤cW e∧∀s∈x.2,s.length≤cW e:=by
 simp only[dO,ax] at h;obtain⟨ks,h1,a,h2,b,h3,vs,h4,h5⟩:=h;obtain⟨rfl,_⟩:=bY h5;have q1:=dB h1;have q2:=dF h2;obtain⟨e3,g1,g2,g3⟩:=l0 h3;have q4:=dB g1;have q5:=jl h4;exact⟨by simp only;omega,by simp only;omega,fun s hs=>by have:=q5.2 s hs;omega⟩
theorem jA{α:Type}{g:El→Option α}:∀{l:List El} {xs:List α},ev g l=some xs→xs.length≤bD l∧∀x∈xs,∃e,g e=some x∧cW e≤bD l
 |[],xs,h=>by simp only[ev,Option.some.injEq] at h;subst h;simp
 |e::r,xs,h=>by
  simp only[ev,ax,aV] at h;obtain⟨s,h1,t,h2,rfl⟩:=h;have q2:=jA h2;have q3:=iK e;simp only[bD,aG,aY];refine⟨by omega,fun x hx=>?_⟩;rcases hx with rfl|hx
  ·exact⟨e,h1,by omega⟩
  ·obtain⟨e',g1,g2⟩:=q2.2 x hx
   exact⟨e',g1,by omega⟩
theorem rZ{e:El}{x:Md}(h:ft e=some x):x.2.1.length≤cW e∧x.2.2.length≤cW e∧∀s∈x.2.2,s.length≤cW e:=by
 simp only[ft,ax] at h;obtain⟨ks,h1,n,h2,a,h3,h5⟩:=h;obtain⟨rfl,_⟩:=bY h5;have q1:=dB h1;have q2:=gm h2;obtain⟨e3,g1,g2,g3⟩:=l0 h3;have q4:=lv g1;exact⟨by simp only;omega,by simp only;omega,fun s hs=>by have:=q4.2.2 s hs;omega⟩
theorem CY{e:El}{c:Ct}(h:AR e=some c):c.oid.length≤cW e∧c.value.length≤cW e:=by
 simp only[AR,ax] at h;obtain⟨ks,h1,o,h2,b,h3,v,h4,h5⟩:=h;obtain⟨rfl,_⟩:=bY h5;have q1:=dB h1;have q2:=dF h2;have q3:bD b.2≤bD o.2:=by
  split at h3
  ·exact jk h3
  ·cases h3;exact ah _
 have q4:v.1.1.length≤bD b.2:=by
  split at h4
  ·cases h4;simp
  ·simp only[aV] at h4
   obtain⟨s,hs,rfl⟩:=h4;exact(dF hs).1
 exact⟨by simp only;omega,by simp only;omega⟩
theorem kD{t:Int}{l:List El}{y:List UInt8×List El}(h:df t l=some y):y.1.length≤bD l∧bD y.2≤bD l:=by
 simp only[df,ax] at h;obtain⟨s,h1,h2⟩:=h
 split at h2
 ·cases h2
 ·cases h2
  obtain⟨e,g1,g2,g3⟩:=l0 h1;exact⟨Nat.le_trans (fx g1) g2,g3⟩
theorem ly:∀{n:Nat} {l:List El} {y:List (List UInt8)×List El},dT n l=some y→y.1.length≤n∧(∀s∈y.1,s.length≤bD l)∧bD y.2≤bD l
 |0,l,y,h=>by simp only[dT,Option.some.injEq] at h;subst h;simp
 |n+1,l,y,h=>by
  simp only[dT] at h
  split at h
  ·simp only[ax,aV] at h
   obtain⟨s,h1,x,h2,rfl⟩:=h;have q1:=kD h1;have q2:=ly h2;simp only[aG,aY];refine⟨by omega,fun z hz=>?_,by omega⟩;rcases hz with rfl|hz
   ·exact q1.1
   ·have:=q2.2.1 z hz;omega
  ·cases h
   simp
theorem lz{t:Int}{l:List El}{y:List UInt8×List El}(h:(if da 2 t l then df t l else some ([],l))=some y):y.1.length≤bD l∧bD y.2≤bD l:=by
 split at h
 ·exact kD h
 ·cases h
  simp
theorem nJ{l:List El}{x:List UInt8×List (List UInt8)×List UInt8}(h:fe l=some x):x.1.length≤bD l∧x.2.1.length≤bD l∧(∀s∈x.2.1,s.length≤bD l)∧x.2.2.length≤bD l:=by
 simp only[fe,ax] at h;obtain⟨i,h1,a,h2,f,h3,h5⟩:=h;obtain⟨rfl,_⟩:=bY h5;have q1:=lz h1;have q2:=ly h2;have q3:=lz h3;have q4:=iL i.2;exact⟨q1.1,by simp only;omega,fun s hs=>by have:=q2.2.1 s hs;omega,by simp only;omega⟩
def Fl.le(N:Nat)(p:Fl):Prop:=p.typ.length≤N∧p.value.length≤N∧p.init.length≤N∧p.final.length≤N∧p.any.length≤N∧(∀s∈p.any,s.length≤N)∧p.n≤N
theorem Fl.le.mono{N M:Nat}{p:Fl}(h:p.le N)(k:N≤M):p.le M:=by
 obtain⟨h1,h2,h3,h4,h5,h6,h7⟩:=h;exact⟨by omega,by omega,by omega,by omega,by omega,fun s hs=>Nat.le_trans (h6 s hs) k,by omega⟩
theorem lS{c t:Int}{k:Bool}{b:List UInt8}{ks:List El}{f:List Fl}(h:eD (.mk c t k b ks)=some f)(h2:¬(t=0∨t=1∨t=2)):∃p,f=[p]∧p.le (cW (.mk c t k b ks)):=by
 simp only[eD,h2,if_false] at h
 split at h
 ·rename_i h7
  subst h7;simp only[aV] at h;obtain⟨s,h1,rfl⟩:=h;exact⟨_,rfl,fx h1,by simp,by simp,by simp,by simp,by simp,by simp⟩
 ·split at h
  ·rename_i h4
   subst h4;simp only[ax] at h;obtain⟨r,h1,a,h3,p,h4,x,h5,h6⟩:=h;obtain⟨rfl,_⟩:=bY h6;have q1:=dB h1;have q2:=dF h3;obtain⟨e,g1,g2,g3⟩:=l0 h4;have q4:=dB g1;have q5:=nJ h5;exact⟨_,rfl,by simp only;omega,by simp,by simp only;omega,by simp only;omega,by simp only;omega,fun s hs=>by have:=q5.2.2.1 s hs;omega,by simp⟩
  ·simp only[ax] at h
   obtain⟨r,h1,a,h3,v,h5,h6⟩:=h;obtain⟨rfl,_⟩:=bY h6;have q1:=dB h1;have q2:=dF h3;have q3:=dF h5;exact⟨_,rfl,by simp only;omega,by simp only;omega,by simp,by simp,by simp,by simp,by simp⟩
mutual
theorem mF:∀(el:El) (f:List Fl),eD el=some f→f.length≤cW el∧∀p∈f,p.le (cW el)
 | .mk c t k b ks,f,h=>by
  have h0:=iK (.mk c t k b ks)
  by_cases h2:t=0∨t=1∨t=2
  ·simp only[eD,h2,if_true] at h
   split at h
   ·simp only[aV] at h
    obtain⟨g,hg,rfl⟩:=h;have q:=rm ks g hg;have q1:bD ks+2≤cW (.mk c t k b ks):=by have:=mz (b.length+bD ks);simp only[cW];omega
    have q2:=iL ks;refine⟨by simp only[aG];omega,fun p hp=>?_⟩;simp only[aY] at hp;rcases hp with rfl|hp
    ·exact⟨by simp,by simp,by simp,by simp,by simp,by simp,by simp only;omega⟩
    ·exact(q.2 p hp).mono (by omega)
   ·cases h
  ·obtain⟨p,rfl,hp⟩:=lS h h2
   exact⟨by simp only[aG,aU];omega,fun q hq=>by simp only[List.mem_singleton] at hq;subst hq;exact hp⟩
theorem rm:∀(ks:List El) (f:List Fl),en ks=some f→f.length≤bD ks∧∀p∈f,p.le (bD ks)
 |[],f,h=>by simp only[en,Option.some.injEq] at h;subst h;simp
 |e::s,f,h=>by
  simp only[en,ax,aV] at h;obtain⟨a,ha,g,hg,rfl⟩:=h;have q1:=mF e a ha;have q2:=rm s g hg;simp only[bD,xn,List.mem_append];refine⟨by omega,fun p hp=>?_⟩;rcases hp with hp|hp
  ·exact(q1.2 p hp).mono (by omega)
  ·exact(q2.2 p hp).mono (by omega)
end
theorem Di{f:List Fl}{N:Nat}(hN:N≤1000000)(h:f.length≤N∧∀p∈f,p.le N):eP f:=
 ⟨by omega,fun p hp=>by
  obtain⟨h1,h2,h3,h4,h5,h6,h7⟩:=h.2 p hp;exact⟨⟨by omega,by omega,by omega,by omega,by omega,fun s hs=>by have:=h6 s hs;omega⟩,by omega⟩⟩
theorem eC:eP []:=⟨by simp,by simp⟩
theorem dx:pD []:=⟨by simp,by simp⟩
theorem vp{id op:Int}{ks rest:List El}{m:Mg}{l:Ls}(h:oDo id op ks=some ((m,l),rest))(hN:bD ks≤1000000):LsOk m l:=by
 have key:∀{p:Prop} [Decidable p] {a b:Option ((Mg×Ls)×List El)},(a=some ((m,l),rest)→LsOk m l)→(b=some ((m,l),rest)→LsOk m l)→((if p then a else b)=some ((m,l),rest)→LsOk m l):=fun ha hb h=>by split at h;exact ha h;exact hb h
 have hadd:∀o,fh id o ks=some ((m,l),rest)→LsOk m l:=by
  intro o h;simp only[fh,ax,aV] at h;obtain⟨d,h1,x,h2,h⟩:=h;cases h;have q1:=dF h1;obtain⟨e,g1,g2,g3⟩:=l0 h2;simp only[m0,ax] at g1;obtain⟨ks',g4,g5⟩:=g1;have q2:=dB g4;have q3:=jA g5;refine⟨by simp only;omega,by simp,by simp,by simp,by simp,by simp,by simp,by simp,by simp,eC,by simp,by simp,by simp,by simp,⟨by simp only;omega,fun y hy=>?_⟩,by simp,by simp⟩;obtain⟨e',g6,g7⟩:=q3.2 y hy;have q4:=lv g6;exact⟨by omega,by omega,fun s hs=>by have:=q4.2.2 s hs;omega⟩
 revert h
 unfold oDo;refine key (fun h=>?_) (key (fun h=>?_) (key (fun h=>?_) (key (fun h=>hadd 8 h) (key (fun h=>hadd 4 h) (key (fun h=>?_) (key (fun h=>?_) (key (fun h=>?_) (key (fun h=>?_) (fun h=>?_)))))))))
 ·simp only[gU,ax] at h
  obtain⟨v,h1,d,h2,s,h3,h⟩:=h;have q1:=gm h1;have q2:=dF h2;have q3:=gL h3
  split at h
  ·cases h
   exact⟨by simp only;omega,by simp only;omega,by simp,by simp,by simp,by simp,by simp,by simp,by simp,eC,by simp,by simp,by simp,by simp,dx,by simp,by simp⟩
  ·simp only[ax] at h
   obtain⟨k,h4,t,h5,z,h6,h7⟩:=h;cases (bY h7).1;obtain⟨e,g1,g2,g3⟩:=l0 h4;have q4:=dB g1;have q5:=dF h5;exact⟨by simp only;omega,by simp only;omega,by simp,by simp,by simp,by simp,by simp,by simp,by simp,eC,by simp,by simp,by simp,by simp,dx,by simp,by simp⟩
 ·simp only[fG,ax,aV] at h
  obtain⟨d,h1,s,h2,r,h4,z,h5,t,h6,y,h7,f,h8,k,h9,a,h10,h⟩:=h;cases h;have q1:=dF h1;have q2:=gm h2;have q3:=gm h4;have q4:=gm h5;have q5:=gm h6;have q6:=jk h7;obtain⟨e,g1,g2,g3⟩:=l0 h8;have q7:=mF e _ g1;obtain⟨e2,g4,g5,g6⟩:=l0 h9;have q8:=dB g4;have q9:=jl h10;exact⟨by simp only;omega,by simp,by simp,by simp,by simp,by simp,by simp,by simp,by simp,Di (by omega) q7,by simp only;omega,fun s hs=>by have:=q9.2 s hs;omega,by simp,by simp,dx,by simp,by simp⟩
 ·simp only[fH,ax,aV] at h
  obtain⟨d,h1,x,h2,h⟩:=h;cases h;have q1:=dF h1;obtain⟨e,g1,g2,g3⟩:=l0 h2;simp only[m0,ax] at g1;obtain⟨ks',g4,g5⟩:=g1;have q2:=dB g4;have q3:=jA g5;refine⟨by simp only;omega,by simp,by simp,by simp,by simp,by simp,by simp,by simp,by simp,eC,by simp,by simp,by simp only;omega,fun y hy=>?_,dx,by simp,by simp⟩;obtain⟨e',g6,g7⟩:=q3.2 y hy;have q4:=rZ g6;exact⟨by omega,by omega,fun s hs=>by have:=q4.2.2 s hs;omega⟩
 ·simp only[gV,ax,aV] at h
  obtain⟨d,h1,n,h2,y,h5,s,h7,h⟩:=h;cases h;have q1:=dF h1;have q2:=dF h2;have q3:=jk h5;have q4:=gL h7;exact⟨by simp only;omega,by simp,by simp only;omega,by simp only;omega,by simp,by simp,by simp,by simp,by simp,eC,by simp,by simp,by simp,by simp,dx,by simp,by simp⟩
 ·simp only[eZ,ax] at h
  obtain⟨d,h1,k,h2,t,h5,v,h7,h⟩:=h;cases (bY h).1;have q1:=dF h1;obtain⟨e,g1,g2,g3⟩:=l0 h2;have q2:=dB g1;have q3:=dF h5;have q4:=dF h7;exact⟨by simp only;omega,by simp,by simp,by simp,by simp only;omega,by simp only;omega,by simp,by simp,by simp,eC,by simp,by simp,by simp,by simp,dx,by simp,by simp⟩
 ·simp only[fI,ax,aV] at h
  obtain⟨o,h1,v,h7,h⟩:=h;cases h;obtain⟨e,g1,g2,g3⟩:=l0 h1;have q2:=fx g1;have q3:=gL h7;exact⟨by simp,by simp,by simp,by simp,by simp,by simp only;omega,by simp only;omega,by simp,by simp,eC,by simp,by simp,by simp,by simp,dx,by simp,by simp⟩
 ·simp only[dI,ax] at h
  obtain⟨c,h1,a,h2,t,h5,h⟩:=h;have q1:=gm h1;have q2:=dF h2;have q3:=dF h5
  split at h
  ·simp only[ax] at h
   obtain⟨o,h7,h⟩:=h;have q4:=gL h7
   split at h
   ·cases h
   ·simp only[aV] at h
    obtain⟨v,h9,h⟩:=h;have q5:=gL h9;cases h;exact⟨by simp,by simp,by simp,by simp,by simp,by simp only;omega,by simp only;omega,by simp only;omega,by simp only;omega,eC,by simp,by simp,by simp,by simp,dx,by simp,by simp⟩
  ·cases h
   exact⟨by simp,by simp,by simp,by simp,by simp,by simp,by simp,by simp only;omega,by simp only;omega,eC,by simp,by simp,by simp,by simp,dx,by simp,by simp⟩
 ·cases h
theorem vq{id:Int}{e:El}{x:Mg×Ls}(h:oOp id e=some x)(hN:cW e≤1000000):LsOk x.1 x.2:=by
 unfold oOp at h
 split at h
 ·simp only[ax] at h
  obtain⟨s,h1,h⟩:=h
  split at h
  ·cases h
   exact⟨by simp,by simp,by simp,by simp,by simp,by simp,by simp,by simp,by simp,eC,by simp,by simp,by simp,by simp,dx,by simp,by simp⟩
  ·cases h
 ·split at h
  ·simp only[aV] at h
   obtain⟨s,h1,h⟩:=h;have q:=fx h1;cases h;exact⟨by simp only;omega,by simp,by simp,by simp,by simp,by simp,by simp,by simp,by simp,eC,by simp,by simp,by simp,by simp,dx,by simp,by simp⟩
  ·split at h
   ·simp only[aV] at h
    obtain⟨s,h1,h⟩:=h;cases h;exact⟨by simp,by simp,by simp,by simp,by simp,by simp,by simp,by simp,by simp,eC,by simp,by simp,by simp,by simp,dx,by simp,by simp⟩
   ·simp only[ax] at h
    obtain⟨r,h1,y,h3,h4⟩:=h;have q:=dB h1;obtain⟨e1,_⟩:=bY h4;obtain⟨y1,y2⟩:=y;simp only at e1;subst e1;exact vp h3 (by omega)
theorem kQ{e:El}{m:Mg}{l:Ls}(h:dU e=some (m,l))(hN:cW e≤1000000):LsOk m l:=by
 simp only[dU,ax] at h;obtain⟨r,h1,n,h2,x,h3,h⟩:=h;have q1:=dB h1;have q2:=gm h2;obtain⟨e3,g1,g2,g3⟩:=l0 h3;have q3:=vq g1 (by omega)
 split at h
 ·simp only[ax] at h
  obtain⟨c,h4,h5⟩:=h;cases (bY h5).1;obtain⟨e4,g4,g5,g6⟩:=l0 h4;simp only[ax] at g4;obtain⟨k,g7,g8⟩:=g4;have q4:=dB g7;have q5:=jA g8;exact{q3 with
   ctl:=by simp only;omega
   ctls:=fun y hy=>by
    obtain⟨e',g9,g10⟩:=q5.2 y hy;have q6:=CY g9;exact⟨by omega,by omega⟩}
 ·obtain⟨e1,_⟩:=bY h
  rw[e1] at q3;exact q3
theorem LsOk.pl{m:Mg}{l:Ls}(h:LsOk m.pl l):LsOk m l:=⟨h.dn,h.secret,h.newRdn,h.newSup,h.typ,h.value,h.oid,h.matched,h.text,h.filt,h.sel,h.sels,h.mods,h.modss,h.attrs,h.ctl,h.ctls⟩
theorem sd(m:Mg):(bo m.pl).pl=(bo m).pl:=by
 have key:∀(p:Prop) [Decidable p] (a b c d:Mg),a.pl=c.pl→b.pl=d.pl→(if p then a else b).pl=(if p then c else d).pl:=fun p _ a b c d h1 h2=>by split<;>assumption
 unfold bo
 repeat' (first|apply key|rfl)
theorem fM(m:Mg)(l:Ls):bH m.pl l=bH m l:=by
 have h:wJ (bo m.pl) m.pl=wJ (bo m) m:=by
  have:=sd m;have e1:∀a b:Mg,wJ a b=wJ a.pl b.pl:=fun _ _=>rfl
  rw[e1,this,←e1 (bo m) m.pl]
  rfl
 unfold bH;rw[h]
 rfl
theorem qM(b:List UInt8)(el:El)(x:UInt8)(r:List UInt8)(h:bP 20 b=.ok (el,x::r))(hl:b.length≤1000000)(w:World):
  Calls Tryz.prog 96 #[.string ⟨b.toArray⟩] w fun e w'=>e=.returned (.tuple #[.agg Ze,.int .i64 25])∧Bw w w':=by
 have hmf:∀(fn:Fn) (first cap:Array Value) (w:World),(Instr.makeFunc fn first cap).run Tryz.prog w=.ok (.func fn first cap) w:=fun _ _ _ _=>rfl
 obtain⟨PR,hPR⟩:∃PR:Ending→World→Prop,PR=fun e w'=>e=.returned (.tuple #[.agg Ze,.int .i64 25])∧Bw w w':=⟨_,rfl⟩
 rw[←hPR];have HP:=hid hPR;clear hPR;have bA:Bw w ((w.alloc (.cells Ze 40)).alloc (.cells #[.int .i64 0] 33)):=((aA _ _).alloc (ah _) _).alloc (by simp) _;have rA:Hc ((w.alloc (.cells Ze 40)).alloc (.cells #[.int .i64 0] 33)) w.heap.size Ze 40:=(alloc_old _ _ _ (by simp)).trans (fb _ _ _ rfl);have nA:Hc ((w.alloc (.cells Ze 40)).alloc (.cells #[.int .i64 0] 33)) (w.heap.size+1) #[.int .i64 0] 33:=fb _ _ _ (by simp);have kr:∀w,Calls Tryz.prog 114 #[.string ⟨b.toArray⟩,.int .i64 0] w fun e w'=>(∃u,e=.returned (.tuple #[.agg (elA el u),.string ⟨(x::r).toArray⟩])∧bf (fun g=>w.heap.size≤g) w' u el.kids)∧Bw w w':=fun w=>by
  have h9:=gn 20 (ah _) b w hl;unfold RdP RdQ at h9;rw[h] at h9;exact h9
 clear h hl
 go_enter_defers Tryz.func96,Tryz.ntmps96
 go_wp2_with fail
 generalize(w.alloc (.cells Ze 40)).alloc (.cells #[.int .i64 0] 33)=wA at bA rA nA⊢;refine ag (show Calls _ _ _ _ _ from kr wA) ?_;rintro e w1 ⟨⟨u,rfl,hu⟩,hb1⟩;obtain⟨a2,c2,hf2⟩:=hu.shape;subst hf2;have r1:=bkk hb1 rA;have n1:=bkk hb1 nA;have b1:=btt bA hb1;clear kr hb1 bA rA;have m1:=alb w1 (Er el a2 c2) 40;have hltn:=(gl n1);have r2:=bkk m1 r1;have n2:=(m1.block _ hltn).trans n1;have b2:=btt b1 m1;have hA2:w.heap.size+2≤wA.heap.size:=(gl nA);have r3:=setRow_heap (w1.alloc (.cells (Er el a2 c2) 40)) w.heap.size _ Ze _ _ r2;have n3:=(setRow_other (w1.alloc (.cells (Er el a2 c2) 40)) w.heap.size (w.heap.size+1) Ze (by omega)).trans n2;have b3:=xo b2 (g:=w.heap.size) (ah _) Ze;obtain⟨HR,HN,HB⟩:=Ch r3 n3 b3;clear hu r1 n1 b1 m1 n2 b2 r3 n3 b3 nA;unfold elA
 go_wp2_with (refine stE (.tmp 2) (.tmp 14) Ze r2 rfl (by simp[Value.oneCell']) ?_;clear r2;generalize(w1.alloc (.cells (Er el a2 c2) 40)).setRow w.heap.size Ze=w3 at HR HN HB⊢;have q3:=cval HN.out 0 (.int .i64 0);have z3:=aj HN.out 0)
 have f1:Hc (w3.setCell ⟨w.heap.size+1,0,none⟩ (.int .i64 25)) w.heap.size Ze 40:=(aX w3 ⟨w.heap.size+1,0,none⟩ (.int .i64 25) w.heap.size (by show w.heap.size≠w.heap.size+1;omega)).trans HR.out;have f2:(w3.setCell ⟨w.heap.size+1,0,none⟩ (.int .i64 25)).cell? ⟨w.heap.size+1,0,none⟩=some (.int .i64 25):=(aq (show Hc (w3.setCell ⟨w.heap.size+1,0,none⟩ (.int .i64 25)) (w.heap.size+1) #[.int .i64 25] 33 from cq (i:=0) (u:=.int .i64 25) HN.out) 0).trans rfl;have bF:=HB.out.setCell (p:=⟨w.heap.size+1,0,none⟩) (by show w.heap.size≤w.heap.size+1;omega) (.int .i64 25);clear HR HN HB;generalize w3.setCell ⟨w.heap.size+1,0,none⟩ (.int .i64 25)=wF at f1 f2 bF⊢;refine leaves_cons (f:=113) (args:=#[.pointer (some ⟨w.heap.size,0,none⟩),.pointer (some ⟨w.heap.size+1,0,none⟩)]) (by simp) (by simp[go_sem]) ?_;refine(AO w.heap.size (w.heap.size+1) wF).mono ?_;rintro e u' w3 ⟨rfl,rfl,hw3⟩;rw[hw3];have c0:=cval f1 0 (.int .i64 0);have c1:=cval f1 1 (.int .i64 0);have c2':=cval f1 2 (.bool false);have c3:=cval f1 3 Es;have c4:=cval f1 4 (.slice none 0 0)
 simp[Leaves,settle,results,Tryz.results96,go_sem,c0,c1,c2',c3,c4,f2]
 rw[HP.out];exact⟨rfl,bF⟩
theorem kE(el:El)(u:Value)(A M:Nat)(w:World)(hA:Hc w A (elA el u) 40)(hM:Hc w M (Mg.row {}) 32)(h:bf (fun _=>True) w u el.kids)(hs:SmE el)(hcn:ed el≤1000000000):
  Calls Tryz.prog 98 #[.pointer (some ⟨A,0,none⟩),.pointer (some ⟨M,0,none⟩)] w fun e w'=>Out (dU el) (fun y v w'=>v=.tuple #[]∧∃m:Mg,Hc w' M m.row 32∧m.pl=y.1∧LsL w.heap.size w' m y.2) e w'∧Lft [M] w.heap.size w w':=by
 have kt:=rW el u w h hs hcn;obtain⟨O,hO⟩:=nmm (dU el);rw[hO] at kt⊢;have hMl:=(gl hM);clear hO h hs hcn
 go_enter Tryz.func98,Tryz.ntmps98
 go_wp2_with (refine ldE (.tmp 0) hA rfl ?_)
 refine ag kt ?_;rintro e w1 ⟨ho,hb1⟩;have m1:=bk hb1 hM;clear kt hA hM;cases O with
 |none=>
  have he:e=Pn:=ho;subst he;exact⟨rfl,rfl,.of hb1⟩
 |some y=>
  obtain⟨v,rfl,m,rfl,hpl,hls⟩:=ho;obtain⟨RW,hRW⟩:=nmm m.row;have hR1:RW.size=28:=by rw[←hRW];rfl
  have hR2:RW.all (·.oneCell')=true:=by rw[←hRW];exact Mg.one _ (LsL.one hls)
  have m2:=setRow_heap w1 M _ RW _ _ m1;have lF:Lft [M] w.heap.size w (w1.setRow M RW):=(Lft.of hb1).row _ _ (by simp);have hl2:LsL w.heap.size (w1.setRow M RW) m y.2:=hls.keep fun g hg hl=>setRow_other _ _ g RW (by omega)
  rw[hRW];obtain⟨HR1,HR2,HRW,M2⟩:=Ci hR1 hR2 hRW m2;clear hR1 hR2 hRW hb1 hls m2
  go_wp2_with (refine stM (.tmp 1) (.tmp 3) RW m1 HR1.out HR2.out ?_)
  go_end0
  exact⟨⟨_,rfl,rfl,m,by rw[HRW.out];exact M2.out,hpl,hl2⟩,lF⟩
theorem mG(po:Nat)(y:Value)(w:World)(h3:w.cell? ⟨po,0,none⟩=some y)(h4:w.frozen? ⟨po,0,none⟩=false):
  CallsD Tryz.prog 115 #[.pointer (some ⟨po,0,none⟩)] (.panicking ({v:=fu 70,recovered:=false}::[])) w fun e u' w'=>
   e=.returned (.tuple #[])∧u'=.panicking ({v:=fu 70,recovered:=true}::[])∧w'=w.setCell ⟨po,0,none⟩ (Bf):=by
 have hta:∀w,(Instr.typeAssert (.iface 33 (.int .i64 70)) 20 33 true).run Tryz.prog w=.ok (.tuple #[.int .i64 70,.bool true]) w:=fun w=>by kernel_rfl
 refine callsD_of_wpS Tryz.func115 rfl fun c₀ cs hu=>?_
 apply wpS_seq;apply wpS_region
 simp[wpOpsS,go_sem,recoverD,hu,Tryz.ntmps115,Exit.thenS]
 unfold fu;refine wpS_of_wp ?_;simp only[Array.replicate,List.replicate,List.setIfInBounds_toArray,List.set]
 go_wp2_with fail
 refine⟨rfl,_,rfl,_,results_none rfl _ _ _,rfl,rfl,rfl⟩
theorem rx(el:El)(u:Value)(A M:Nat)(w:World)(hA:Hc w A (elA el u) 40)(hM:Hc w M (Mg.row {}) 32)(h:bf (fun _=>True) w u el.kids)(hs:SmE el)(hcn:ed el≤1000000000)(y:Mg×Ls)(hT:dU el=some y):
  Calls Tryz.prog 97 #[.func (.func 98) #[] #[.pointer (some ⟨A,0,none⟩),.pointer (some ⟨M,0,none⟩)]] w fun e w'=>(e=.returned (.bool true)∧∃m:Mg,Hc w' M m.row 32∧m.pl=y.1∧LsL w.heap.size w' m y.2)∧Lft [M] w.heap.size w w':=by
 have hmf:∀(fn:Fn) (first cap:Array Value) (w:World),(Instr.makeFunc fn first cap).run Tryz.prog w=.ok (.func fn first cap) w:=fun _ _ _ _=>rfl
 obtain⟨PR,hPR⟩:∃PR:Ending→World→Prop,PR=fun e w'=>(e=.returned (.bool true)∧∃m:Mg,Hc w' M m.row 32∧m.pl=y.1∧LsL w.heap.size w' m y.2)∧Lft [M] w.heap.size w w':=⟨_,rfl⟩
 rw[←hPR];have HP:=hid hPR;clear hPR;have hMl:=(gl hM);have bA:=alb w #[Bf] 4;have oA:=alz w #[Bf] 4;have kr:=kE el u A M (w.alloc (.cells #[Bf] 4)) (bk bA hA) (bk bA hM) (h.below bA) hs hcn;rw[hT] at kr;clear hA hM h hs hcn hT
 go_enter_defers Tryz.func97,Tryz.ntmps97
 go_wp2_with fail
 generalize w.alloc (.cells #[Bf] 4)=wA at bA oA kr⊢;refine ag kr ?_;rintro e w1 ⟨ho,hb1⟩;have hsA:=bA.size;have hoA:=(gl oA);have o1:=hb1.at oA (by simp;omega);have b1:Lft [M] w.heap.size w w1:=(Lft.of bA).trans (hb1.mono (ah _) fun _ _ h=>h) (ah _);obtain⟨v,rfl,rfl,m,m1,hpl,hls⟩:=ho;have q1:=cval o1 0 Bf;have z1:=aj o1 0;have t2:Lft [w.heap.size] w1.heap.size w1 (w1.setCell ⟨w.heap.size,0,none⟩ (.bool true)):=(Lft.refl w1).set _ _ _ (by simp);obtain⟨M2,O2,B2,L2⟩:=Ci (t2.at m1 (by simp;omega)) ((cval (show Hc (w1.setCell ⟨w.heap.size,0,none⟩ (.bool true)) w.heap.size #[.bool true] 4 from cq (i:=0) (u:=.bool true) o1) 0 (.bool true))) (show Lft [M] w.heap.size w (w1.setCell ⟨w.heap.size,0,none⟩ (.bool true)) from⟨b1.os,b1.tape,b1.output,by simpa using b1.size,fun j hj hne=>(t2.block j (by have:=b1.size;omega) (by simp;omega)).trans (b1.block j hj hne)⟩) ((hls.keep (w':=w1.setCell ⟨w.heap.size,0,none⟩ (.bool true)) fun g hg hl=>t2.old hl (by simp;omega)).mono (B':=w.heap.size) (by omega));clear kr oA hb1 o1 b1 m1 t2 hls
 go_wp2_with fail
 have o2:=O2.out;clear q1 z1 O2;generalize w1.setCell ⟨w.heap.size,0,none⟩ (.bool true)=wF at o2 M2 B2 L2⊢;refine leaves_cons (f:=115) (args:=#[.pointer (some ⟨w.heap.size,0,none⟩)]) (by simp) (by simp[go_sem]) ?_;refine(pA w.heap.size wF).mono ?_;rintro e u' w3 ⟨rfl,rfl,hw3⟩;rw[hw3]
 simp[Leaves,settle,results,Tryz.results97,go_sem,o2]
 rw[HP.out];exact⟨⟨rfl,m,M2.out,hpl,L2.out⟩,B2.out⟩
theorem qN(el:El)(u:Value)(A M:Nat)(w:World)(hA:Hc w A (elA el u) 40)(hM:Hc w M (Mg.row {}) 32)(h:bf (fun _=>True) w u el.kids)(hs:SmE el)(hcn:ed el≤1000000000)(hT:dU el=none):
  Calls Tryz.prog 97 #[.func (.func 98) #[] #[.pointer (some ⟨A,0,none⟩),.pointer (some ⟨M,0,none⟩)]] w fun e w'=>e=.returned (Bf)∧Lft [M] w.heap.size w w':=by
 have hmf:∀(fn:Fn) (first cap:Array Value) (w:World),(Instr.makeFunc fn first cap).run Tryz.prog w=.ok (.func fn first cap) w:=fun _ _ _ _=>rfl
 obtain⟨PR,hPR⟩:∃PR:Ending→World→Prop,PR=fun e w'=>e=.returned (Bf)∧Lft [M] w.heap.size w w':=⟨_,rfl⟩
 rw[←hPR];have HP:=hid hPR;clear hPR;have hMl:=(gl hM);have bA:=alb w #[Bf] 4;have oA:=alz w #[Bf] 4;have kr:=kE el u A M (w.alloc (.cells #[Bf] 4)) (bk bA hA) (bk bA hM) (h.below bA) hs hcn;rw[hT] at kr;clear hA hM h hs hcn hT
 go_enter_defers Tryz.func97,Tryz.ntmps97
 go_wp2_with fail
 generalize w.alloc (.cells #[Bf] 4)=wA at bA oA kr⊢;refine ag kr ?_;rintro e w1 ⟨ho,hb1⟩;have hsA:=bA.size;have hoA:=(gl oA);have o1:=hb1.at oA (by simp;omega);have b1:Lft [M] w.heap.size w w1:=(Lft.of bA).trans (hb1.mono (ah _) fun _ _ h=>h) (ah _);have he:e=Pn:=ho;subst he;have q1:=cval o1 0 Bf;have z1:=aj o1 0;have t2:Lft [w.heap.size] w1.heap.size w1 (w1.setCell ⟨w.heap.size,0,none⟩ (Bf)):=(Lft.refl w1).set _ _ _ (by simp);have o2:(w1.setCell ⟨w.heap.size,0,none⟩ (Bf)).cell? ⟨w.heap.size,0,none⟩=some (Bf):=(aq (show Hc (w1.setCell ⟨w.heap.size,0,none⟩ (Bf)) w.heap.size #[Bf] 4 from cq (i:=0) (u:=Bf) o1) 0).trans rfl;have B2:=hid (show Lft [M] w.heap.size w (w1.setCell ⟨w.heap.size,0,none⟩ (Bf)) from⟨b1.os,b1.tape,b1.output,by simpa using b1.size,fun j hj hne=>(t2.block j (by have:=b1.size;omega) (by simp;omega)).trans (b1.block j hj hne)⟩);clear kr oA hb1 b1 t2 o1
 go_wp2
 refine leaves_cons (f:=115) (args:=#[.pointer (some ⟨w.heap.size,0,none⟩)]) (by simp) (by simp[go_sem]) ?_;refine(mG w.heap.size (Bf) w1 q1 z1).mono ?_;rintro e u' w2 ⟨rfl,rfl,rfl⟩;generalize w1.setCell ⟨w.heap.size,0,none⟩ (Bf)=wF at o2 B2⊢
 simp[Leaves,settle,results,Tryz.results97,go_sem,o2]
 rw[HP.out];exact⟨rfl,B2.out⟩
end Go.Proofs.YtfhghdcbofbceaaGreatDoor
