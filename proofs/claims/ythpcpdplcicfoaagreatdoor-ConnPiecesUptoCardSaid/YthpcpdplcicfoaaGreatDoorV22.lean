/- CoB, CoC, CoT, CoD, CoE, CoF. -/
import Derived.Lib.Builder
import Derived.Lib.UnsafeStr
import Derived.Lib.AppendStr
import Derived.Deep.MidRow
import Derived.Test.YthpcpdplcicfoaaGreatDoorV21
namespace Go.Proofs.YthpcpdplcicfoaaGreatDoor
open Go.RowKit Go.Lib
set_option maxRecDepth 100000
set_option maxHeartbeats 16000000
theorem Tryz.cBuilder:(Tryz.prog.info? 79).map (fun i=>decide (i.size≠0))=some true:=by kernel_rfl
theorem Tryz.cLies:liesAt Tryz.prog Tryz.prog.depth 81 (9/Tryz.prog.cellsOf 81) 4 79 1=true:=by kernel_rfl
theorem jF{P:Program}(w:World)(t u ty e:TypeId)(i:TypeInfo)(ht:P.underlying t=some (.slice e))(hu:P.underlying u=some .string)(hi:P.info? e=some i)(hz:i.zero=some (.int .u8 0))(hsize:i.size=1)(hby:i.bytes=1)
  (v:Value) (n:Nat) (xs:List Value) (hown:w.ownsRow 0 e 1 v n xs) (s:ByteArray) (h63:n+s.size≤maxLen) (hbytes:n+s.size≤140737488355328):
  ∃v' w',(Builtin.append_ #[t,u] ty #[v,.string s]).run P w=.ok v' w'∧w'.ownsRow 0 e 1 v' (n+s.size) (xs++strCells s)∧w.grownBy w' v.ownBlock∧∀g,v'.ownBlock=some g→v.ownBlock=some g∨g=w.heap.size:=by
 obtain⟨v',w',hr,h2,h3,h4⟩:=Lib.run_append_own_string (P:=P) w 0 t u ty e i ht hu hi hz hsize hby v n xs hown s h63 hbytes (Nat.zero_le _);have hsmall:n+s.size≤9223372036854775807:=by simp only[maxLen] at h63;omega
 have hxl:xs.length=n:=by simpa using hown.1
 refine⟨v',w',hr,h2,h3,fun g hg=>?_⟩;rcases hown.2 with⟨rfl,rfl⟩|⟨g0,cap,cur,rfl,hbg,hg0,hnc,hcm,hcs,htake⟩
 ·by_cases hm:s.size=0
  ·rw[h4.2 ⟨rfl,hm⟩] at hg
   cases hg
  ·have hr2:=run_append_nil_string (P:=P) w t u ty e i (.int .u8 0) ht hu hi hz s (by omega) (by omega) (by rw[hby];omega)
   rw[hr] at hr2
   injection hr2 with q1 q2
   rw[q1] at hg;exact .inr (by simpa[Value.ownBlock,eq_comm] using hg)
 ·by_cases hroom:n+s.size≤cap
  ·have hcs':cur.size=cap:=by simpa using hcs
   have hr2:=Lib.run_append_room_string (P:=P) w t u ty e i ht hu hi hsize g0 n cap cur hg0 s hroom (by omega);rw[hr] at hr2
   injection hr2 with q1 q2
   rw[q1] at hg;exact .inl hg
  ·have holds:∀j u,xs[j]?=some u→w.cell? ((⟨g0,0,none⟩:Addr).add j)=some u:=hown.cells (g:=g0) rfl
   have hr2:=Lib.run_append_grow_string (P:=P) w t u ty e i (.int .u8 0) ht hu hi hz ⟨g0,0,none⟩ n cap xs (by rw[hsize];simpa using hxl) holds s (by omega) (by omega) (by rw[hby];exact growslice_fits (by omega) (by omega));rw[hr] at hr2
   injection hr2 with q1 q2
   rw[q1] at hg;exact .inr (by simpa[Value.ownBlock,eq_comm] using hg)
theorem Dj(b:Nat)(w:World)(h0:w.cell? ⟨b,4,none⟩=some (.pointer (some ⟨b,4,none⟩))):
  Calls Tryz.prog 142 #[.pointer (some ⟨b,4,none⟩)] w fun e w'=>e=.returned (.tuple #[])∧w'=w:=by
 obtain⟨j,hj,_⟩:=aV.1 Tryz.cBuilder
 go_enter Tryz.func142,Tryz.ntmps142
 go_wp2
 rw[Lib.run_neq_ptr_same w _ Tryz.underlying76 hj]
 go_wp2
 go_end0
 exact⟨rfl,rfl⟩
theorem CZ(b:Nat)(w:World)(h0:w.cell? ⟨b,4,none⟩=some (.pointer none))(hsh:w.shape? b=some (81,9))(hfz:w.frozen? ⟨b,4,none⟩=false):
  Calls Tryz.prog 142 #[.pointer (some ⟨b,4,none⟩)] w fun e w'=>e=.returned (.tuple #[])∧w'=w.setCell ⟨b,4,none⟩ (.pointer (some ⟨b,4,none⟩)):=by
 obtain⟨j,hj,hjs⟩:=aV.1 Tryz.cBuilder;have hjs2:=of_decide_eq_true hjs;have r1:=Lib.run_to_unsafe (P:=Tryz.prog) w ⟨b,4,none⟩ Tryz.underlying76 Tryz.underlying185 hj hjs2 hsh (show 4<9 by decide);have r2:=Lib.run_from_unsafe (P:=Tryz.prog) w ⟨b,4,none⟩ Tryz.underlying185 Tryz.underlying76 hj hsh Tryz.cLies;clear hjs hjs2
 go_enter Tryz.func142,Tryz.ntmps142
 go_wp2
 rw[run_callFunc_extern Tryz.func157 (by kernel_rfl) (by kernel_rfl) (by kernel_rfl) (e:=Extern.AbiNoEscape.same) (by kernel_rfl)];rw[Lib.run_noEscape];simp only[Result.andThen];rw[Oper.upon_value]
 go_wp2
 go_end0
 exact⟨rfl,rfl⟩
theorem Dk(P X:Nat→Prop)(C:Nat)(s:Cs)(wv iv cv bp bv:Value)(Ms:List Mg)(w:World)(h:CnO P X C s wv iv cv bp bv Ms w):
  Calls Tryz.prog 142 #[.pointer (some ⟨C,4,none⟩)] w fun e w'=>e=.returned (.tuple #[])∧CnO P X C s wv iv cv (.pointer (some ⟨C,4,none⟩)) bv Ms w'∧Kb X w w'∧w'.heap.size=w.heap.size:=by
 rcases h.b.bq with hb|hb
 ·subst hb
  refine(CZ C w ((aq h.row 4).trans rfl) (by simp[World.shape?,h.row,lC]) (aj h.row 4)).mono ?_;rintro e w' ⟨rfl,rfl⟩;have k:=h.b.put h.row 4 (.pointer (some ⟨C,4,none⟩));exact⟨rfl,⟨cq (i:=4) (u:=.pointer (some ⟨C,4,none⟩)) h.row,k.own,k.msg,k.im,k.nd,k.cu,.inr rfl,k.bw,k.xw,k.xi,k.xb,k.xC,k.xP,k.xl⟩,(Kb.refl X w).set (.inl h.b.xC) _,by simp[World.setCell]⟩
 ·subst hb
  refine(Dj C w ((aq h.row 4).trans rfl)).mono ?_;rintro e w' ⟨rfl,rfl⟩;exact⟨rfl,h,Kb.refl _ _,rfl⟩
theorem iF{P:Program}{w:World}{ops:Array Oper}{rest:List Oper}{o:Oper}{a:Act}{Q:Exit→Act→World→Prop}(hgd:o.guard=none)(sl x:Operand)(t u:TypeId)
  (ho:o.op=.call {callee:=.builtin .append,args:=#[sl,x],argTypes:=#[t,u]})
  (e:TypeId) (i:TypeInfo) (ht:P.underlying t=some (.slice e)) (hu:P.underlying u=some .string) (hi:P.info? e=some i) (hz:i.zero=some (.int .u8 0)) (hsize:i.size=1) (hby:i.bytes=1)
  (v:Value) (n:Nat) (xs:List Value) (hs:a.eval sl=v) (hown:w.ownsRow 0 e 1 v n xs) (s:ByteArray) (hx:a.eval x=.string s) (h63:n+s.size≤maxLen) (hbytes:n+s.size≤140737488355328)
  (h:∀v' w',w'.ownsRow 0 e 1 v' (n+s.size) (xs++strCells s)→w.grownBy w' v.ownBlock→(∀g,v'.ownBlock=some g→v.ownBlock=some g∨g=w.heap.size)→wpList P ops Q rest (a.put o.dst v') w'):wpList P ops Q (o::rest) a w:=by
 refine aB hgd fun K hK=>?_
 obtain⟨v',w',hr,h2,h3,h4⟩:=jF (P:=P) w t u o.type e i ht hu hi hz hsize hby v n xs hown s h63 hbytes;unfold Oper.wp execOp;simp only[ho,resolve,invoke,builtin,Sem.run_bind,Sem.run_pure,Result.andThen_ok,List.map_toArray,List.map_cons,List.map_nil,hs,hx,hr];exact hK _ _ (h v' w' h2 h3 h4)
theorem px(P X:Nat→Prop)(C:Nat)(s:Cs)(wv iv cv bp bv:Value)(Ms:List Mg)(t:List UInt8)(w:World)(h:CnO P X C s wv iv cv bp bv Ms w)(hlen:s.out.length≤1099511627776)(hs:t.length≤8796093022208):
  Calls Tryz.prog 85 #[.pointer (some ⟨C,4,none⟩),.string ⟨t.toArray⟩] w fun e w'=>e=.returned (.tuple #[.int .i64 t.length,.nilIface])∧em P X C w {s with out:=s.out++t} w':=by
 obtain⟨i0,hi,hz0,hz1,hz2⟩:=info_parts Tryz.infoByte;have k1:=Dk P X C s wv iv cv bp bv Ms w h;generalize hPR:(em P X C w {s with out:=s.out++t}:World→Prop)=PR;have HPR:=hid hPR;clear h hPR;have hs2:(⟨t.toArray⟩:ByteArray).size=t.length:=Lib.size_mk _
 go_enter Tryz.func85,Tryz.ntmps85
 go_wp2_with (go_at_call 142;refine k1.mono ?_)
 rintro e w1 ⟨rfl,h1,kb1,hs1⟩;have c4:=cval h1.row 4 (.pointer (some ⟨C,4,none⟩));have c5:=cval h1.row 5 bv;have hbv:=h1.b.bw;obtain⟨H1,KB1,HS1⟩:=Ch h1 kb1 hs1;clear h1 kb1 hs1 k1
 go_wp2_with (at_builtin;refine iF rfl _ _ 77 9 rfl 5 i0 Tryz.underlying77 Tryz.underlying9 hi hz0 hz1 hz2 _ _ _ rfl hbv ⟨t.toArray⟩ rfl ?c3 ?c4 ?_)
 case c3=>unfold maxLen;omega
 case c4=>omega
 intro v' w2 hown' hgrow hat;obtain⟨ao,n',cap,rfl⟩:∃ao n' cap,v'=.slice ao n' cap:=by
  rcases hown'.2 with⟨hv,_⟩|⟨g,cap,cur,hv,_⟩
  ·exact⟨_,_,_,hv⟩
  ·exact⟨_,_,_,hv⟩
 obtain⟨V,hV⟩:=nmm (Value.slice ao n' cap);have h1:=H1.out;have hbC:bv.ownBlock≠some C:=fun q=>h1.b.neC h1.row (.inr (.inl q)) rfl
 have hCl:=(gl h1.row);have hb2:w2.heap[C]?=some (.cells (lC s.inn wv iv cv (.pointer (some ⟨C,4,none⟩)) bv s.cl) 81 (0,0)):=(hgrow.block C hCl (fun e=>hbC e.symm)).trans h1.row;have d4:=cval hb2 4 (.pointer (some ⟨C,4,none⟩));have d5:=cval hb2 5 bv;have f5:w2.frozen? ⟨C,5,none⟩=false:=aj hb2 5;have FIN:PR (w2.setCell ⟨C,5,none⟩ V):=by
  rw[hV,mY,←kU] at hown';simp only at hown';have hown':w2.ownsRow 0 5 1 V (s.out.length+t.length) (bV (s.out++t)):=by simpa using hown'
  rw[hV] at hat;rw[←HPR.out];have hnew:∀g,V.ownBlock=some g→bv.ownBlock=some g∨w1.heap.size≤g:=fun g hg=>(hat g hg).imp id (by rintro rfl;exact ah _)
  have hk:∀g,g≠C→¬bv.ownBlock=some g→P g→g<w1.heap.size→(w2.setCell ⟨C,5,none⟩ V).heap[g]?=w1.heap[g]?∧(P g∨V.ownBlock=some g)∧(X g↔(X g∨V.ownBlock=some g)):=fun g hg hnb hp hl=>
   ⟨(aX w2 ⟨C,5,none⟩ V g hg).trans (hgrow.block g hl (fun e=>hnb e.symm)),.inl hp,⟨.inl,fun q=>by
    rcases q with q|q
    ·exact q
    ·rcases hnew g q with q|q
     ·exact absurd q hnb
     ·omega⟩⟩
  have K:=h1.b.parts (P':=fun g=>P g∨V.ownBlock=some g) (X':=fun g=>X g∨V.ownBlock=some g) (Y:=fun g=>bv.ownBlock=some g) (w':=w2.setCell ⟨C,5,none⟩ V) h1.row hk h1.b.xb;have k1:=K.own fun g hg q=>h1.b.wb hg q
  have k2:=K.im fun g hg q=>h1.b.bi q hg
  have kb2:Kb X w (w2.setCell ⟨C,5,none⟩ V):=((KB1.out.grown hgrow fun g hg=>.inl (h1.b.xb g hg)).set (.inl h1.b.xC) V);refine⟨_,_,⟨wv,iv,cv,.pointer (some ⟨C,4,none⟩),V,Ms,cq (i:=5) (u:=V) hb2,k1.1,K.msg,k2.1,h1.b.nd,K.cu,.inr rfl,?_,k1.2,k2.2,fun g hg=>.inr hg,.inl h1.b.xC,(fun g hg=>hg.imp (h1.b.xP g) id),fun g hg=>?_⟩,kb2,fun j hj q=>?_,fun j hj q=>?_⟩
  ·refine gM (by rw[bd];exact hown') fun g hg=>aX w2 ⟨C,5,none⟩ V g ?_
   intro e;have e':g=C:=e;rw[e'] at hg;rcases hnew C hg with q|q
   ·exact hbC q
   ·omega
  ·have hsz:w1.heap.size≤(w2.setCell ⟨C,5,none⟩ V).heap.size:=by simpa[World.setCell] using hgrow.size
   rcases hg with q|q
   ·exact Nat.lt_of_lt_of_le (h1.b.xl g q) hsz
   ·have:=(hown'.lt g q).2
    simpa[World.setCell] using this
  ·rcases q with q|q
   ·exact q
   ·rcases hnew j q with q|q
    ·exact h1.b.xb j q
    ·have:=HS1.out;omega
  ·rcases q with q|q
   ·exact q
   ·rcases hnew j q with q|q
    ·exact h1.b.xP j (h1.b.xb j q)
    ·have:=HS1.out;omega
 have HF:=hid FIN;clear FIN c4 c5 hgrow hown' hat hbv h1 hbC hCl hb2 H1 KB1 HS1 HPR;subst hV
 go_wp2
 go_ret2
 exact⟨rfl,HF.out⟩
theorem dM{C:Nat}{inn:List UInt8}{wv iv cv bp bv:Value}{cl:Bool}{W:World}(h:W.heap[C]?=some (.cells (lC inn wv iv cv bp bv cl) 81 (0,0))):
  W.cell? ⟨C,0,none⟩=some (.string ⟨inn.toArray⟩)∧W.cell? ⟨C,1,none⟩=some wv∧W.cell? ⟨C,2,none⟩=some iv∧W.cell? ⟨C,3,none⟩=some cv∧W.cell? ⟨C,8,none⟩=some (.bool cl):=
 ⟨(aq h 0).trans rfl,(aq h 1).trans rfl,(aq h 2).trans rfl,(aq h 3).trans rfl,(aq h 8).trans rfl⟩
def Cs.shut(s:Cs):Cs:={out:=s.out,cl:=true}
theorem sa(P X:Nat→Prop)(C:Nat)(s:Cs)(w:World)(h:dc P X C s w):
  Calls Tryz.prog 138 #[.pointer (some ⟨C,0,none⟩)] w fun e w'=>e=.returned (.tuple #[])∧em P X C w s.shut w':=by
 obtain⟨wv,iv,cv,bp,bv,Ms,h,hb⟩:=h;obtain⟨c0,c1,c2,c3,c8⟩:=dM h;have z0:=aj h 0;have z1:=aj h 1;have z2:=aj h 2;have z3:=aj h 3;have z8:=aj h 8;have FIN:em P X C w s.shut (((((w.setCell ⟨C,0,none⟩ (Es)).setCell ⟨C,1,none⟩ (Sn)).setCell ⟨C,2,none⟩ (.map none)).setCell ⟨C,3,none⟩ (.pointer none)).setCell ⟨C,8,none⟩ (.bool true)):=by
  have h1:=cq (i:=0) (u:=Es) h;have h2:=cq (i:=1) (u:=Sn) h1;have h3:=cq (i:=2) (u:=.map none) h2;have h4:=cq (i:=3) (u:=.pointer none) h3;have h5:=cq (i:=8) (u:=.bool true) h4;have k:=((((hb.put h 0 (Es)).put h1 1 (Sn)).put h2 2 (.map none)).put h3 3 (.pointer none)).put h4 8 (.bool true);refine⟨P,X,⟨Sn,.map none,.pointer none,bp,bv,[],h5,World.ownsRow_nil _ _ _ _,trivial,.inl ⟨rfl,rfl⟩,List.nodup_nil,rfl,k.bq,k.bw,(fun g hg=>by cases hg),(fun g hg=>by cases hg),k.xb,k.xC,k.xP,k.xl⟩,
   ((((((Kb.refl X w).set (.inl k.xC) _).set (.inl k.xC) _).set (.inl k.xC) _).set (.inl k.xC) _).set (.inl k.xC) _),fun _ _ q=>q,fun _ _ q=>q⟩
 have HF:=hid FIN;clear FIN h hb
 go_enter Tryz.func138,Tryz.ntmps138
 go_wp2_with fail
 first
  |refine bodyPost_end (results_none rfl _ _ _) rfl ?_
  |refine aH (results_none rfl _ _ _) rfl ?_
 exact⟨rfl,HF.out⟩
def Cs.put(s:Cs)(t:List UInt8):Cs:={s with out:=s.out++t}
theorem jM{m:Mg}{l:Ls}(h:(cR m l).2=0):(cR m l).1.length≤65536:=(iC h).2.2.2
theorem su(w0:World)(P X:Nat→Prop)(C:Nat)(s:Cs)(m:Mg)(l:Ls)(w:World)(h:dc P X C s w)(hH:Hm w0 X w)(hm:MgM w m l)(hk:LsOk m l)(hlen:s.out.length≤1099511627776):
  Calls Tryz.prog 46 #[.pointer (some ⟨C,0,none⟩),.agg m.row] w fun e w'=>e=.returned (.bool (decide ((cR m l).2=0)))∧em P X C w (if(cR m l).2=0 then s.put (cR m l).1 else s) w':=by
 have b:=alb w m.row 33;have r:=alz w m.row 33;have kw:=fa m l _ (hm.below b) hk (hH.now.below b);have h1:=h.bel b;have hlt:=jM (m:=m) (l:=l);obtain⟨B,hB⟩:=nmm m.row;have hsz:B.size=28:=by rw[←hB];rfl
 obtain⟨⟨t,c⟩,hW⟩:∃W,cR m l=W:=⟨_,rfl⟩;rw[hW] at kw hlt⊢;simp only at kw hlt⊢;rw[hB] at kw b r h1⊢;obtain⟨RB,hRB⟩:=nmm (decide (c=0));obtain⟨S',hS'⟩:=nmm (if c=0 then s.put t else s);rw[hRB,hS'];obtain⟨HRB,HS⟩:=Cg hRB hS';clear hRB hS';obtain⟨HZ,H1⟩:=Cg hsz h1;clear hB hsz hm hk hH h h1 hW
 go_enter Tryz.func46,Tryz.ntmps46
 go_upto_region 1 with fail
 generalize w.alloc (.cells B 33)=w1 at b r kw H1⊢
 go_wp2_with (refine bg rfl 33 (.tmp 3) rfl w.heap.size 33 _ (0,0) (by rfl) r _ Tryz.underlying33 rfl (by rw[HZ.out];rfl) ?_)
 refine ag kw ?_;rintro e w2 ⟨rfl,hb⟩;obtain⟨wv,iv,cv,bp,bv,Ms,h2⟩:=H1.out.bel hb;have b2:=btt b hb;clear kw hb r b H1 HZ
 by_cases hc:c=0
 ·subst hc
  have ks:=px P X C s wv iv cv bp bv Ms t w2 h2 hlen (by have:=hlt rfl;omega);have HB:=hid b2;obtain rfl:RB=true:=by rw[←HRB.out];rfl
  obtain rfl:S'=s.put t:=by rw[←HS.out];rfl
  clear hlt h2 b2 HRB HS
  go_wp2_with fail
  refine ag ks ?_;rintro e w3 ⟨rfl,hT⟩;have FIN:em P X C w (s.put t) w3:=em.trans ⟨Kb.of HB.out,fun _ _ q=>q,fun _ _ q=>q⟩ hT;have HF:=hid FIN;clear FIN hT ks HB
  go_wp2_with fail
  go_ret
  exact⟨rfl,HF.out⟩
 ·have e0:(c==0)=false:=aE hc
  have e1:(c !=0)=true:=by rw[bne,e0];rfl
  obtain rfl:RB=false:=by rw[←HRB.out];exact an hc
  obtain rfl:S'=s:=by rw[←HS.out];exact if_neg hc
  have FIN:em P X C w S' w2:=⟨P,X,h2.at,Kb.of b2,fun _ _ q=>q,fun _ _ q=>q⟩;have HF:=hid FIN;clear FIN hlt h2 b2 hc HRB HS
  go_wp2_with fail
  go_ret
  exact⟨rfl,HF.out⟩
def oM:Mg:={op:=24,code:=2,oid:=gY}
def Dx:List UInt8:=(cR oM {}).1
theorem uc(id op code:Int)(a b oid:List UInt8)(ha:a.length≤1000)(hb:b.length≤1000)(hc:oid.length≤1000):LsOk {id:=id,op:=op,code:=code,matched:=a,text:=b,oid:=oid} {}:=by
 constructor<;>first|exact eC|exact dx|(simp;done)|(simp;omega)
theorem Dl:LsOk oM {}:=uc 0 24 2 [] [] gY (by decide) (by decide) (by decide)
theorem CT:(cR oM {}).2=0:=by decide
theorem uA(w:World)(m:Mg)(h:m.pl=m):MgM w m {}:=by
 have:=(LsL.none 0 w m).mgm;rw[h] at this;exact this
def Cs.gone(s:Cs):Cs:=(s.put Dx).shut
theorem mC(w0:World)(P X:Nat→Prop)(C:Nat)(s:Cs)(w:World)(h:dc P X C s w)(hH:Hm w0 X w)(hlen:s.out.length≤1099511627776):
  Calls Tryz.prog 79 #[.pointer (some ⟨C,0,none⟩),.int .i64 2] w fun e w'=>e=.returned (.tuple #[])∧em P X C w s.gone w':=by
 have kn:=A6 2 [] w;obtain⟨H,HH⟩:=Cg h hH;clear h hH
 go_enter Tryz.func79,Tryz.ntmps79
 go_wp2_with fail
 refine ag kn ?_;rintro e w1 ⟨rfl,hb⟩;have ks:=su w0 P X C s oM {} w1 (H.out.bel hb) (HH.out.bels hb) (uA _ _ rfl) Dl hlen;rw[CT,if_pos rfl] at ks;rw[show decide ((0:Int)=0)=true from rfl] at ks;rw[show Mg.row oM=Mg.row {op:=24,code:=2,text:=[],oid:=gY} from rfl] at ks;have HB:=hid hb;clear kn hb
 go_wp2_with fail
 refine ag ks ?_;rintro e w2 ⟨rfl,P1,X1,hT,hN⟩;have kk:=sa P1 X1 C _ w2 hT;have HN:=hid hN;clear ks hN hT
 go_wp2_with fail
 refine ag kk ?_;rintro e w3 ⟨rfl,hT⟩;have FIN:em P X C w s.gone w3:=em.trans (Nx.trans ⟨Kb.of HB.out,fun _ _ q=>q,fun _ _ q=>q⟩ HN.out) hT;have HF:=hid FIN;clear FIN hT kk HN HB H HH
 go_wp2_with fail
 first
  |refine bodyPost_end (results_none rfl _ _ _) rfl ?_
  |refine aH (results_none rfl _ _ _) rfl ?_
 exact⟨rfl,HF.out⟩
section
variable {md:Region.Mode} {ops:Array Oper} {Q:Exit→Act→World→Prop} {S:World→Prop} {st:Nat} {fuel:Nat} {listed:Array Bool} {a a':Act} {w:World} {v:Value} {o ost:Oper}
theorem tg{id:Nat}(S:World→Prop)(st:Nat)(h:∀w',Below w.heap.size w w'→wI Tryz.prog .any ops Q S st ops.size (Array.replicate ops.size false) a w')(hm:Tryz.prog.follows .mixedOrders=true:=by kernel_rfl):(Code.region id ops true).wp Tryz.prog Q a w:=
 zE hm (h _ (aA w.heap.size w).drew)
theorem ta(i:Nat)(p:Addr)(ho:ops[i]?=some o)(T:S w)(h:wI Tryz.prog md ops Q S st fuel (listed.setIfInBounds i true) a' w)(hy:∀w',(execOp a.eval o).run Tryz.prog w'=.ok (.value (.pointer (some p))) w':=by intro w';go_simp)
  (ha:a.put o.dst (.pointer (some p))=a':=by first|(go_simp;rfl)|rfl) (hi:i≠st:=by decide) (hs:Region.noSelect ops=true:=by kernel_rfl) (hf:Region.free md ops listed i=true:=by kernel_rfl) (hr:(Region.ready md ops listed).contains i=true:=by kernel_rfl) (hQ:∀c a w,Q (.panic c) (a.put o.dst (.pointer (some p))) w→Q (.panic c) a w:=by exact fun _ _ _ h=>h)
  (hw:Region.wanted o (yielded ops a.tmps)=true:=by rfl):wI Tryz.prog md ops Q S st (fuel+1) listed a w:=
 rg i _ ho hi hs hf hr hQ hw hy (.inr T) (fun _ hK=>hK _ _ (ha▸h))
theorem tt(i:Nat)(v:Value)(ho:ops[i]?=some o)(host:ops[st]?=some ost)(T:S w)(hy:∀w',S w'→(execOp a.eval o).run Tryz.prog w'=.ok (.value v) w')(h:wI Tryz.prog md ops Q S st fuel (listed.setIfInBounds i true) a' w)
  (ha:a.put o.dst v=a':=by first|(go_simp;rfl)|rfl) (hi:i≠st:=by decide) (hwait:(ost.after.toList.any fun e=>Region.binds md e&&decide (e.on=i))=true:=by kernel_rfl) (hs:Region.noSelect ops=true:=by kernel_rfl) (hf:Region.free md ops listed i=true:=by kernel_rfl) (hr:(Region.ready md ops listed).contains i=true:=by kernel_rfl) (hQ:∀c a w,Q (.panic c) (a.put o.dst v) w→Q (.panic c) a w:=by exact fun _ _ _ h=>h)
  (hw:Region.wanted o (yielded ops a.tmps)=true:=by rfl) (hst:listed.getD st false=false:=by rfl):wI Tryz.prog md ops Q S st (fuel+1) listed a w:=
 CP i v ho hi host hwait hs hf hr hQ hw hy hst T (fun _ hK=>hK _ _ (ha▸h))
theorem tl(i:Nat)(p:Addr)(v:Value)(ho:ops[i]?=some o)(host:ops[st]?=some ost)(T:S w)(hc:∀w',S w'→w'.cell? p=some v)(h:wI Tryz.prog md ops Q S st fuel (listed.setIfInBounds i true) a' w)
  (hy:∀w':World,w'.cell? p=some v→(execOp a.eval o).run Tryz.prog w'=.ok (.value v) w':=by intro w' q;go_simp)
  (ha:a.put o.dst v=a':=by first|(go_simp;rfl)|rfl) (hi:i≠st:=by decide) (hwait:(ost.after.toList.any fun e=>Region.binds md e&&decide (e.on=i))=true:=by kernel_rfl) (hs:Region.noSelect ops=true:=by kernel_rfl) (hf:Region.free md ops listed i=true:=by kernel_rfl) (hr:(Region.ready md ops listed).contains i=true:=by kernel_rfl) (hQ:∀c a w,Q (.panic c) (a.put o.dst v) w→Q (.panic c) a w:=by exact fun _ _ _ h=>h)
  (hw:Region.wanted o (yielded ops a.tmps)=true:=by rfl) (hst:listed.getD st false=false:=by rfl):wI Tryz.prog md ops Q S st (fuel+1) listed a w:=
 tt i v ho host T (fun w' hS=>hy w' (hc w' hS)) h ha hi hwait hs hf hr hQ hw hst
theorem tc(i:Nat){f:FuncId}{args:Array Value}(kc:Calls Tryz.prog f args w fun e w'=>e=.returned v∧Below w.heap.size w w')(ho:ops[i]?=some o)(hT:∀w',Below w.heap.size w w'→S w')
  (h:∀w',Below w.heap.size w w'→wI Tryz.prog md ops Q S st fuel (listed.setIfInBounds i true) a' w')
  (hrun:(execOp a.eval o).run Tryz.prog w=.ok (.enter f args) w:=by first|rfl|go_simp) (ha:a.put o.dst v=a':=by first|(go_simp;rfl)|rfl) (hr:Region.ready md ops listed=[i]:=by kernel_rfl) (hw:Region.wanted o (yielded ops a.tmps)=true:=by rfl):wI Tryz.prog md ops Q S st (fuel+1) listed a w:=
 nC i hr ho hw fun K hK=>by
  unfold Oper.wp;rw[hrun,Oper.upon_enter];refine kc.mono fun e w' hh=>?_
  obtain⟨rfl,hb⟩:=hh;show K _ _;rw[ha];exact hK _ _ (.inr (hT w' hb)) (h w' hb)
theorem tw(i:Nat)(ho:ops[i]?=some o)(h:∀K':Act→World→Prop,(∀a w,S w→wI Tryz.prog md ops Q S st fuel (listed.setIfInBounds i true) a w→K' a w)→Oper.wp Tryz.prog o a w K' Q)(hr:Region.ready md ops listed=[i]:=by kernel_rfl)(hw:Region.wanted o (yielded ops a.tmps)=true:=by rfl):wI Tryz.prog md ops Q S st (fuel+1) listed a w:=
 nC i hr ho hw fun K hK=>h K fun a w s k=>hK a w (.inr s) k
theorem tf(h:wI Tryz.prog md ops Q S st fuel listed a' w)(ha:a=a':=by first|(go_simp;rfl)|rfl):wI Tryz.prog md ops Q S st fuel listed a w:=ha▸h
theorem tz(i:Nat)(w2:World)(ho:ops[i]?=some o)(h:Q .normal a' w2)(hrun:∀K:Act→World→Prop,K a' w2→Oper.wp Tryz.prog o a w K Q:=by intro K hK;go_simp;exact hK)
  (hr:Region.ready md ops listed=[i]:=by kernel_rfl) (hw:Region.wanted o (yielded ops a.tmps)=true:=by rfl) (hd:Region.ready md ops (listed.setIfInBounds i true)=[]:=by kernel_rfl) (hst:(listed.setIfInBounds i true).getD st false=true:=by rfl):wI Tryz.prog md ops Q S st (fuel+1) listed a w:=
 nC i hr ho hw fun K hK=>hrun K (hK _ _ (.inl hst) (CQ hd h _))
theorem tv(i:Nat)(v:Value)(ho:ops[i]?=some o)(T:S w)(h:wI Tryz.prog md ops Q S st fuel (listed.setIfInBounds i true) a' w)(hy:∀w',(execOp a.eval o).run Tryz.prog w'=.ok (.value v) w':=by intro w';go_simp)
  (ha:a.put o.dst v=a':=by first|(go_simp;rfl)|rfl) (hi:i≠st:=by decide) (hs:Region.noSelect ops=true:=by kernel_rfl) (hf:Region.free md ops listed i=true:=by kernel_rfl) (hr:(Region.ready md ops listed).contains i=true:=by kernel_rfl) (hQ:∀c a w,Q (.panic c) (a.put o.dst v) w→Q (.panic c) a w:=by exact fun _ _ _ h=>h)
  (hw:Region.wanted o (yielded ops a.tmps)=true:=by rfl):wI Tryz.prog md ops Q S st (fuel+1) listed a w:=
 rg i _ ho hi hs hf hr hQ hw hy (.inr T) (fun _ hK=>hK _ _ (ha▸h))
theorem hg{id:Nat}(S:World→Prop)(h:∀w',Below w.heap.size w w'→w'.heap.size=w.heap.size→(∀g:Nat,w'.heap[g]?=w.heap[g]?)→wpAnyH Tryz.prog .any ops Q S ops.size (Array.replicate ops.size false) a w')(hm:Tryz.prog.follows .mixedOrders=true:=by kernel_rfl):(Code.region id ops true).wp Tryz.prog Q a w:=
 aR hm (h _ (aA w.heap.size w).drew rfl fun _=>rfl)
theorem hv(i:Nat)(v:Value)(ho:ops[i]?=some o)(T:S w)(hy:∀w',S w'→(execOp a.eval o).run Tryz.prog w'=.ok (.value v) w')(h:wpAnyH Tryz.prog md ops Q S fuel (listed.setIfInBounds i true) a' w)
  (ha:a.put o.dst v=a':=by first|(go_simp;rfl)|rfl) (hs:Region.noSelect ops=true:=by kernel_rfl) (hf:Region.free md ops listed i=true:=by kernel_rfl) (hr:(Region.ready md ops listed).contains i=true:=by kernel_rfl) (hQ:∀c a w,Q (.panic c) (a.put o.dst v) w→Q (.panic c) a w:=by exact fun _ _ _ h=>h)
  (hw:Region.wanted o (yielded ops a.tmps)=true:=by rfl):wpAnyH Tryz.prog md ops Q S (fuel+1) listed a w:=
 pQ i v ho hs hf hr hQ hw hy T (fun _ hK=>hK _ _ (ha▸h))
theorem hu(i:Nat)(v:Value)(ho:ops[i]?=some o)(T:S w)(h:wpAnyH Tryz.prog md ops Q S fuel (listed.setIfInBounds i true) a' w)(hy:∀w':World,(execOp a.eval o).run Tryz.prog w'=.ok (.value v) w':=by intro w';go_simp)
  (ha:a.put o.dst v=a':=by first|(go_simp;rfl)|rfl) (hs:Region.noSelect ops=true:=by kernel_rfl) (hf:Region.free md ops listed i=true:=by kernel_rfl) (hr:(Region.ready md ops listed).contains i=true:=by kernel_rfl) (hQ:∀c a w,Q (.panic c) (a.put o.dst v) w→Q (.panic c) a w:=by exact fun _ _ _ h=>h)
  (hw:Region.wanted o (yielded ops a.tmps)=true:=by rfl):wpAnyH Tryz.prog md ops Q S (fuel+1) listed a w:=
 hv i v ho T (fun w' _=>hy w') h ha hs hf hr hQ hw
theorem hl(i:Nat)(p:Addr)(v:Value)(ho:ops[i]?=some o)(T:S w)(hc:∀w',S w'→w'.cell? p=some v)(h:wpAnyH Tryz.prog md ops Q S fuel (listed.setIfInBounds i true) a' w)(hy:∀w':World,w'.cell? p=some v→(execOp a.eval o).run Tryz.prog w'=.ok (.value v) w':=by intro w' q;go_simp)
  (ha:a.put o.dst v=a':=by first|(go_simp;rfl)|rfl) (hs:Region.noSelect ops=true:=by kernel_rfl) (hf:Region.free md ops listed i=true:=by kernel_rfl) (hr:(Region.ready md ops listed).contains i=true:=by kernel_rfl) (hQ:∀c a w,Q (.panic c) (a.put o.dst v) w→Q (.panic c) a w:=by exact fun _ _ _ h=>h)
  (hw:Region.wanted o (yielded ops a.tmps)=true:=by rfl):wpAnyH Tryz.prog md ops Q S (fuel+1) listed a w:=
 hv i v ho T (fun w' q=>hy w' (hc w' q)) h ha hs hf hr hQ hw
theorem uC(i:Nat)(ho:ops[i]?=some o)(h:∀K':Act→World→Prop,(∀a w,S w→wpAnyH Tryz.prog md ops Q S fuel (listed.setIfInBounds i true) a w→K' a w)→Oper.wp Tryz.prog o a w K' Q)(hr:Region.ready md ops listed=[i]:=by kernel_rfl)
  (hw:Region.wanted o (yielded ops a.tmps)=true:=by rfl):wpAnyH Tryz.prog md ops Q S (fuel+1) listed a w:=rn i hr ho hw h
theorem oS(i:Nat)(w2:World)(ho:ops[i]?=some o)(hS:S w2)(h:Q .normal a' w2)(hrun:∀K:Act→World→Prop,K a' w2→Oper.wp Tryz.prog o a w K Q:=by intro K hK;go_simp;exact hK)
  (hr:Region.ready md ops listed=[i]:=by kernel_rfl) (hw:Region.wanted o (yielded ops a.tmps)=true:=by rfl) (hd:Region.ready md ops (listed.setIfInBounds i true)=[]:=by kernel_rfl):wpAnyH Tryz.prog md ops Q S (fuel+1) listed a w:=
 rn i hr ho hw fun K hK=>hrun K (hK _ _ hS (ba hd h _))
end
theorem Tryz.infoMessage:(Tryz.prog.info? 33).map (fun i=>(i.zero,i.size,i.bytes))=some (some (.agg Zm),28,368):=by kernel_rfl
theorem CnB.bel{P X:Nat→Prop}{C:Nat}{ms:List (Mg×Ls)}{ids:List Int}{cur:Option (Int×Int)}{out:List UInt8}{wv iv cv bp bv:Value}{Ms:List Mg}{w w':World}(h:CnB P X C ms ids cur out wv iv cv bp bv Ms w)
  {R:Array Value} (hC:w.heap[C]?=some (.cells R 81 (0,0))) (k:Below w.heap.size w w'):CnB P X C ms ids cur out wv iv cv bp bv Ms w':=
 h.kept hC (fun g _ hp hl=>⟨k.block g hl,hp,Iff.rfl⟩) h.xC h.xP (fun g hg=>Nat.lt_of_lt_of_le (h.xl g hg) k.size)
theorem jp{es:Array MapEntry}{ids:List Int}(he:es.toList.map (fun e=>(e.key,e.val))=ids.map (fun k=>(Value.int .i64 k,Value.agg #[]))){x:MapEntry}(hx:x∈es.toList):∃k,k∈ids∧x.key=.int .i64 k∧x.val=.agg #[]:=by
 have:(x.key,x.val)∈ids.map (fun k=>(Value.int .i64 k,Value.agg #[])):=by rw[←he];exact List.mem_map.2 ⟨x,hx,rfl⟩
 obtain⟨k,hk,e⟩:=List.mem_map.1 this;exact⟨k,hk,(congrArg Prod.fst e).symm,(congrArg Prod.snd e).symm⟩
theorem A2{es:Array MapEntry}{ids:List Int}(he:es.toList.map (fun e=>(e.key,e.val))=ids.map (fun k=>(Value.int .i64 k,Value.agg #[]))){k:Int}(hk:k∈ids):∃x,x∈es.toList∧x.key=.int .i64 k:=by
 have:(Value.int .i64 k,Value.agg #[])∈es.toList.map (fun e=>(e.key,e.val)):=by rw[he];exact List.mem_map.2 ⟨k,hk,rfl⟩
 obtain⟨x,hx,e⟩:=List.mem_map.1 this;exact⟨x,hx,congrArg Prod.fst e⟩
theorem C0{w:World}{iv:Value}{ids:List Int}(k:Int)(h:jC w iv ids):(Instr.lookup 74 iv (.int .i64 k) true).run Tryz.prog w=.ok (.tuple #[.agg #[],.bool (ids.contains k)]) w:=by
 have hz:∀w:World,(zeroValue 163).run Tryz.prog w=.ok (.agg #[]) w:=fun w=>by go_simp
 rcases h with⟨rfl,rfl⟩|⟨r,es,c,rfl,hr,he⟩
 ·have hc:(Instr.checkKey true 10000 3 (.int .i64 k)).run Tryz.prog w=.ok () w:=MapKept.run_checkKey (k:=.int .i64 k) (d:=.int .i64) (by kernel_rfl) (by simp[MapKept.IsKey]) true 9999
  simp[Instr.lookup,run_underlying (show Tryz.prog.underlying 74=some (.map 3 163) by kernel_rfl),hc,MapKept.run_findKey (d:=.int .i64) (show Tryz.prog.underlying 3=some (.int .i64) by kernel_rfl) (show Instr.findNow (.int .i64) (.int .i64 k) [] 0=some none from rfl),hz,Result.andThen]
 ·rcases jT (P:=Tryz.prog) w 74 3 163 r c es k (.agg #[]) (by kernel_rfl) (by kernel_rfl) hr (fun x hx=>by obtain⟨k',_,e,_⟩:=jp he hx;exact⟨k',e⟩) (hz w) with⟨x,hx,hk,hrun⟩|⟨hno,hrun⟩
  ·obtain⟨k',hk',e1,e2⟩:=jp he hx
   rw[e1] at hk;cases hk;rw[hrun,e2,show ids.contains k=true from List.contains_iff_mem.2 hk']
  ·rw[hrun,show ids.contains k=false from by
    cases hc:ids.contains k with
    |false=>rfl
    |true=>
     obtain⟨x,hx,e⟩:=A2 he (List.contains_iff_mem.1 hc);exact absurd e (hno x hx)]
def Cs.has(s:Cs)(k:Int):Bool:=s.ids.contains k||(match s.cur with|some c=>c.1==k|none=>false)
theorem BW(P X:Nat→Prop)(C:Nat)(s:Cs)(k:Int)(w:World)(h:dc P X C s w):
  Cr 80 #[.pointer (some ⟨C,0,none⟩),.int .i64 k] w (.bool (s.has k)):=by
 obtain⟨wv,iv,cv,bp,bv,Ms,h,hb⟩:=h;obtain⟨c0,c1,c2,c3,c8⟩:=dM h;have hl:=C0 k hb.im;unfold Cs.has;obtain⟨b,hB⟩:=nmm (s.ids.contains k);rw[hB] at hl⊢;have b2:=(aA w.heap.size w).alloc (ah _) (.cells #[] 163);have d3:=(b2.cell (bj c3)).trans c3;have hcur:=hb.cu;obtain⟨cu,hcu⟩:=nmm s.cur;rw[hcu] at hcur⊢;clear hb h c0 c1 c8 hB hcu;cases cu with
 |none=>
  have hcv:cv=.pointer none:=hcur;subst hcv;clear hcur;rw[Bool.or_false]
  go_enter Tryz.func80,Tryz.ntmps80
  go_upto_region 2 with fail
  generalize w.alloc (.cells #[] 163)=w2 at d3 b2⊢;cases b
  ·go_wp2_with fail
   go_ret
   exact⟨rfl,b2⟩
  ·go_wp2_with fail
   go_ret
   exact⟨rfl,b2⟩
 |some c=>
  obtain⟨F,D,rfl,_,hD,hd0,_⟩:=hcur;have e0:(w.alloc (.cells #[] 163)).cell? ⟨F,0,none⟩=some (.int .i64 c.1):=(aq (bk b2 hD) 0).trans hd0;obtain⟨i,hi⟩:=nmm (c.1==k);rw[show(match (some c:Option (Int×Int)) with|some c=>c.1==k|none=>false)=i from hi];obtain⟨rb,hrb⟩:=nmm (b||i);rw[hrb];have HRB:=hid hrb;clear hrb;clear hD hd0
  go_enter Tryz.func80,Tryz.ntmps80
  go_upto_region 2 with fail
  generalize w.alloc (.cells #[] 163)=w2 at d3 b2 e0⊢;cases b
  ·cases i
   ·go_wp2_with fail
    go_ret
    exact⟨by rw[←HRB.out];rfl,b2⟩
   ·go_wp2_with fail
    go_ret
    exact⟨by rw[←HRB.out];rfl,b2⟩
  ·go_wp2_with fail
   go_ret
   exact⟨by rw[←HRB.out];cases i<;>rfl,b2⟩
theorem uM(m:Mg)(w:World):(Instr.buildSlice 22 1 #[(0,.agg m.row)]).run Tryz.prog w=.ok (.slice (some ⟨w.heap.size,0,none⟩) 1 1) (w.alloc (.cells m.row 33)):=by
 unfold Mg.row;go_simp
theorem CU{es:Array MapEntry}{ids:List Int}(he:es.toList.map (fun e=>(e.key,e.val))=ids.map (fun k=>(Value.int .i64 k,Value.agg #[]))){k:Int}(hn:ids.contains k=false):Instr.findNow (.int .i64) (.int .i64 k) es.toList 0=some none:=by
 have hkey:∀j:Int,MapKept.IsKey (.int .i64) (.int .i64 j):=fun j=>by simp[MapKept.IsKey]
 rcases MapKept.findNow_spec (hkey k) es.toList 0 (fun x hx=>by obtain⟨k',_,e,_⟩:=jp he hx;rw[e];exact hkey k') with⟨q,_⟩|⟨j,e,_,q2,q3⟩
 ·exact q
 ·exfalso
  obtain⟨k',hk',e1,_⟩:=jp he (List.mem_of_getElem? q2);rw[q3] at e1;cases e1;rw[List.contains_iff_mem.2 hk'] at hn;cases hn
theorem Cp{ids:List Int}{k:Int}(h:ids.Nodup)(hn:ids.contains k=false):(ids++[k]).Nodup:=by
 rw[List.nodup_append];refine⟨h,by simp,fun a ha b hb=>?_⟩;simp only[List.mem_singleton] at hb;rintro rfl;subst hb;rw[List.contains_iff_mem.2 ha] at hn;cases hn
theorem uS{A:Array Value}(h:∀w,(Instr.buildSlice 22 1 #[(0,.agg A)]).run Tryz.prog w=.ok (.slice (some ⟨w.heap.size,0,none⟩) 1 1) (w.alloc (.cells A 33))){o:Oper}{a:Act}{x:Operand}(ho:o.op=.buildSlice 22 1 #[(0,x)])(hx:a.eval x=.agg A)(w:World):
  (execOp a.eval o).run Tryz.prog w=.ok (.value (.slice (some ⟨w.heap.size,0,none⟩) 1 1)) (w.alloc (.cells A 33)):=by
 have q:=h w
 simp[execOp,ho,hx,q]
theorem CF(P X:Nat→Prop)(C:Nat)(s:Cs)(m:Mg)(y:Mg×Ls)(w:World)(h:dc P X C s w)(hm:m.pl=y.1)(hl:LsP (fun g=>P g∧¬X g) w m y.2)(hn:s.ids.contains y.1.id=false)(h2:y.1.op≠2)(h16:y.1.op≠16)(hlen:s.ms.length≤1000):
  Calls Tryz.prog 81 #[.pointer (some ⟨C,0,none⟩),.agg m.row] w fun e w'=>e=.returned (.tuple #[])∧em P X C w {s with ms:=s.ms++[y]} w':=by
 obtain⟨wv,iv,cv,bp,bv,Ms,hr,hb⟩:=h;obtain⟨i0,hi0,hz0,hz1,hz2⟩:=info_parts Tryz.infoMessage;have hid:m.id=y.1.id:=by rw[←hm];rfl
 have hop:m.op=y.1.op:=by rw[←hm];rfl
 generalize hPR:(em P X C w {s with ms:=s.ms++[y]}:World→Prop)=PR;have HPR:=Lib.hid hPR;have b1:=alb w m.row 33;have m1:=alz w m.row 33;have r1:=bk b1 hr;have hb1:=hb.bel hr b1;have hl1:LsP (fun g=>P g∧¬X g) _ m y.2:=hl.kept fun g hg hlg=>⟨b1.block g hlg,hg⟩
 have hMX:∀g,X g→g≠w.heap.size:=fun g hg e=>by have:=hb.xl g hg;omega
 have HCW:=Lib.hid (gl hr);have hbox:=uM m;obtain⟨A,hA⟩:=nmm m.row;have hA0:A[0]?=some (.int .i64 y.1.id):=by rw[←hA,←hid];rfl
 have hA1:A[1]?=some (.int .i64 y.1.op):=by rw[←hA,←hop];rfl
 have hAo:A.all (·.oneCell')=true:=by rw[←hA];exact hl.one
 have hA2:A.size=28:=by rw[←hA];rfl
 have hAl:cC (Ms++[m])=cC Ms++A.toList:=by rw[A8,←hA];simp[cC]
 have hA3:A.toList.length=1*28:=by simpa using hA2
 have hA4:∀u∈A.toList,u.oneCell'=true:=fun u hu=>by have:=(Array.all_eq_true_iff_forall_mem.1 hAo) u (by simpa using hu);exact this
 rw[hA] at b1 m1 r1 hb1 hl1 hbox⊢;obtain⟨HX,HA3,HA4⟩:=Ch (show _∧_∧_ from⟨hA0,hA2,hAl⟩) hA3 hA4;have q1:(w.alloc (.cells A 33)).cell? ⟨w.heap.size,1,none⟩=some (.int .i64 y.1.op):=(aq m1 1).trans hA1;have e2:(y.1.op==2)=false:=aE h2;have e16:(y.1.op==16)=false:=aE h16;obtain⟨op,hopq⟩:∃op,y.1.op=op:=⟨_,rfl⟩;rw[hopq] at q1 e2 e16;obtain⟨HB,HL,HM,HN,HMX,HLN⟩:=Cy hb1 hl1 hm hn hMX hlen;have hs1:w.heap.size+1=(w.alloc (.cells A 33)).heap.size:=by simp
 have HS1:=Lib.hid hs1;clear hPR hr hb hl hid hop hA hA0 hA1 hAo hA2 hAl hA3 hA4 h2 h16 hopq hm hn hMX hlen hb1 hl1 hs1
 go_enter Tryz.func81,Tryz.ntmps81
 go_upto_region 1 with fail
 generalize w.alloc (.cells A 33)=w1 at b1 m1 r1 q1 HB HL HS1⊢
 go_upto_region 2 with fail
 have hrC:w.heap.size≠C:=fun e=>by have:=HMX.out C HB.out.xC;exact this e.symm
 clear q1 e2 e16;refine tg (fun w'=>w'.cell? ⟨C,1,none⟩=some wv∧w'.heap[w.heap.size]?=some (.cells A 33 (0,0))) 10 ?_;intro w2 bw;have R2:=bk bw r1;have M2:=bk bw m1;have T:w2.cell? ⟨C,1,none⟩=some wv∧w2.heap[w.heap.size]?=some (.cells A 33 (0,0)):=⟨(aq R2 1).trans rfl,M2⟩;refine ta 0 ⟨C,0,none⟩ rfl T ?_;refine ta 1 ⟨C,0,none⟩ rfl T ?_;refine ta 2 ⟨C,0,none⟩ rfl T ?_;refine ta 3 ⟨C,1,none⟩ rfl T ?_;refine tl 4 ⟨C,1,none⟩ wv rfl rfl T (fun _ q=>q.1) ?_;refine tt 5 (.agg A) rfl rfl T (fun w' hS=>by exact cU 33 (.tmp 3) rfl w.heap.size 33 A (0,0) (by rfl) hS.2 _ Tryz.underlying33 rfl (by rw[HX.out.2.1];rfl)) ?_;have b3:=alb w2 A 33;have x3:=alz w2 A 33;have T3:(w2.alloc (.cells A 33)).cell? ⟨C,1,none⟩=some wv∧(w2.alloc (.cells A 33)).heap[w.heap.size]?=some (.cells A 33 (0,0)):=⟨(b3.cell (bj T.1)).trans T.1,bk b3 T.2⟩;have R3:=bk b3 R2;refine tw 6 rfl fun K hK=>jS (v:=.slice (some ⟨w2.heap.size,0,none⟩) 1 1) (w':=w2.alloc (.cells A 33)) (uS hbox rfl rfl _) (hK _ _ T3 ?_)
 have hb3:=HB.out.bel r1 ((btt bw b3));have hl3:LsP (fun g=>P g∧¬X g) _ m y.2:=HL.out.kept (w':=w2.alloc (.cells A 33)) fun g hg hlg=>⟨((btt bw b3)).block g hlg,hg⟩
 have bb3:Below w.heap.size w (w2.alloc (.cells A 33)):=b1.trans (((btt bw b3)).mono b1.size);obtain⟨HB3,HL3,BB3⟩:=Ch hb3 hl3 bb3;generalize hG:w2.heap.size=G at x3;have HG:=Lib.hid hG;clear hG hb3 hl3 bb3 b3 bw r1 m1 b1 HB HL T R2 M2;generalize w2.alloc (.cells A 33)=w3 at x3 T3 R3 HB3 HL3 BB3⊢;refine tw 7 rfl fun K hK=>?_
 refine wp_append_lies w3 (.tmp 11) (.tmp 13) 22 rfl 0 33 i0 _ 28 368 Tryz.underlying22 hi0 hz0 hz1 hz2 rfl (by decide) wv s.ms.length (cC Ms) rfl HB3.out.own ⟨G,0,none⟩ 1 1 A.toList rfl HA3.out (World.news_of_block x3) HA4.out (by omega) (by have:=HLN.out;unfold maxLen;omega) (by have:=HLN.out;omega) (Nat.zero_le _) _ rfl ?_;intro g cap w4 hown hgrow hat hlt;have h3:=HB3.out;have hwC:wv.ownBlock≠some C:=fun e=>h3.neC R3 (.inl e) rfl
 have hwM:wv.ownBlock≠some w.heap.size:=fun e=>HMX.out _ (h3.xw _ e) rfl
 have R4:=(hgrow.block C (gl R3) (fun e=>hwC e.symm)).trans R3;have M4:=(hgrow.block _ (gl T3.2) (fun e=>hwM e.symm)).trans T3.2;have T4:w4.cell? ⟨C,1,none⟩=some wv∧w4.heap[w.heap.size]?=some (.cells A 33 (0,0)):=⟨(aq R4 1).trans rfl,M4⟩;have hb4:=h3.app R3 R4 HM.out HL3.out (by rw[HX.out.2.2];exact hown) (fun j _ hn hl=>hgrow.block j hl fun e=>hn e.symm) (hat.imp id (fun e=>by rw[e];exact ah _)) hgrow.size;have kb4:Kb X w w4:=(Kb.of BB3.out).grown hgrow fun j hj=>.inl (h3.xw j hj)
 have hgo:∀j,j<w.heap.size→j=g→X j:=fun j hj e=>by
  rcases hat with q|q
  ·exact e▸h3.xw _ q
  ·have:=BB3.out.size;omega
 have hb5:=hb4.put R4 1 (.slice (some ⟨g,0,none⟩) (s.ms.length+1) cap);have N5:Nx P X w (fun j=>P j∨j=g) (fun j=>X j∨j=g) (w4.setCell ⟨C,1,none⟩ (.slice (some ⟨g,0,none⟩) (s.ms.length+1) cap)):=⟨kb4.set (.inl h3.xC) _,fun j hj q=>Or.elim q id (hgo j hj),fun j hj q=>Or.elim q id fun e=>h3.xP j (hgo j hj e)⟩;have R5:=cq (i:=1) (u:=.slice (some ⟨g,0,none⟩) (s.ms.length+1) cap) R4;have M5:(w4.setCell ⟨C,1,none⟩ (.slice (some ⟨g,0,none⟩) (s.ms.length+1) cap)).heap[w.heap.size]?=some (.cells A 33 (0,0)):=(heap_setCell_other w4 ⟨C,1,none⟩ w.heap.size _ hrC).trans M4;have z:=aj R4 1;refine hK _ _ T4 ?_;clear hK K;obtain⟨HB5,HN5,HR5,HM5⟩:=Ci hb5 N5 R5 M5;clear hb5 N5 R5 M5 hb4 kb4 hgo hown hgrow hat hlt h3 hwC hwM M4 x3 T3 R3 HB3 HL3 BB3 HG;refine ta 8 ⟨C,0,none⟩ rfl T4 ?_;refine ta 9 ⟨C,1,none⟩ rfl T4 ?_;refine tz 10 (w4.setCell ⟨C,1,none⟩ (.slice (some ⟨g,0,none⟩) (s.ms.length+1) cap)) rfl ?_;clear T4 z R4;generalize w4.setCell ⟨C,1,none⟩ (.slice (some ⟨g,0,none⟩) (s.ms.length+1) cap)=w5 at HB5 HN5 HR5 HM5⊢;simp only[Exit.then];refine‹∀(a:Act) (w:World),Code.wp _ _ _ a w→_› _ _ ?_;obtain⟨P5,X5,hb5,N5⟩:∃P5 X5,CnB P5 X5 C (s.ms++[y]) s.ids s.cur s.out (.slice (some ⟨g,0,none⟩) (s.ms.length+1) cap) iv cv bp bv (Ms++[m]) w5∧Nx P X w P5 X5 w5:=⟨_,_,HB5.out,HN5.out⟩;have R5:w5.heap[C]?=some (.cells (lC s.inn (.slice (some ⟨g,0,none⟩) (s.ms.length+1) cap) iv cv bp bv s.cl) 81 (0,0)):=HR5.out;have M5:=HM5.out;clear HB5 HN5 HR5 HM5;have hmm:∀(t:TypeId) (w:World),(Instr.makeMap t none).run Tryz.prog w=.ok (.map (some w.heap.size)) (w.alloc (.map #[] 0)):=fun _ _=>rfl
 have hbe:∀w:World,(binOp .eql 74 (.map none) (.map none)).run Tryz.prog w=.ok (.bool true) w:=fun w=>by rfl
 have hbf:∀(r:Nat) (w:World),(binOp .eql 74 (.map (some r)) (.map none)).run Tryz.prog w=.ok (Bf) w:=fun r w=>by rfl
 have c2:=cval R5 2 iv;have ND:=Lib.hid hb5.nd;have hids:=hb5.im;generalize hI:s.ids=ids at hids hb5 HN ND;obtain⟨HI,HIM,HB5,HN5⟩:=Ci hI hids hb5 N5;clear hI hb5 N5;rcases hids with⟨rfl,rfl⟩|⟨r,es,c,rfl,hr5,he⟩
 case' inl=>
  obtain⟨W7,hW7⟩:=nmm ((w5.alloc (.map #[] 0)).setCell ⟨C,2,none⟩ (.map (some w5.heap.size)));have g6:Below w5.heap.size w5 (w5.alloc (.map #[] 0)):=(aA _ _).alloc (ah _) _;have R6:=bk g6 R5;have d2:(w5.alloc (.map #[] 0)).cell? ⟨C,2,none⟩=some (.map none):=(aq R6 2).trans rfl;have z2:=aj R6 2;have hCl:=(gl R5);have hs7:W7.heap.size=w5.heap.size+1:=by rw[←hW7];simp[World.setCell]
  have x7:W7.heap[w5.heap.size]?=some (.map #[] 0):=by rw[←hW7];exact(heap_setCell_other _ ⟨C,2,none⟩ w5.heap.size _ (by show w5.heap.size≠C;omega)).trans (bC _ _ _ rfl)
  have R7:W7.heap[C]?=some (.cells (lC s.inn (.slice (some ⟨g,0,none⟩) (s.ms.length+1) cap) (.map (some w5.heap.size)) cv bp bv s.cl) 81 (0,0)):=by rw[←hW7];exact cq (i:=2) (u:=.map (some w5.heap.size)) R6
  have hoth:∀j,j≠C→j<w5.heap.size→W7.heap[j]?=w5.heap[j]?:=fun j hj hl=>by rw[←hW7];exact(heap_setCell_other _ ⟨C,2,none⟩ j _ hj).trans (g6.block j hl)
  have M7:=(hoth w.heap.size hrC (gl M5)).trans M5;have N7:∃P7 X7,CnB P7 X7 C (s.ms++[y]) [] s.cur s.out (.slice (some ⟨g,0,none⟩) (s.ms.length+1) cap) (.map (some w5.heap.size)) cv bp bv (Ms++[m]) W7∧Nx P X w P7 X7 W7:=
   ⟨_,_,HB5.out.newMap R5 rfl ⟨0,x7⟩ hoth (by rw[hs7];omega),
    ⟨⟨(hW7▸rfl:W7.os=w5.os).trans HN5.out.kb.os,(hW7▸rfl:W7.tape=w5.tape).trans HN5.out.kb.tape,(hW7▸rfl:W7.output=w5.output).trans HN5.out.kb.output,by have:=HN5.out.kb.size;omega,fun j hj hn=>
     (hoth j (fun e=>hn (by rw[e];exact HN5.out.xs C HCW.out HB5.out.xC)) (Nat.lt_of_lt_of_le hj HN5.out.kb.size)).trans (HN5.out.kb.block j hj hn)⟩,
     fun j hj q=>Or.elim q (HN5.out.xs j hj) (fun e=>by have:=HN5.out.kb.size;omega),fun j hj q=>Or.elim q (HN5.out.ps j hj) (fun e=>by have:=HN5.out.kb.size;omega)⟩⟩
  have he:([]:List MapEntry).map (fun e=>(e.key,e.val))=([]:List Int).map (fun k=>(Value.int .i64 k,Value.agg #[])):=rfl;obtain⟨es,hes⟩:=nmm (#[]:Array MapEntry);rw[hes] at x7;have he:es.toList.map (fun e=>(e.key,e.val))=([]:List Int).map (fun k=>(Value.int .i64 k,Value.agg #[])):=by rw[←hes];rfl
  obtain⟨c,hc⟩:=nmm (0:Nat);rw[hc] at x7;obtain⟨X7',HN7,HR7,HM7,HE,HS7⟩:=Cy x7 N7 R7 M7 he hs7;clear x7 N7 R7 M7 he hes hc hs7 hoth g6 hCl R6
  go_upto_region 5 with fail
  try rw[hW7]
  clear hW7 d2 z2 HS7;generalize w5.heap.size=r at X7' HN7 HR7 HM7;generalize W7=w7 at X7' HN7 HR7 HM7⊢;clear HB5 HN5 HIM M5 R5 c2;obtain⟨ids,hids⟩:=nmm ([]:List Int);rw[hids] at HE HN7 HN ND HI;clear hids
 case' inr=>
  obtain⟨X7',HN7,HR7,HM7,HE⟩:=Cj hr5 (show ∃P7 X7,CnB P7 X7 C (s.ms++[y]) ids s.cur s.out (.slice (some ⟨g,0,none⟩) (s.ms.length+1) cap) (.map (some r)) cv bp bv (Ms++[m]) w5∧Nx P X w P7 X7 w5 from⟨_,_,HB5.out,HN5.out⟩) R5 M5 he;clear hr5 he R5 M5 HIM HB5 HN5
  go_upto_region 5 with fail
  clear c2;generalize w5=w7 at X7' HN7 HR7 HM7⊢
 all_goals
  clear hmm hbe hbf;obtain⟨P7,X7,h7,N7⟩:=HN7.out;have R7:=HR7.out;have hCr:C≠r:=fun e=>by have:=X7'.out;rw[←e,R7] at this;cases this
  have hMr:w.heap.size≠r:=fun e=>by have:=X7'.out;rw[←e,HM7.out] at this;cases this
  obtain⟨HB7,HNX⟩:=Cg h7 N7;clear h7 N7 HN7;refine hg (fun w'=>w'.cell? ⟨C,2,none⟩=some (.map (some r))∧w'.cell? ⟨w.heap.size,0,none⟩=some (.int .i64 y.1.id)) ?_;intro w8 bw hsz hsame;have T:w8.cell? ⟨C,2,none⟩=some (.map (some r))∧w8.cell? ⟨w.heap.size,0,none⟩=some (.int .i64 y.1.id):=⟨(aq ((hsame C).trans R7) 2).trans rfl,(aq ((hsame _).trans HM7.out) 0).trans HX.out.1⟩;refine hu 0 (.pointer (some ⟨C,0,none⟩)) rfl T ?_;refine hu 1 (.pointer (some ⟨C,0,none⟩)) rfl T ?_;refine hu 2 (.pointer (some ⟨C,2,none⟩)) rfl T ?_;refine hl 3 ⟨C,2,none⟩ (.map (some r)) rfl T (fun _ q=>q.1) ?_;refine hu 4 (.pointer (some ⟨w.heap.size,0,none⟩)) rfl T ?_;refine hl 5 ⟨w.heap.size,0,none⟩ (.int .i64 y.1.id) rfl T (fun _ q=>q.2) ?_;refine hu 6 (.agg #[]) rfl T ?_;have x8:w8.heap[r]?=some (.map es c):=(hsame r).trans X7'.out;obtain⟨w9,hrun,hb9,hsz9,hot9,e1,e2,e3⟩:=oE (P:=Tryz.prog) w8 74 3 163 r c es y.1.id (.agg #[]) (by kernel_rfl) (by kernel_rfl) x8 (CU HE.out HN.out);have T9:w9.cell? ⟨C,2,none⟩=some (.map (some r))∧w9.cell? ⟨w.heap.size,0,none⟩=some (.int .i64 y.1.id):=⟨(World.cell?_of_block (a:=⟨C,2,none⟩) (hot9 C hCr)).trans T.1,(World.cell?_of_block (a:=⟨w.heap.size,0,none⟩) (hot9 w.heap.size hMr)).trans T.2⟩;have FIN:PR w9:=by
   rw[←HPR.out];have h7:=HB7.out;have N7:=HNX.out;have hoth:∀j,j≠r→w9.heap[j]?=w7.heap[j]?:=fun j hj=>(hot9 j hj).trans (hsame j)
   have hs9:w9.heap.size=w7.heap.size:=hsz9.trans hsz;refine⟨P7,X7,⟨_,_,_,_,_,Ms++[m],(hoth C hCr).trans R7,?_⟩,N7.trans ⟨⟨e1.trans bw.os,e2.trans bw.tape,e3.trans bw.output,by omega,fun j hj hn=>hoth j fun e=>hn (by rw[e];exact h7.xi r rfl)⟩,fun _ _ q=>q,fun _ _ q=>q⟩⟩;refine h7.lay R7 ?_ ?_ hoth hs9
   ·refine .inr ⟨r,_,_,rfl,hb9,?_⟩
    show _=((s.ms++[y]).map (·.1.id)).map _;rw[List.map_append,show s.ms.map (·.1.id)=ids from HI.out]
    simp[HE.out]
   ·show((s.ms++[y]).map (·.1.id)).Nodup
    rw[List.map_append,show s.ms.map (·.1.id)=ids from HI.out];exact Cp ND.out HN.out
  have HF:=Lib.hid FIN;clear FIN hb9 hsz9 hot9 e1 e2 e3 x8 hsz hsame bw HB7 HNX R7 X7' HR7 HM7 HE hCr hMr;refine oS 7 w9 rfl T9 ?_;clear hrun T T9;simp only[Exit.inBlock];exact bodyPost_end (results_none rfl _ _ _) rfl ⟨rfl,HF.out⟩
theorem CG(g o cap:Nat)(cur:Array Value)(w:World)(hg:w.heap[g]?=some (.cells cur 33 (0,0)))(hc:o+28≤cur.size):
  ∃Z:List Value,Z.length=28∧∀ty,(Builtin.clear_ #[22] ty #[.slice (some ⟨g,o,none⟩) 1 cap]).run Tryz.prog w=.ok (.tuple #[]) (w.setRow g (cur.toList.take o++Z++cur.toList.drop (o+28)).toArray):=by
 have hz:(zeroValue 33).run Tryz.prog w=.ok (.agg Zm) w:=by go_simp
 have hzc:(Builtin.zeroCells (Value.agg Zm).cells 1).toList=(Zm:Array Value).toList:=by kernel_rfl
 have hst:=run_storeCells_at (P:=Tryz.prog) g o 33 (Zm:Array Value).toList 0 cur w hg (by simpa using hc) (by simp[Value.oneCell']);refine⟨(Zm:Array Value).toList,rfl,fun ty=>?_⟩;simp only[Builtin.clear_,List.getElem?_toArray,List.getElem?_cons_zero,Sem.run_bind,run_underlying (show Tryz.prog.underlying 22=some (.slice 33) by kernel_rfl),Result.andThen,hz,hzc,hst]
 rfl
theorem lM:∀(Ms:List Mg) (i:Nat),i<Ms.length→cC (Ms.eraseIdx i)=(cC Ms).take (i*28)++(cC Ms).drop ((i+1)*28)
 |[],i,h=>by simp at h
 |m::r,0,_=>by
  show cC r=_;have:cC (m::r)=m.row.toList++cC r:=rfl;rw[this,Nat.zero_mul,List.take_zero,List.nil_append];exact(List.drop_left (l₁:=m.row.toList)).symm
 |m::r,i+1,h=>by
  have ih:=lM r i (by simpa using h);have h1:cC ((m::r).eraseIdx (i+1))=m.row.toList++cC (r.eraseIdx i):=rfl;have h2:cC (m::r)=m.row.toList++cC r:=rfl;have hl:m.row.toList.length=28:=rfl;rw[h1,h2,ih,List.take_append,List.drop_append,hl,show(i+1)*28 -28=i*28 by omega,show(i+1+1)*28 -28=(i+1)*28 by omega,List.take_of_length_le (l:=m.row.toList) (by omega),List.drop_of_length_le (l:=m.row.toList) (by omega),List.nil_append,List.append_assoc]
theorem vc(g n cap k:Nat)(w:World)(hk:k≤cap):(Instr.slice 22 (.slice (some ⟨g,0,none⟩) n cap) none (some (.int .i64 (k:Int))) none).run Tryz.prog w=.ok (.slice (some ⟨g,0,none⟩) k cap) w:=by
 have h1:(0:Int)≤(k:Int)∧(k:Int)≤(cap:Int):=by omega
 simp[Instr.slice,Instr.sliceBounds,Instr.sliceBound,asIntOf,run_underlying (show Tryz.prog.underlying 22=some (.slice 33) by kernel_rfl),hk,sizeOf,Addr.add]
theorem ve(g n cap k:Nat)(w:World)(hk:k≤n)(hk0:k*28≠0):(Instr.slice 22 (.slice (some ⟨g,0,none⟩) n cap) (some (.int .i64 (k:Int))) none none).run Tryz.prog w=.ok (.slice (some (if cap=k then⟨g,0,none⟩ else⟨g,k*28,none⟩)) (n -k) (cap -k)) w:=by
 obtain⟨i0,hi0,hz0,hz1,hz2⟩:=info_parts Tryz.infoMessage;have h1:(0:Int)≤(k:Int)∧(k:Int)≤(n:Int):=by omega
 by_cases hc:cap=k
 ·simp[Instr.slice,Instr.sliceBounds,Instr.sliceBound,asIntOf,run_underlying (show Tryz.prog.underlying 22=some (.slice 33) by kernel_rfl),hk, sizeOf,typeInfo,hi0, Addr.add,hc]
 ·simp[Instr.slice,Instr.sliceBounds,Instr.sliceBound,asIntOf,run_underlying (show Tryz.prog.underlying 22=some (.slice 33) by kernel_rfl),hk,hk0,sizeOf,typeInfo,hi0,hz1,Addr.add,hc]
theorem A3{ρ:Operand→Value}{o:Oper}{x:Operand}{lo hi:Option Operand}{r:Value}{w:World}{l h:Option Value}{a:Option Addr}{n c:Nat}(ho:o.op=.slice 22 x lo hi none)(hx:ρ x=.slice a n c)(hlo:lo.map ρ=l)(hhi:hi.map ρ=h)
  (hr:(Instr.slice 22 (.slice a n c) l h none).run Tryz.prog w=.ok r w):(execOp ρ o).run Tryz.prog w=.ok (.value r) w:=by
 subst hlo hhi
 simp[execOp,ho,hx,Instr.sliceAt,run_underlying (show Tryz.prog.underlying 22=some (.slice 33) by kernel_rfl),hr]
theorem Dt{P:Program}{o:Oper}{a:Act}{K:Act→World→Prop}{Q:Exit→Act→World→Prop}{w w':World}(s x:Operand){t:TypeId}{v y r:Value}(ho:o.op=.call {callee:=.builtin .append,args:=#[s,x],argTypes:=#[t,t]})(hs:a.eval s=v)(hx:a.eval x=y)
  (hr:∀ty,(Builtin.append_ #[t,t] ty #[v,y]).run P w=.ok r w') (h:K (a.put o.dst r) w'):o.wp P a w K Q:=by
 unfold Oper.wp execOp;simp only[ho,resolve,invoke,builtin,Sem.run_bind,Sem.run_pure,Result.andThen_ok,List.map_toArray,List.map_cons,List.map_nil,hs,hx,hr];exact h
theorem CH(g q cap i:Nat)(Ms:List Mg)(w:World)(h:w.ownsRow 0 33 28 (.slice (some ⟨g,0,none⟩) (q+1) cap) (q+1) (cC Ms))(hi:i≤q)(h1:∀u∈cC Ms,u.oneCell'=true):
  Calls Tryz.prog 82 #[.slice (some ⟨g,0,none⟩) (q+1) cap,.int .i64 (i:Int),.int .i64 ((i:Int)+1)] w fun e w'=>e=.returned (.slice (some ⟨g,0,none⟩) q cap)∧w'.ownsRow 0 33 28 (.slice (some ⟨g,0,none⟩) q cap) q (cC (Ms.eraseIdx i))∧Kb (fun j=>j=g) w w':=by
 obtain⟨i0,hi0,hz0,hz1,hz2⟩:=info_parts Tryz.infoMessage;obtain⟨cur,hgw,hn,hm,hcs,htake⟩:∃cur,w.heap[g]?=some (.cells cur 33 (0,0))∧q+1≤cap∧cap≤maxLen∧cur.size=cap*28∧cur.toList.take ((q+1)*28)=cC Ms:=by
  rcases h.2 with⟨h0,_⟩|⟨g',cap',cur,hv,_,hg,hn,hm,hcs,ht⟩
  ·cases h0
  ·cases hv
   exact⟨cur,hg,hn,hm,hcs,ht⟩
 have hlen:(cC Ms).length=(q+1)*28:=h.1;have hMs:Ms.length=q+1:=by have:=A9 Ms;omega
 have hcl:cur.toList.length=cap*28:=by simpa using hcs
 obtain⟨news,hN⟩:=nmm ((cC Ms).drop ((i+1)*28));have hNl:news.length=(q -i)*28:=by rw[←hN,List.length_drop];omega
 obtain⟨R1,hR1⟩:=nmm ((cur.toList.take (i*28)++news++cur.toList.drop (i*28+news.length)).toArray);have hR1s:R1.size=cap*28:=by rw[←hR1];simp;omega
 have hR1t:R1.toList.take (q*28)=cC (Ms.eraseIdx i):=by
  rw[←hR1,lM Ms i (by omega),hN,←htake,List.take_take,Nat.min_eq_left (by omega)];simp only[List.append_assoc];rw[←List.append_assoc,List.take_left' (by rw[bd,List.length_take,hNl];omega)]
 have hap:∀(W:World),(∀j:Nat,W.heap[j]?=w.heap[j]?)→∀ty,(Builtin.append_ #[22,22] ty #[.slice (some ⟨g,0,none⟩) i cap,.slice (some (if cap=i+1 then⟨g,0,none⟩ else⟨g,(i+1)*28,none⟩)) (q -i) (cap -(i+1))]).run Tryz.prog W=.ok (.slice (some ⟨g,0,none⟩) q cap) (W.setRow g R1):=by
  intro W hW ty;have hq:i+(q -i)=q:=by omega
  have hr:=run_append_room (P:=Tryz.prog) W 22 ty 33 i0 Tryz.underlying22 hi0 g i cap cur ((hW g).trans hgw) (if cap=i+1 then⟨g,0,none⟩ else⟨g,(i+1)*28,none⟩) (q -i) (cap -(i+1)) news (by rw[hz1];exact hNl) (fun j u hj=>?_) (fun u hu=>h1 u (List.mem_of_mem_drop (by rw[hN];exact hu))) (by omega) (by rw[hz1,hNl,hcs];omega)
  ·rw[hq,hz1,hR1] at hr
   exact hr
  ·have hjl:j<news.length:=by
    rcases Nat.lt_or_ge j news.length with k|k
    ·exact k
    ·rw[List.getElem?_eq_none k] at hj;cases hj
   rw[if_neg (by omega)];rw[←hN,List.getElem?_drop] at hj;have hc:=h.cells (g:=g) rfl _ u hj;rw[show(⟨g,(i+1)*28,none⟩:Addr).add j=(⟨g,0,none⟩:Addr).add ((i+1)*28+j) by simp[Addr.add_lit]];exact(World.cell?_of_block (hW _)).trans hc
 have hk1:((i:Int)+1≤((q+1:Nat):Int)):=by omega
 have hk2:(((q+1:Nat):Int)≤(cap:Int)):=by omega
 have hk3:((i:Int)≤(i:Int)+1):=by omega
 have hk4:(0:Int)≤(i:Int)+1:=by omega
 have hk5:((i:Int)==(i:Int)+1)=false:=aE (by omega);obtain⟨HX,HR⟩:=Cg (show _∧_∧_ from⟨hR1s,hR1t,hgw⟩) hm;clear h hcs htake hlen hMs hcl hN hNl hR1 hR1s hR1t hgw h1 hm
 go_enter Tryz.func82,Tryz.ntmps82
 go_upto_region 5 with fail
 refine hg (fun _=>True) ?_;intro w8 bw hsz hsame;have T:=trivial;refine hu 0 (.slice (some ⟨g,0,none⟩) (q+1) cap) rfl T ?_;refine hu 1 (.int .i64 (i:Int)) rfl T ?_;refine hv 2 (.slice (some ⟨g,0,none⟩) i cap) rfl T (fun w' _=>A3 rfl rfl rfl rfl (vc g (q+1) cap i w' (by omega))) ?_;refine hu 3 (.slice (some ⟨g,0,none⟩) (q+1) cap) rfl T ?_;refine hu 4 (.int .i64 ((i:Int)+1)) rfl T ?_;refine hv 5 (.slice (some (if cap=i+1 then⟨g,0,none⟩ else⟨g,(i+1)*28,none⟩)) (q -i) (cap -(i+1))) rfl T (fun w' _=>A3 rfl rfl rfl rfl (by have:=ve g (q+1) cap (i+1) w' (by omega) (by omega);rw[Nat.add_sub_add_right] at this;exact this)) ?_;have hrun:=hap w8 hsame;clear hap;generalize(if cap=i+1 then(⟨g,0,none⟩:Addr) else⟨g,(i+1)*28,none⟩)=ad at hrun⊢;refine uC 6 rfl fun K hK=>Dt (.tmp 22) (.tmp 25) rfl rfl rfl hrun (hK _ _ T ?_)
 clear hK K;have R9:(w8.setRow g R1).heap[g]?=some (.cells R1 33 (0,0)):=setRow_heap w8 g _ R1 _ _ ((hsame g).trans HX.out.2.2);have k9:Kb (fun j=>j=g) w (w8.setRow g R1):=⟨bw.os,bw.tape,bw.output,by simp[World.setRow];omega,fun j hj hn=>(setRow_other w8 g j R1 hn).trans (hsame j)⟩;refine oS 7 (w8.setRow g R1) rfl T ?_;clear hrun T bw hsz hsame;generalize w8.setRow g R1=w9 at R9 k9⊢;obtain⟨Z,hZ,hcl⟩:=CG g (q*28) (cap -q) R1 w9 R9 (by rw[HX.out.1];omega);have hq1:¬(cap=q):=by omega
 have hq2:¬((cap:Int)=(q:Int)):=by omega
 have hq3:q+1 -q=1:=by omega
 have hq4:(q:Int)≤(q:Int)+1:=by omega
 simp only[Exit.then];refine‹∀(a:Act) (w:World),Code.wp _ _ _ a w→_› _ _ ?_
 go_wp2_with fail
 go_ret
 have hl1:R1.toList.length=cap*28:=by simpa using HX.out.1
 have hlq:(R1.toList.take (q*28)).length=q*28:=by rw[List.length_take];omega
 refine⟨rfl,⟨by rw[←HX.out.2.1];exact hlq,.inr ⟨g,cap,_,rfl,Nat.zero_le _,setRow_heap w9 g _ _ _ _ R9,by omega,HR.out,?_,?_⟩⟩,k9.row (.inl rfl) _⟩
 ·rw[List.size_toArray,bd,bd,List.length_drop,hlq,hZ,hl1];omega
 ·simp only[]
  rw[List.take_left' hlq];exact HX.out.2.1
theorem ie:∀(Ms:List Mg) (i j:Nat) (m:Mg),Ms[i]?=some m→j<28→(cC Ms)[i*28+j]?=m.row.toList[j]?
 |[],i,j,m,h,_=>by simp at h
 |a::r,0,j,m,h,hj=>by
  simp at h
  subst h;have h2:cC (a::r)=a.row.toList++cC r:=rfl;have hl:a.row.toList.length=28:=rfl;rw[h2,Nat.zero_mul,Nat.zero_add,List.getElem?_append_left (by omega)]
 |a::r,i+1,j,m,h,hj=>by
  have ih:=ie r i j m (by simpa using h) hj;have h2:cC (a::r)=a.row.toList++cC r:=rfl;have hl:a.row.toList.length=28:=rfl;rw[h2,List.getElem?_append_right (by omega),hl,show(i+1)*28+j -28=i*28+j by omega];exact ih
theorem pk{P:Nat→Prop}{w:World}:∀{Ms:List Mg} {ys:List (Mg×Ls)},eq P w Ms ys→∀u∈cC Ms,u.oneCell'=true
 |[],_,_,u,hu=>by simp[cC] at hu
 |m::r,y::ys,h,u,hu=>by
  have h2:cC (m::r)=m.row.toList++cC r:=rfl;rw[h2,List.mem_append] at hu;rcases hu with hu|hu
  ·exact(Array.all_eq_true_iff_forall_mem.1 h.1.2.one) u (by simpa using hu)
  ·exact pk h.2 u hu
 |_::_,[],h,_,_=>h.elim
theorem CnB.del{P X:Nat→Prop}{C:Nat}{ms:List (Mg×Ls)}{ids:List Int}{cur:Option (Int×Int)}{out:List UInt8}{iv cv bp bv:Value}{Ms:List Mg}{w w4:World}{g q cap i:Nat}(h:CnB P X C ms ids cur out (.slice (some ⟨g,0,none⟩) (q+1) cap) iv cv bp bv Ms w)
  {R:Array Value} (hC:w.heap[C]?=some (.cells R 81 (0,0))) (hi:i≤q)
  (hown:w4.ownsRow 0 33 28 (.slice (some ⟨g,0,none⟩) q cap) q (cC (Ms.eraseIdx i))) (hk:∀j,j≠g→j<w.heap.size→w4.heap[j]?=w.heap[j]?) (hs:w.heap.size≤w4.heap.size):
  CnB P X C (ms.eraseIdx i) ids cur out (.slice (some ⟨g,0,none⟩) q cap) iv cv bp bv (Ms.eraseIdx i) w4:=by
 have K:=h.parts (P':=P) (X':=X) (Y:=fun j=>j=g) (w':=w4) hC (fun j _ h2 h3 h4=>⟨hk j h2 h4,h3,Iff.rfl⟩) (fun j e=>by rw[e];exact h.xw g rfl);have k2:=K.im fun j hj e=>h.wi (g:=j) (by rw[e];rfl) hj
 have k3:=K.bw fun j hj e=>h.wb (g:=j) (by rw[e];rfl) hj
 have hl:ms.length=q+1:=by
  rcases h.own.2 with⟨hv,_⟩|⟨g',cap',x,hv,_⟩
  ·cases hv
  ·injection hv with _ e1 _
   exact e1.symm
 have hl2:(ms.eraseIdx i).length=q:=by rw[List.length_eraseIdx_of_lt (by omega)];omega
 exact⟨by rw[hl2];exact hown,K.msg.erase i,k2.1,h.nd,K.cu,h.bq,k3.1,h.xw,k2.2,k3.2,h.xC,h.xP,fun j q=>Nat.lt_of_lt_of_le (h.xl j q) hs⟩
theorem gx{α β:Type}(f:α→β):∀(l:List α) (i:Nat),(l.eraseIdx i).map f=(l.map f).eraseIdx i
 |[],_=>by simp
 |_::_,0=>rfl
 |_::l,i+1=>by simp[gx f l i]
theorem C2{w:World}{r c i:Nat}{es:Array MapEntry}{ids:List Int}{k:Int}(hb:w.heap[r]?=some (.map es c))(he:es.toList.map (fun e=>(e.key,e.val))=ids.map (fun k=>(Value.int .i64 k,Value.agg #[])))(hnd:ids.Nodup)(hi:ids[i]?=some k)(ty:TypeId):
  (Builtin.delete_ #[74,3] ty #[.map (some r),.int .i64 k]).run Tryz.prog w=.ok (.tuple #[]) {w with heap:=w.heap.setIfInBounds r (.map (es.eraseIdxIfInBounds i) c)}:=by
 have hkey:∀j:Int,MapKept.IsKey (.int .i64) (.int .i64 j):=fun j=>by simp[MapKept.IsKey]
 have hk:Tryz.prog.underlying 3=some (.int .i64):=by kernel_rfl
 have hc:(Instr.checkKey es.isEmpty 10000 3 (.int .i64 k)).run Tryz.prog w=.ok () w:=MapKept.run_checkKey (k:=.int .i64 k) hk (hkey k) es.isEmpty 9999;have hf:∃v,Instr.findNow (.int .i64) (.int .i64 k) es.toList 0=some (some (i,v)):=by
  rcases MapKept.findNow_spec (hkey k) es.toList 0 (fun x hx=>by obtain⟨k',_,e,_⟩:=jp he hx;rw[e];exact hkey k') with⟨_,h2⟩|⟨j,e,h1,h2,h3⟩
  ·obtain⟨x,hx,e⟩:=A2 he (List.mem_of_getElem? hi)
   exact absurd e (h2 x hx)
  ·refine⟨e.val,?_⟩
   rw[h1,Nat.zero_add];have hj:ids[j]?=some k:=by
    have q:(es.toList.map (fun e=>(e.key,e.val)))[j]?=some (e.key,e.val):=by rw[List.getElem?_map,h2];rfl
    rw[he,List.getElem?_map] at q;obtain⟨k',hk',e'⟩:=aV.1 q;have:=congrArg Prod.fst e';simp only[h3] at this;cases this;exact hk'
   have hjl:=(List.getElem?_eq_some_iff.1 hj).1;rw[(List.getElem?_inj hjl hnd).1 (hj.trans hi.symm)]
 obtain⟨v,hf⟩:=hf
 simp[Builtin.delete_,run_underlying (show Tryz.prog.underlying 74=some (.map 3 163) by kernel_rfl),MapKept.run_getObj_map hb,hc,MapKept.run_findKey hk hf,MapKept.run_setObj_map _ hb,Result.andThen]
theorem Dm{es:Array MapEntry}{ids:List Int}(he:es.toList.map (fun e=>(e.key,e.val))=ids.map (fun k=>(Value.int .i64 k,Value.agg #[]))){i:Nat}(hi:i<ids.length):(es.eraseIdxIfInBounds i).toList.map (fun e=>(e.key,e.val))=(ids.eraseIdx i).map (fun k=>(Value.int .i64 k,Value.agg #[])):=by
 have hl:es.size=ids.length:=by have:=congrArg List.length he;simpa using this
 rw[gx,←he,←gx]
 congr 1
 simp[Array.eraseIdxIfInBounds,hl,hi]
theorem Du{P:Program}{o:Oper}{a:Act}{K:Act→World→Prop}{Q:Exit→Act→World→Prop}{w w':World}(s x:Operand){t u:TypeId}{v y r:Value}(ho:o.op=.call {callee:=.builtin .delete,args:=#[s,x],argTypes:=#[t,u]})(hs:a.eval s=v)(hx:a.eval x=y)
  (hr:∀ty,(Builtin.delete_ #[t,u] ty #[v,y]).run P w=.ok r w') (h:K (a.put o.dst r) w'):o.wp P a w K Q:=by
 unfold Oper.wp execOp;simp only[ho,resolve,invoke,builtin,Sem.run_bind,Sem.run_pure,Result.andThen_ok,List.map_toArray,List.map_cons,List.map_nil,hs,hx,hr];exact h
theorem sA(P X:Nat→Prop)(C:Nat)(s:Cs)(i:Nat)(y:Mg×Ls)(w:World)(h:dc P X C s w)(hy:s.ms[i]?=some y)(hlen:s.ms.length≤1000):
  Calls Tryz.prog 43 #[.pointer (some ⟨C,0,none⟩),.int .i64 (i:Int)] w fun e w'=>(∃m:Mg,e=.returned (.agg m.row)∧m.pl=y.1∧LsP (fun g=>P g∧¬X g) w' m y.2)∧dc P X C {s with ms:=s.ms.eraseIdx i} w'∧Kb X w w':=by
 obtain⟨wv,iv,cv,bp,bv,Ms,hr,hb⟩:=h;obtain⟨m,hMi,hpl,hls⟩:=hb.msg.get hy;have hil:=(List.getElem?_eq_some_iff.1 hy).1;obtain⟨q,hq⟩:∃q,s.ms.length=q+1:=⟨s.ms.length -1,by omega⟩;obtain⟨g,cap,rfl⟩:∃g cap,wv=.slice (some ⟨g,0,none⟩) (q+1) cap:=by
  obtain⟨g,cap,e,_⟩:=hb.own.form (by omega);exact⟨g,cap,by rw[e,hq]⟩
 have hiq:i≤q:=by omega
 have hkey:s.ids[i]?=some y.1.id:=by show(s.ms.map (·.1.id))[i]?=_;rw[List.getElem?_map,hy];rfl
 obtain⟨r,es,c,rfl,hri,he⟩:∃r es c,iv=.map (some r)∧w.heap[r]?=some (.map es c)∧es.toList.map (fun e=>(e.key,e.val))=s.ids.map (fun k=>(Value.int .i64 k,Value.agg #[])):=by
  rcases hb.im with⟨_,h0⟩|h
  ·rw[h0] at hkey;cases hkey
  ·exact h
 have hid:m.id=y.1.id:=by rw[←hpl];rfl
 have uC:=pk hb.msg;replace hb:=hb.kept hr (P':=fun g=>P g∧g<w.heap.size) (fun g _ hp hl=>⟨rfl,⟨hp,hl⟩,Iff.rfl⟩) hb.xC (fun g hg=>⟨hb.xP g hg,hb.xl g hg⟩) hb.xl;have hrange:∀W:World,W.ownsRow 0 33 28 (.slice (some ⟨g,0,none⟩) (q+1) cap) (q+1) (cC Ms)→W.rangeAt g (i*28) m.row.toList:=fun W hW j v hj=>by
  have hjl:j<28:=(List.getElem?_eq_some_iff.1 hj).1;have hc:=hW.cells (g:=g) rfl (i*28+j) v (by rw[ie Ms i j m hMi hjl];exact hj);rw[show(⟨g,0,none⟩:Addr).add (i*28+j)=⟨g,i*28+j,none⟩ by simp[Addr.add_lit]] at hc;exact hc
 obtain⟨D,hD⟩:=nmm m.row;have hD1:D.all (·.oneCell')=true:=by rw[←hD];exact hls.one
 have hD2:D.size=28:=by rw[←hD];rfl
 have hD0:D[0]?=some (.int .i64 y.1.id):=by rw[←hD,←hid];rfl
 rw[hD] at hrange;obtain⟨PR,hPR⟩:∃PR:Ending→World→Prop,PR=fun e w'=>(∃m:Mg,e=.returned (.agg m.row)∧m.pl=y.1∧LsP (fun g=>P g∧¬X g) w' m y.2)∧dc P X C {s with ms:=s.ms.eraseIdx i} w'∧Kb X w w':=⟨_,rfl⟩
 rw[←hPR];have HPR:=Lib.hid hPR;clear hPR;have b1:=alb w Zm 33;have x1:=alz w Zm 33;have r1:=bk b1 hr;have h1:=hb.bel hr b1;have hX1:∀j,X j→j<w.heap.size:=hb.xl;have hi1:=bk b1 hri;have hw1:=hb.own;obtain⟨HD,HD0,HD1,HD2,HE,HON,HKEY,HPL,HLS,HX1,HNO⟩:=CA hD hD0 hD1 hD2 he uC hkey hpl hls hX1 hq;have hk1:((i:Int)<((q+1:Nat):Int)):=by omega
 have hk0:(0:Int)≤(i:Int):=by omega
 have hwr:IntKind.i64.wrap ((i:Int)+1)=(i:Int)+1:=by rw[aK];omega
 obtain⟨HB1,HI1,HSZ⟩:=Ch h1 hi1 (show(w.alloc (.cells Zm 33)).heap.size=w.heap.size+1 by simp);clear hr hb hMi hpl hls hid hD hD1 hD2 hD0 he uC hkey hil hri hq hy hX1 hi1 h1 hw1
 go_enter Tryz.func43,Tryz.ntmps43
 go_upto_region 1 with fail
 generalize w.alloc (.cells Zm 33)=w1 at b1 x1 r1 HB1 HI1 HSZ⊢;have c1:=cval r1 1 (.slice (some ⟨g,0,none⟩) (q+1) cap);have hrng:=hrange w1 (by have:=HB1.out.own;rw[HNO.out] at this;exact this);have y2:=alz w1 Zm 33;have e2:=setRow_heap (w1.alloc (.cells Zm 33)) w1.heap.size _ D _ _ y2;have g2:Below w1.heap.size w1 ((w1.alloc (.cells Zm 33)).setRow w1.heap.size D):=bm ((aA _ _).alloc (ah _) _) (ah _) D;obtain⟨Y2,E2,G2⟩:=Ch y2 e2 g2;clear y2 e2 g2 hrange
 go_wp2_with (first
  |(refine wpList_load_mid rfl 33 (.tmp 11) rfl g (i*28) (by rfl) D.toList _ hrng Tryz.underlying33 rfl (by rw[Array.length_toList,HD2.out];rfl) ?_;rw[Array.toArray_toList])
  |(refine bh rfl 33 (.tmp 5) (.tmp 12) rfl w1.heap.size 33 Zm D (by rfl) (by rfl) Y2.out (by rw[HD2.out];rfl) (by rw[HD2.out];rfl) HD1.out ?_;generalize hw2:(w1.alloc (.cells Zm 33)).setRow w1.heap.size D=w2 at E2 G2⊢;clear hw2 Y2;have c1':=cval (bk G2.out r1) 1 (.slice (some ⟨g,0,none⟩) (q+1) cap)))
 have h2:=HB1.out.bel r1 G2.out;have r2:=bk G2.out r1;have x2:=bk G2.out x1;have i2:=bk G2.out HI1.out;have b2:=cM b1 G2.out;have hown2:w2.ownsRow 0 33 28 (.slice (some ⟨g,0,none⟩) (q+1) cap) (q+1) (cC Ms):=by have:=h2.own;rw[HNO.out] at this;exact this
 have kd:=CH g q cap i Ms w2 hown2 hiq HON.out;obtain⟨HB2,HM5⟩:=Cg h2 (ah w1.heap.size);clear HB1 HI1 G2 hown2 h2 c1 c1' hrng;refine ag kd ?_;rintro e w3 ⟨rfl,hown3,kb3⟩;have h2:=HB2.out;have hgX:=h2.xw g rfl;have hgl:=HX1.out g hgX;have hgC:C≠g:=fun e=>h2.neC r2 (g:=g) (.inl rfl) e.symm
 have hgr:r≠g:=fun e=>h2.wi (g:=g) rfl (by rw[←e];rfl)
 have hrl:=HX1.out r (h2.xi r rfl);have hrC:r≠C:=fun e=>h2.neC r2 (g:=r) (.inr (.inr rfl)) e
 have hCl:=HX1.out C h2.xC;have hw1s:=HSZ.out;have r3:=kb3.at r2 hgC;have x3:=kb3.at x2 (show ¬w.heap.size=g by omega);have e3:=kb3.at E2 (show ¬w1.heap.size=g by omega);have i3:=kb3.at i2 hgr;have h3:=h2.del r2 hiq hown3 (fun j hj hl=>kb3.block j hl hj) kb3.size;have k3:Kb X w w3:=(Kb.of b2).step kb3 fun j _ e=>by rw[e];exact hgX
 have z3:=aj r3 1;have c3:=cval r3 1 (.slice (some ⟨g,0,none⟩) (q+1) cap);have r4:=cq (i:=1) (u:=.slice (some ⟨g,0,none⟩) q cap) r3;have h4:=h3.put r3 1 (.slice (some ⟨g,0,none⟩) q cap);have x4:=(heap_setCell_other w3 ⟨C,1,none⟩ w.heap.size (.slice (some ⟨g,0,none⟩) q cap) (by show w.heap.size≠C;omega)).trans x3;have e4:=(heap_setCell_other w3 ⟨C,1,none⟩ w1.heap.size (.slice (some ⟨g,0,none⟩) q cap) (by show w1.heap.size≠C;omega)).trans e3;have i4:=(heap_setCell_other w3 ⟨C,1,none⟩ r (.slice (some ⟨g,0,none⟩) q cap) hrC).trans i3;have k4:Kb X w (w3.setCell ⟨C,1,none⟩ (.slice (some ⟨g,0,none⟩) q cap)):=k3.set (.inl h2.xC) _;obtain⟨R4,H4,X4,E4,I4,K4⟩:=Cy r4 h4 x4 e4 i4 k4;clear r4 h4 x4 e4 i4 k4 k3 h3 i3 e3 x3 kd hown3 kb3 b2 i2 x2 E2 h2 HB2 r2;have hFM:w1.heap.size≠C∧w1.heap.size≠r∧w.heap.size≠C∧w.heap.size≠r:=⟨by omega,by omega,by omega,by omega⟩;have HFM:=Lib.hid hFM;clear hFM hrl hCl hgl hgX hgC hgr hw1s HSZ HM5
 go_upto_region 3 with fail
 generalize w3.setCell ⟨C,1,none⟩ (.slice (some ⟨g,0,none⟩) q cap)=w4 at R4 H4 X4 E4 I4 K4⊢;clear z3 r3 c3;generalize w1.heap.size=F at E4 HFM⊢;refine hg (fun w'=>w'.cell? ⟨C,2,none⟩=some (.map (some r))∧w'.cell? ⟨F,0,none⟩=some (.int .i64 y.1.id)) ?_;intro w5 bw hsz hsame;have T:w5.cell? ⟨C,2,none⟩=some (.map (some r))∧w5.cell? ⟨F,0,none⟩=some (.int .i64 y.1.id):=⟨(aq ((hsame C).trans R4.out) 2).trans rfl,(aq ((hsame F).trans E4.out) 0).trans HD0.out⟩;refine hu 0 (.pointer (some ⟨C,0,none⟩)) rfl T ?_;refine hu 1 (.pointer (some ⟨C,0,none⟩)) rfl T ?_;refine hu 2 (.pointer (some ⟨C,2,none⟩)) rfl T ?_;refine hl 3 ⟨C,2,none⟩ (.map (some r)) rfl T (fun _ q=>q.1) ?_;refine hu 4 (.pointer (some ⟨F,0,none⟩)) rfl T ?_;refine hl 5 ⟨F,0,none⟩ (.int .i64 y.1.id) rfl T (fun _ q=>q.2) ?_;have i5:w5.heap[r]?=some (.map es c):=(hsame r).trans I4.out;have hrun:=fun ty=>C2 i5 HE.out H4.out.nd HKEY.out ty
 have hot:∀j,j≠r→({w5 with heap:=w5.heap.setIfInBounds r (.map (es.eraseIdxIfInBounds i) c)}:World).heap[j]?=w4.heap[j]?:=fun j hj=>(show _=w5.heap[j]? by simp[Ne.symm hj]).trans (hsame j)
 have i6:({w5 with heap:=w5.heap.setIfInBounds r (.map (es.eraseIdxIfInBounds i) c)}:World).heap[r]?=some (.map (es.eraseIdxIfInBounds i) c):=by have:=(gl i5);simp[this]
 have hs6:({w5 with heap:=w5.heap.setIfInBounds r (.map (es.eraseIdxIfInBounds i) c)}:World).heap.size=w4.heap.size:=by simp[hsz]
 have k6:Kb X w4 {w5 with heap:=w5.heap.setIfInBounds r (.map (es.eraseIdxIfInBounds i) c)}:=⟨bw.os,bw.tape,bw.output,by rw[hs6];exact ah _,fun j _ hn=>hot j fun e=>hn (by rw[e];exact H4.out.xi r rfl)⟩;generalize({w5 with heap:=w5.heap.setIfInBounds r (.map (es.eraseIdxIfInBounds i) c)}:World)=w6 at hrun hot i6 hs6 k6;have r6:=(hot C hrC.symm).trans R4.out;have e6:=(hot F HFM.out.2.1).trans E4.out;have x6:=(hot w.heap.size HFM.out.2.2.2).trans X4.out;have T6:w6.cell? ⟨C,2,none⟩=some (.map (some r))∧w6.cell? ⟨F,0,none⟩=some (.int .i64 y.1.id):=⟨(aq r6 2).trans rfl,(aq e6 0).trans HD0.out⟩;have h6:=H4.out.lay R4.out (ids':=s.ids.eraseIdx i) (.inr ⟨r,_,c,rfl,i6,Dm HE.out (List.getElem?_eq_some_iff.1 HKEY.out).1⟩) (H4.out.nd.eraseIdx i) hot hs6;obtain⟨K6,H6,R6,E6,X6⟩:=Cj (K4.out.trans k6) h6 r6 e6 x6;clear hot i6 hs6 k6 r6 e6 x6 h6 R4 H4 X4 E4 I4 K4 i5 bw hsz hsame;refine uC 6 rfl fun K hK=>Du (.tmp 27) (.tmp 29) rfl rfl rfl hrun (hK _ _ T6 (ba (by kernel_rfl) ?_ _))
 clear hrun T T6 hK K;simp only[Exit.then];refine‹∀(a:Act) (w:World),Code.wp _ _ _ a w→_› _ _ ?_;have k7:Kb X w (w6.setRow w.heap.size D):=K6.out.row (.inr (ah _)) D;have r7:=(setRow_other w6 w.heap.size C D HFM.out.2.2.1.symm).trans R6.out;have t7:=setRow_heap w6 w.heap.size _ D _ _ X6.out;have h7:CnB (fun g=>P g∧g<w.heap.size) X C (s.ms.eraseIdx i) (s.ids.eraseIdx i) s.cur s.out (.slice (some ⟨g,0,none⟩) q cap) (.map (some r)) cv bp bv (Ms.eraseIdx i) (w6.setRow w.heap.size D):=
  H6.out.kept R6.out (fun j _ hp hl=>⟨setRow_other w6 w.heap.size j D (fun e=>by have:=hp.2;omega),hp,Iff.rfl⟩) H6.out.xC H6.out.xP (fun j hj=>by simpa[World.setRow] using H6.out.xl j hj)
 obtain⟨K7,R7,T7,H7⟩:=Ci k7 r7 t7 h7;clear k7 r7 t7 h7 H6 R6 K6 HKEY HE HON
 go_wp2_with (first
  |(refine bg rfl 33 (.tmp 5) rfl F 33 D (0,0) (by rfl) E6.out _ Tryz.underlying33 rfl (by rw[HD2.out];rfl) ?_)
  |(refine bh rfl 33 (.tmp 4) (.tmp 30) rfl w.heap.size 33 Zm D (by rfl) (by rfl) X6.out (by rw[HD2.out];rfl) (by rw[HD2.out];rfl) HD1.out ?_;generalize w6.setRow w.heap.size D=w7 at K7 R7 T7 H7⊢))
 have FIN:PR (.returned (.agg D)) w7:=by
  rw[HPR.out];refine⟨⟨m,by rw[HD.out],HPL.out,HLS.out.kept fun j hj hl=>⟨K7.out.block j hl hj.2,hj⟩⟩,⟨_,_,_,_,_,Ms.eraseIdx i,R7.out,?_⟩,K7.out⟩;have:=H7.out.kept R7.out (P':=P) (X':=X) (fun g _ hp _=>⟨rfl,hp.1,Iff.rfl⟩) H7.out.xC (fun g hg=>(H7.out.xP g hg).1) H7.out.xl
  rwa [show s.ids.eraseIdx i=Cs.ids {s with ms:=s.ms.eraseIdx i} from(gx _ _ _).symm] at this
 refine aH (v:=.agg D) ?_ ?_ FIN
 ·have hr:=aJ (P:=Tryz.prog) w7 w.heap.size 33 33 D (0,0) _ T7.out (show Tryz.prog.underlying 33=_ from Tryz.underlying33) (by rfl) (by rw[HD2.out];rfl)
  simp[results,Act.put,Tryz.f43]
  exact hr
 ·rfl
end Go.Proofs.YthpcpdplcicfoaaGreatDoor
