/- CoB, CoC, CoT, CoD. -/
import Derived.Lib.Builder
import Derived.Lib.UnsafeStr
import Derived.Lib.AppendStr
import Derived.Test.YtfhghdcbofbceaaGreatDoorX19
namespace Go.Proofs.YtfhghdcbofbceaaGreatDoor
open Go.RowKit Go.Lib
set_option maxRecDepth 100000
set_option maxHeartbeats 16000000
theorem Tryz.cBuilder:(Tryz.prog.info? 60).map (fun i=>decide (i.size≠0))=some true:=by kernel_rfl
theorem Tryz.cLies:liesAt Tryz.prog Tryz.prog.depth 62 (9/Tryz.prog.cellsOf 62) 4 60 1=true:=by kernel_rfl
theorem Tryz.cCells:Tryz.prog.cellsOf 5=1:=by kernel_rfl
theorem jF{P:Program}(w:World)(t u ty e:TypeId)(i:TypeInfo)(ht:P.underlying t=some (.slice e))(hu:P.underlying u=some .string)(hi:P.info? e=some i)(hz:i.zero=some (.int .u8 0))(hsize:i.size=1)(hby:i.bytes=1)
  (v:Value) (n:Nat) (xs:List Value) (hown:w.ownsRow 0 e 1 v n xs) (s:ByteArray) (h63:n+s.size≤maxLen) (hbytes:n+s.size≤140737488355328):
  ∃v' w',(Builtin.append_ #[t,u] ty #[v,.string s]).run P w=.ok v' w'∧w'.ownsRow 0 e 1 v' (n+s.size) (xs++strCells s)∧w.grownBy w' v.ownBlock∧∀g,v'.ownBlock=some g→v.ownBlock=some g∨g=w.heap.size:=by
 obtain⟨v',w',hr,h2,h3,h4⟩:=Lib.run_append_own_string (P:=P) w 0 t u ty e i ht hu hi hz hsize hby v n xs hown s h63 hbytes (Nat.zero_le _);have hsmall:n+s.size≤9223372036854775807:=by simp only[maxLen] at h63;omega
 have hxl:xs.length=n:=by simpa using hown.1
 refine⟨v',w',hr,h2,h3,fun g hg=>?_⟩;rcases hown.2 with⟨rfl,rfl⟩|⟨g0,cap,cur,rfl,hbg,hg0,hnc,hcm,hcs,htake⟩
 ·by_cases hm:s.size=0
  ·rw[h4.2 ⟨rfl,hm⟩] at hg
   cases hg
  ·have hr2:=run_append_nil_string (P:=P) w t u ty e i (.int .u8 0) ht hu hi hz s (by omega) (by omega) (by rw[hby];omega)
   rw[hr] at hr2
   injection hr2 with q1 q2
   rw[q1] at hg;exact .inr (by simpa[Value.ownBlock,eq_comm] using hg)
 ·by_cases hroom:n+s.size≤cap
  ·have hcs':cur.size=cap:=by simpa using hcs
   have hr2:=Lib.run_append_room_string (P:=P) w t u ty e i ht hu hi hsize g0 n cap cur hg0 s hroom (by omega);rw[hr] at hr2
   injection hr2 with q1 q2
   rw[q1] at hg;exact .inl hg
  ·have holds:∀j u,xs[j]?=some u→w.cell? ((⟨g0,0,none⟩:Addr).add j)=some u:=hown.cells (g:=g0) rfl
   have hr2:=Lib.run_append_grow_string (P:=P) w t u ty e i (.int .u8 0) ht hu hi hz ⟨g0,0,none⟩ n cap xs (by rw[hsize];simpa using hxl) holds s (by omega) (by omega) (by rw[hby];exact growslice_fits (by omega) (by omega));rw[hr] at hr2
   injection hr2 with q1 q2
   rw[q1] at hg;exact .inr (by simpa[Value.ownBlock,eq_comm] using hg)
theorem Dj(b:Nat)(w:World)(h0:w.cell? ⟨b,4,none⟩=some (.pointer (some ⟨b,4,none⟩))):
  Calls Tryz.prog 92 #[.pointer (some ⟨b,4,none⟩)] w fun e w'=>e=.returned (.tuple #[])∧w'=w:=by
 obtain⟨j,hj,_⟩:=aV.1 Tryz.cBuilder
 go_enter Tryz.func92,Tryz.ntmps92
 go_wp2
 rw[Lib.run_neq_ptr_same w _ Tryz.underlying57 hj]
 go_wp2
 go_end0
 exact⟨rfl,rfl⟩
theorem CZ(b:Nat)(w:World)(h0:w.cell? ⟨b,4,none⟩=some (.pointer none))(hsh:w.shape? b=some (62,9))(hfz:w.frozen? ⟨b,4,none⟩=false):
  Calls Tryz.prog 92 #[.pointer (some ⟨b,4,none⟩)] w fun e w'=>e=.returned (.tuple #[])∧w'=w.setCell ⟨b,4,none⟩ (.pointer (some ⟨b,4,none⟩)):=by
 obtain⟨j,hj,hjs⟩:=aV.1 Tryz.cBuilder;have hjs2:=of_decide_eq_true hjs;have r1:=Lib.run_to_unsafe (P:=Tryz.prog) w ⟨b,4,none⟩ Tryz.underlying57 Tryz.underlying153 hj hjs2 hsh (show 4<9 by decide);have r2:=Lib.run_from_unsafe (P:=Tryz.prog) w ⟨b,4,none⟩ Tryz.underlying153 Tryz.underlying57 hj hsh Tryz.cLies;clear hjs hjs2
 go_enter Tryz.func92,Tryz.ntmps92
 go_wp2
 rw[run_callFunc_extern Tryz.func111 (by kernel_rfl) (by kernel_rfl) (by kernel_rfl) (e:=Extern.AbiNoEscape.same) (by kernel_rfl)];rw[Lib.run_noEscape];simp only[Result.andThen];rw[Oper.upon_value]
 go_wp2
 go_end0
 exact⟨rfl,rfl⟩
theorem Dk(P X:Nat→Prop)(C:Nat)(s:Cs)(wv iv cv bp bv:Value)(Ms:List Mg)(w:World)(h:CnO P X C s wv iv cv bp bv Ms w):
  Calls Tryz.prog 92 #[.pointer (some ⟨C,4,none⟩)] w fun e w'=>e=.returned (.tuple #[])∧CnO P X C s wv iv cv (.pointer (some ⟨C,4,none⟩)) bv Ms w'∧Kb X w w'∧w'.heap.size=w.heap.size:=by
 rcases h.b.bq with hb|hb
 ·subst hb
  refine(CZ C w ((aq h.row 4).trans rfl) (by simp[World.shape?,h.row,lC]) (aj h.row 4)).mono ?_;rintro e w' ⟨rfl,rfl⟩;have k:=h.b.put h.row 4 (.pointer (some ⟨C,4,none⟩));exact⟨rfl,⟨cq (i:=4) (u:=.pointer (some ⟨C,4,none⟩)) h.row,k.own,k.msg,k.im,k.nd,k.cu,.inr rfl,k.bw,k.xw,k.xi,k.xb,k.xC,k.xP,k.xl⟩,(Kb.refl X w).set (.inl h.b.xC) _,by simp[World.setCell]⟩
 ·subst hb
  refine(Dj C w ((aq h.row 4).trans rfl)).mono ?_;rintro e w' ⟨rfl,rfl⟩;exact⟨rfl,h,Kb.refl _ _,rfl⟩
theorem iF{P:Program}{w:World}{ops:Array Oper}{rest:List Oper}{o:Oper}{a:Act}{Q:Exit→Act→World→Prop}(hgd:o.guard=none)(sl x:Operand)(t u:TypeId)
  (ho:o.op=.call {callee:=.builtin .append,args:=#[sl,x],argTypes:=#[t,u]})
  (e:TypeId) (i:TypeInfo) (ht:P.underlying t=some (.slice e)) (hu:P.underlying u=some .string) (hi:P.info? e=some i) (hz:i.zero=some (.int .u8 0)) (hsize:i.size=1) (hby:i.bytes=1)
  (v:Value) (n:Nat) (xs:List Value) (hs:a.eval sl=v) (hown:w.ownsRow 0 e 1 v n xs) (s:ByteArray) (hx:a.eval x=.string s) (h63:n+s.size≤maxLen) (hbytes:n+s.size≤140737488355328)
  (h:∀v' w',w'.ownsRow 0 e 1 v' (n+s.size) (xs++strCells s)→w.grownBy w' v.ownBlock→(∀g,v'.ownBlock=some g→v.ownBlock=some g∨g=w.heap.size)→wpList P ops Q rest (a.put o.dst v') w'):wpList P ops Q (o::rest) a w:=by
 refine aB hgd fun K hK=>?_
 obtain⟨v',w',hr,h2,h3,h4⟩:=jF (P:=P) w t u o.type e i ht hu hi hz hsize hby v n xs hown s h63 hbytes;unfold Oper.wp execOp;simp only[ho,resolve,invoke,builtin,Sem.run_bind,Sem.run_pure,Result.andThen_ok,List.map_toArray,List.map_cons,List.map_nil,hs,hx,hr];exact hK _ _ (h v' w' h2 h3 h4)
theorem px(P X:Nat→Prop)(C:Nat)(s:Cs)(wv iv cv bp bv:Value)(Ms:List Mg)(t:List UInt8)(w:World)(h:CnO P X C s wv iv cv bp bv Ms w)(hlen:s.out.length≤1099511627776)(hs:t.length≤8796093022208):
  Calls Tryz.prog 55 #[.pointer (some ⟨C,4,none⟩),.string ⟨t.toArray⟩] w fun e w'=>e=.returned (.tuple #[.int .i64 t.length,.nilIface])∧em P X C w {s with out:=s.out++t} w':=by
 obtain⟨i0,hi,hz0,hz1,hz2⟩:=info_parts Tryz.infoByte;have k1:=Dk P X C s wv iv cv bp bv Ms w h;generalize hPR:(em P X C w {s with out:=s.out++t}:World→Prop)=PR;have HPR:=hid hPR;clear h hPR;have hs2:(⟨t.toArray⟩:ByteArray).size=t.length:=Lib.size_mk _
 go_enter Tryz.func55,Tryz.ntmps55
 go_wp2_with (go_at_call 92;refine k1.mono ?_)
 rintro e w1 ⟨rfl,h1,kb1,hs1⟩;have c4:=cval h1.row 4 (.pointer (some ⟨C,4,none⟩));have c5:=cval h1.row 5 bv;have hbv:=h1.b.bw;obtain⟨H1,KB1,HS1⟩:=Ch h1 kb1 hs1;clear h1 kb1 hs1 k1
 go_wp2_with (at_builtin;refine iF rfl _ _ 58 9 rfl 5 i0 Tryz.underlying58 Tryz.underlying9 hi hz0 hz1 hz2 _ _ _ rfl hbv ⟨t.toArray⟩ rfl ?c3 ?c4 ?_)
 case c3=>unfold maxLen;omega
 case c4=>omega
 intro v' w2 hown' hgrow hat;obtain⟨ao,n',cap,rfl⟩:∃ao n' cap,v'=.slice ao n' cap:=by
  rcases hown'.2 with⟨hv,_⟩|⟨g,cap,cur,hv,_⟩
  ·exact⟨_,_,_,hv⟩
  ·exact⟨_,_,_,hv⟩
 obtain⟨V,hV⟩:=nmm (Value.slice ao n' cap);have h1:=H1.out;have hbC:bv.ownBlock≠some C:=fun q=>h1.b.neC h1.row (.inr (.inl q)) rfl
 have hCl:=(gl h1.row);have hb2:Hc w2 C (lC s.inn wv iv cv (.pointer (some ⟨C,4,none⟩)) bv s.cl) 62:=(hgrow.block C hCl (fun e=>hbC e.symm)).trans h1.row;have d4:=cval hb2 4 (.pointer (some ⟨C,4,none⟩));have d5:=cval hb2 5 bv;have f5:w2.frozen? ⟨C,5,none⟩=false:=aj hb2 5;have FIN:PR (w2.setCell ⟨C,5,none⟩ V):=by
  rw[hV,mY,←kU] at hown';simp only at hown';have hown':w2.ownsRow 0 5 1 V (s.out.length+t.length) (bV (s.out++t)):=by simpa using hown'
  rw[hV] at hat;rw[←HPR.out];have hnew:∀g,V.ownBlock=some g→bv.ownBlock=some g∨w1.heap.size≤g:=fun g hg=>(hat g hg).imp id (by rintro rfl;exact ah _)
  have hk:∀g,g≠C→¬bv.ownBlock=some g→P g→g<w1.heap.size→(w2.setCell ⟨C,5,none⟩ V).heap[g]?=w1.heap[g]?∧(P g∨V.ownBlock=some g)∧(X g↔(X g∨V.ownBlock=some g)):=fun g hg hnb hp hl=>
   ⟨(aX w2 ⟨C,5,none⟩ V g hg).trans (hgrow.block g hl (fun e=>hnb e.symm)),.inl hp,⟨.inl,fun q=>by
    rcases q with q|q
    ·exact q
    ·rcases hnew g q with q|q
     ·exact absurd q hnb
     ·omega⟩⟩
  have K:=h1.b.parts (P':=fun g=>P g∨V.ownBlock=some g) (X':=fun g=>X g∨V.ownBlock=some g) (Y:=fun g=>bv.ownBlock=some g) (w':=w2.setCell ⟨C,5,none⟩ V) h1.row hk h1.b.xb;have k1:=K.own fun g hg q=>h1.b.wb hg q
  have k2:=K.im fun g hg q=>h1.b.bi q hg
  have kb2:Kb X w (w2.setCell ⟨C,5,none⟩ V):=((KB1.out.grown hgrow fun g hg=>.inl (h1.b.xb g hg)).set (.inl h1.b.xC) V);refine⟨_,_,⟨wv,iv,cv,.pointer (some ⟨C,4,none⟩),V,Ms,cq (i:=5) (u:=V) hb2,k1.1,K.msg,k2.1,h1.b.nd,K.cu,.inr rfl,?_,k1.2,k2.2,fun g hg=>.inr hg,.inl h1.b.xC,(fun g hg=>hg.imp (h1.b.xP g) id),fun g hg=>?_⟩,kb2,fun j hj q=>?_,fun j hj q=>?_⟩
  ·refine gM (by rw[xn];exact hown') fun g hg=>aX w2 ⟨C,5,none⟩ V g ?_
   intro e;have e':g=C:=e;rw[e'] at hg;rcases hnew C hg with q|q
   ·exact hbC q
   ·omega
  ·have hsz:w1.heap.size≤(w2.setCell ⟨C,5,none⟩ V).heap.size:=by simpa[World.setCell] using hgrow.size
   rcases hg with q|q
   ·exact Nat.lt_of_lt_of_le (h1.b.xl g q) hsz
   ·have:=(hown'.lt g q).2
    simpa[World.setCell] using this
  ·rcases q with q|q
   ·exact q
   ·rcases hnew j q with q|q
    ·exact h1.b.xb j q
    ·have:=HS1.out;omega
  ·rcases q with q|q
   ·exact q
   ·rcases hnew j q with q|q
    ·exact h1.b.xP j (h1.b.xb j q)
    ·have:=HS1.out;omega
 have HF:=hid FIN;clear FIN c4 c5 hgrow hown' hat hbv h1 hbC hCl hb2 H1 KB1 HS1 HPR;subst hV
 go_wp2
 go_ret2
 exact⟨rfl,HF.out⟩
theorem dM{C:Nat}{inn:List UInt8}{wv iv cv bp bv:Value}{cl:Bool}{W:World}(h:Hc W C (lC inn wv iv cv bp bv cl) 62):
  W.cell? ⟨C,0,none⟩=some (.string ⟨inn.toArray⟩)∧W.cell? ⟨C,1,none⟩=some wv∧W.cell? ⟨C,2,none⟩=some iv∧W.cell? ⟨C,3,none⟩=some cv∧W.cell? ⟨C,8,none⟩=some (.bool cl):=
 ⟨(aq h 0).trans rfl,(aq h 1).trans rfl,(aq h 2).trans rfl,(aq h 3).trans rfl,(aq h 8).trans rfl⟩
def Cs.shut(s:Cs):Cs:={out:=s.out,cl:=true}
theorem sa(P X:Nat→Prop)(C:Nat)(s:Cs)(w:World)(h:dc P X C s w):
  Calls Tryz.prog 95 #[.pointer (some ⟨C,0,none⟩)] w fun e w'=>e=.returned (.tuple #[])∧em P X C w s.shut w':=by
 obtain⟨wv,iv,cv,bp,bv,Ms,h,hb⟩:=h;obtain⟨c0,c1,c2,c3,c8⟩:=dM h;have z0:=aj h 0;have z1:=aj h 1;have z2:=aj h 2;have z3:=aj h 3;have z8:=aj h 8;have FIN:em P X C w s.shut (((((w.setCell ⟨C,0,none⟩ (Es)).setCell ⟨C,1,none⟩ (Sn)).setCell ⟨C,2,none⟩ (.map none)).setCell ⟨C,3,none⟩ (.pointer none)).setCell ⟨C,8,none⟩ (.bool true)):=by
  have h1:=cq (i:=0) (u:=Es) h;have h2:=cq (i:=1) (u:=Sn) h1;have h3:=cq (i:=2) (u:=.map none) h2;have h4:=cq (i:=3) (u:=.pointer none) h3;have h5:=cq (i:=8) (u:=.bool true) h4;have k:=((((hb.put h 0 (Es)).put h1 1 (Sn)).put h2 2 (.map none)).put h3 3 (.pointer none)).put h4 8 (.bool true);refine⟨P,X,⟨Sn,.map none,.pointer none,bp,bv,[],h5,World.ownsRow_nil _ _ _ _,trivial,.inl ⟨rfl,rfl⟩,List.nodup_nil,rfl,k.bq,k.bw,(fun g hg=>by cases hg),(fun g hg=>by cases hg),k.xb,k.xC,k.xP,k.xl⟩,
   ((((((Kb.refl X w).set (.inl k.xC) _).set (.inl k.xC) _).set (.inl k.xC) _).set (.inl k.xC) _).set (.inl k.xC) _),fun _ _ q=>q,fun _ _ q=>q⟩
 have HF:=hid FIN;clear FIN h hb
 go_enter Tryz.func95,Tryz.ntmps95
 go_wp2_with fail
 first
  |refine bodyPost_end (results_none rfl _ _ _) rfl ?_
  |refine aH (results_none rfl _ _ _) rfl ?_
 exact⟨rfl,HF.out⟩
def Cs.put(s:Cs)(t:List UInt8):Cs:={s with out:=s.out++t}
theorem jM{m:Mg}{l:Ls}(h:(cR m l).2=0):(cR m l).1.length≤65536:=(iC h).2.2.2
theorem su(w0:World)(P X:Nat→Prop)(C:Nat)(s:Cs)(m:Mg)(l:Ls)(w:World)(h:dc P X C s w)(hH:Hm w0 X w)(hm:MgM w m l)(hk:LsOk m l)(hlen:s.out.length≤1099511627776):
  Calls Tryz.prog 61 #[.pointer (some ⟨C,0,none⟩),.agg m.row] w fun e w'=>e=.returned (.bool (decide ((cR m l).2=0)))∧em P X C w (if(cR m l).2=0 then s.put (cR m l).1 else s) w':=by
 have b:=alb w m.row 32;have r:=alz w m.row 32;have kw:=fa m l _ (hm.below b) hk (hH.now.below b);have h1:=h.bel b;have hlt:=jM (m:=m) (l:=l);obtain⟨B,hB⟩:=nmm m.row;have hsz:B.size=28:=by rw[←hB];rfl
 obtain⟨⟨t,c⟩,hW⟩:∃W,cR m l=W:=⟨_,rfl⟩;rw[hW] at kw hlt⊢;simp only at kw hlt⊢;rw[hB] at kw b r h1⊢;obtain⟨RB,hRB⟩:=nmm (decide (c=0));obtain⟨S',hS'⟩:=nmm (if c=0 then s.put t else s);rw[hRB,hS'];obtain⟨HRB,HS⟩:=Cg hRB hS';clear hRB hS';obtain⟨HZ,H1⟩:=Cg hsz h1;clear hB hsz hm hk hH h h1 hW
 go_enter Tryz.func61,Tryz.ntmps61
 go_upto_region 1 with fail
 generalize w.alloc (.cells B 32)=w1 at b r kw H1⊢
 go_wp2_with (refine ldM (.tmp 3) r HZ.out ?_)
 refine ag kw ?_;rintro e w2 ⟨rfl,hb⟩;obtain⟨wv,iv,cv,bp,bv,Ms,h2⟩:=H1.out.bel hb;have b2:=btt b hb;clear kw hb r b H1 HZ
 by_cases hc:c=0
 ·subst hc
  have ks:=px P X C s wv iv cv bp bv Ms t w2 h2 hlen (by have:=hlt rfl;omega);have HB:=hid b2;obtain rfl:RB=true:=by rw[←HRB.out];rfl
  obtain rfl:S'=s.put t:=by rw[←HS.out];rfl
  clear hlt h2 b2 HRB HS
  go_wp2_with fail
  refine ag ks ?_;rintro e w3 ⟨rfl,hT⟩;have FIN:em P X C w (s.put t) w3:=em.trans ⟨Kb.of HB.out,fun _ _ q=>q,fun _ _ q=>q⟩ hT;have HF:=hid FIN;clear FIN hT ks HB
  go_wp2_with fail
  go_ret
  exact⟨rfl,HF.out⟩
 ·have e0:(c==0)=false:=aE hc
  have e1:(c !=0)=true:=by rw[bne,e0];rfl
  obtain rfl:RB=false:=by rw[←HRB.out];exact an hc
  obtain rfl:S'=s:=by rw[←HS.out];exact if_neg hc
  have FIN:em P X C w S' w2:=⟨P,X,h2.at,Kb.of b2,fun _ _ q=>q,fun _ _ q=>q⟩;have HF:=hid FIN;clear FIN hlt h2 b2 hc HRB HS
  go_wp2_with fail
  go_ret
  exact⟨rfl,HF.out⟩
def oM:Mg:={op:=24,code:=2,oid:=DP}
def Dx:List UInt8:=(cR oM {}).1
theorem uc(id op code:Int)(a b oid:List UInt8)(ha:a.length≤1000)(hb:b.length≤1000)(hc:oid.length≤1000):LsOk {id:=id,op:=op,code:=code,matched:=a,text:=b,oid:=oid} {}:=by
 constructor<;>first|exact eC|exact dx|(simp;done)|(simp;omega)
theorem Dl:LsOk oM {}:=uc 0 24 2 [] [] DP (by decide) (by decide) (by decide)
theorem CT:(cR oM {}).2=0:=by decide
theorem uA(w:World)(m:Mg)(h:m.pl=m):MgM w m {}:=by
 have:=(LsL.none 0 w m).mgm;rw[h] at this;exact this
def Cs.gone(s:Cs):Cs:=(s.put Dx).shut
theorem mC(w0:World)(P X:Nat→Prop)(C:Nat)(s:Cs)(w:World)(h:dc P X C s w)(hH:Hm w0 X w)(hlen:s.out.length≤1099511627776):
  Calls Tryz.prog 57 #[.pointer (some ⟨C,0,none⟩),.int .i64 2] w fun e w'=>e=.returned (.tuple #[])∧em P X C w s.gone w':=by
 have kn:=A6 2 [] w;obtain⟨H,HH⟩:=Cg h hH;clear h hH
 go_enter Tryz.func57,Tryz.ntmps57
 go_wp2_with fail
 refine ag kn ?_;rintro e w1 ⟨rfl,hb⟩;have ks:=su w0 P X C s oM {} w1 (H.out.bel hb) (HH.out.bels hb) (uA _ _ rfl) Dl hlen;rw[CT,if_pos rfl] at ks;rw[show decide ((0:Int)=0)=true from rfl] at ks;rw[show Mg.row oM=Mg.row {op:=24,code:=2,text:=[],oid:=DP} from rfl] at ks;have HB:=hid hb;clear kn hb
 go_wp2_with fail
 refine ag ks ?_;rintro e w2 ⟨rfl,P1,X1,hT,hN⟩;have kk:=sa P1 X1 C _ w2 hT;have HN:=hid hN;clear ks hN hT
 go_wp2_with fail
 refine ag kk ?_;rintro e w3 ⟨rfl,hT⟩;have FIN:em P X C w s.gone w3:=em.trans (Nx.trans ⟨Kb.of HB.out,fun _ _ q=>q,fun _ _ q=>q⟩ HN.out) hT;have HF:=hid FIN;clear FIN hT kk HN HB H HH
 go_wp2_with fail
 first
  |refine bodyPost_end (results_none rfl _ _ _) rfl ?_
  |refine aH (results_none rfl _ _ _) rfl ?_
 exact⟨rfl,HF.out⟩
section
variable {md:Region.Mode} {ops:Array Oper} {Q:Exit→Act→World→Prop} {S:World→Prop} {st:Nat} {fuel:Nat} {listed:Array Bool} {a a':Act} {w:World} {v:Value} {o ost:Oper}
theorem tg{id:Nat}(S:World→Prop)(st:Nat)(h:∀w',Bw w w'→wI Tryz.prog .any ops Q S st ops.size (Array.replicate ops.size false) a w')(hm:Tryz.prog.follows .mixedOrders=true:=by kernel_rfl):(Code.region id ops true).wp Tryz.prog Q a w:=
 zE hm (h _ (aA w.heap.size w).drew)
theorem ta(i:Nat)(p:Addr)(ho:ops[i]?=some o)(T:S w)(h:wI Tryz.prog md ops Q S st fuel (listed.setIfInBounds i true) a' w)(hy:∀w',(execOp a.eval o).run Tryz.prog w'=.ok (.value (.pointer (some p))) w':=by intro w';go_simp)
  (ha:a.put o.dst (.pointer (some p))=a':=by first|(go_simp;rfl)|rfl) (hi:i≠st:=by decide) (hs:Region.noSelect ops=true:=by kernel_rfl) (hf:Region.free md ops listed i=true:=by kernel_rfl) (hr:(Region.ready md ops listed).contains i=true:=by kernel_rfl) (hQ:∀c a w,Q (.panic c) (a.put o.dst (.pointer (some p))) w→Q (.panic c) a w:=by exact fun _ _ _ h=>h)
  (hw:Region.wanted o (yielded ops a.tmps)=true:=by rfl):wI Tryz.prog md ops Q S st (fuel+1) listed a w:=
 rg i _ ho hi hs hf hr hQ hw hy (.inr T) (fun _ hK=>hK _ _ (ha▸h))
theorem tt(i:Nat)(v:Value)(ho:ops[i]?=some o)(host:ops[st]?=some ost)(T:S w)(hy:∀w',S w'→(execOp a.eval o).run Tryz.prog w'=.ok (.value v) w')(h:wI Tryz.prog md ops Q S st fuel (listed.setIfInBounds i true) a' w)
  (ha:a.put o.dst v=a':=by first|(go_simp;rfl)|rfl) (hi:i≠st:=by decide) (hwait:(ost.after.toList.any fun e=>Region.binds md e&&decide (e.on=i))=true:=by kernel_rfl) (hs:Region.noSelect ops=true:=by kernel_rfl) (hf:Region.free md ops listed i=true:=by kernel_rfl) (hr:(Region.ready md ops listed).contains i=true:=by kernel_rfl) (hQ:∀c a w,Q (.panic c) (a.put o.dst v) w→Q (.panic c) a w:=by exact fun _ _ _ h=>h)
  (hw:Region.wanted o (yielded ops a.tmps)=true:=by rfl) (hst:listed.getD st false=false:=by rfl):wI Tryz.prog md ops Q S st (fuel+1) listed a w:=
 CP i v ho hi host hwait hs hf hr hQ hw hy hst T (fun _ hK=>hK _ _ (ha▸h))
theorem tl(i:Nat)(p:Addr)(v:Value)(ho:ops[i]?=some o)(host:ops[st]?=some ost)(T:S w)(hc:∀w',S w'→w'.cell? p=some v)(h:wI Tryz.prog md ops Q S st fuel (listed.setIfInBounds i true) a' w)
  (hy:∀w':World,w'.cell? p=some v→(execOp a.eval o).run Tryz.prog w'=.ok (.value v) w':=by intro w' q;go_simp)
  (ha:a.put o.dst v=a':=by first|(go_simp;rfl)|rfl) (hi:i≠st:=by decide) (hwait:(ost.after.toList.any fun e=>Region.binds md e&&decide (e.on=i))=true:=by kernel_rfl) (hs:Region.noSelect ops=true:=by kernel_rfl) (hf:Region.free md ops listed i=true:=by kernel_rfl) (hr:(Region.ready md ops listed).contains i=true:=by kernel_rfl) (hQ:∀c a w,Q (.panic c) (a.put o.dst v) w→Q (.panic c) a w:=by exact fun _ _ _ h=>h)
  (hw:Region.wanted o (yielded ops a.tmps)=true:=by rfl) (hst:listed.getD st false=false:=by rfl):wI Tryz.prog md ops Q S st (fuel+1) listed a w:=
 tt i v ho host T (fun w' hS=>hy w' (hc w' hS)) h ha hi hwait hs hf hr hQ hw hst
theorem tc(i:Nat){f:FuncId}{args:Array Value}(kc:Calls Tryz.prog f args w fun e w'=>e=.returned v∧Bw w w')(ho:ops[i]?=some o)(hT:∀w',Bw w w'→S w')
  (h:∀w',Bw w w'→wI Tryz.prog md ops Q S st fuel (listed.setIfInBounds i true) a' w')
  (hrun:(execOp a.eval o).run Tryz.prog w=.ok (.enter f args) w:=by first|rfl|go_simp) (ha:a.put o.dst v=a':=by first|(go_simp;rfl)|rfl) (hr:Region.ready md ops listed=[i]:=by kernel_rfl) (hw:Region.wanted o (yielded ops a.tmps)=true:=by rfl):wI Tryz.prog md ops Q S st (fuel+1) listed a w:=
 nC i hr ho hw fun K hK=>by
  unfold Oper.wp;rw[hrun,Oper.upon_enter];refine kc.mono fun e w' hh=>?_
  obtain⟨rfl,hb⟩:=hh;show K _ _;rw[ha];exact hK _ _ (.inr (hT w' hb)) (h w' hb)
theorem tw(i:Nat)(ho:ops[i]?=some o)(h:∀K':Act→World→Prop,(∀a w,S w→wI Tryz.prog md ops Q S st fuel (listed.setIfInBounds i true) a w→K' a w)→Oper.wp Tryz.prog o a w K' Q)(hr:Region.ready md ops listed=[i]:=by kernel_rfl)(hw:Region.wanted o (yielded ops a.tmps)=true:=by rfl):wI Tryz.prog md ops Q S st (fuel+1) listed a w:=
 nC i hr ho hw fun K hK=>h K fun a w s k=>hK a w (.inr s) k
theorem tf(h:wI Tryz.prog md ops Q S st fuel listed a' w)(ha:a=a':=by first|(go_simp;rfl)|rfl):wI Tryz.prog md ops Q S st fuel listed a w:=ha▸h
theorem tz(i:Nat)(w2:World)(ho:ops[i]?=some o)(h:Q .normal a' w2)(hrun:∀K:Act→World→Prop,K a' w2→Oper.wp Tryz.prog o a w K Q:=by intro K hK;go_simp;exact hK)
  (hr:Region.ready md ops listed=[i]:=by kernel_rfl) (hw:Region.wanted o (yielded ops a.tmps)=true:=by rfl) (hd:Region.ready md ops (listed.setIfInBounds i true)=[]:=by kernel_rfl) (hst:(listed.setIfInBounds i true).getD st false=true:=by rfl):wI Tryz.prog md ops Q S st (fuel+1) listed a w:=
 nC i hr ho hw fun K hK=>hrun K (hK _ _ (.inl hst) (CQ hd h _))
theorem tv(i:Nat)(v:Value)(ho:ops[i]?=some o)(T:S w)(h:wI Tryz.prog md ops Q S st fuel (listed.setIfInBounds i true) a' w)(hy:∀w',(execOp a.eval o).run Tryz.prog w'=.ok (.value v) w':=by intro w';go_simp)
  (ha:a.put o.dst v=a':=by first|(go_simp;rfl)|rfl) (hi:i≠st:=by decide) (hs:Region.noSelect ops=true:=by kernel_rfl) (hf:Region.free md ops listed i=true:=by kernel_rfl) (hr:(Region.ready md ops listed).contains i=true:=by kernel_rfl) (hQ:∀c a w,Q (.panic c) (a.put o.dst v) w→Q (.panic c) a w:=by exact fun _ _ _ h=>h)
  (hw:Region.wanted o (yielded ops a.tmps)=true:=by rfl):wI Tryz.prog md ops Q S st (fuel+1) listed a w:=
 rg i _ ho hi hs hf hr hQ hw hy (.inr T) (fun _ hK=>hK _ _ (ha▸h))
theorem hg{id:Nat}(S:World→Prop)(h:∀w',Bw w w'→w'.heap.size=w.heap.size→(∀g:Nat,w'.heap[g]?=w.heap[g]?)→wpAnyH Tryz.prog .any ops Q S ops.size (Array.replicate ops.size false) a w')(hm:Tryz.prog.follows .mixedOrders=true:=by kernel_rfl):(Code.region id ops true).wp Tryz.prog Q a w:=
 aR hm (h _ (aA w.heap.size w).drew rfl fun _=>rfl)
theorem hv(i:Nat)(v:Value)(ho:ops[i]?=some o)(T:S w)(hy:∀w',S w'→(execOp a.eval o).run Tryz.prog w'=.ok (.value v) w')(h:wpAnyH Tryz.prog md ops Q S fuel (listed.setIfInBounds i true) a' w)
  (ha:a.put o.dst v=a':=by first|(go_simp;rfl)|rfl) (hs:Region.noSelect ops=true:=by kernel_rfl) (hf:Region.free md ops listed i=true:=by kernel_rfl) (hr:(Region.ready md ops listed).contains i=true:=by kernel_rfl) (hQ:∀c a w,Q (.panic c) (a.put o.dst v) w→Q (.panic c) a w:=by exact fun _ _ _ h=>h)
  (hw:Region.wanted o (yielded ops a.tmps)=true:=by rfl):wpAnyH Tryz.prog md ops Q S (fuel+1) listed a w:=
 pQ i v ho hs hf hr hQ hw hy T (fun _ hK=>hK _ _ (ha▸h))
theorem hu(i:Nat)(v:Value)(ho:ops[i]?=some o)(T:S w)(h:wpAnyH Tryz.prog md ops Q S fuel (listed.setIfInBounds i true) a' w)(hy:∀w':World,(execOp a.eval o).run Tryz.prog w'=.ok (.value v) w':=by intro w';go_simp)
  (ha:a.put o.dst v=a':=by first|(go_simp;rfl)|rfl) (hs:Region.noSelect ops=true:=by kernel_rfl) (hf:Region.free md ops listed i=true:=by kernel_rfl) (hr:(Region.ready md ops listed).contains i=true:=by kernel_rfl) (hQ:∀c a w,Q (.panic c) (a.put o.dst v) w→Q (.panic c) a w:=by exact fun _ _ _ h=>h)
  (hw:Region.wanted o (yielded ops a.tmps)=true:=by rfl):wpAnyH Tryz.prog md ops Q S (fuel+1) listed a w:=
 hv i v ho T (fun w' _=>hy w') h ha hs hf hr hQ hw
theorem hl(i:Nat)(p:Addr)(v:Value)(ho:ops[i]?=some o)(T:S w)(hc:∀w',S w'→w'.cell? p=some v)(h:wpAnyH Tryz.prog md ops Q S fuel (listed.setIfInBounds i true) a' w)(hy:∀w':World,w'.cell? p=some v→(execOp a.eval o).run Tryz.prog w'=.ok (.value v) w':=by intro w' q;go_simp)
  (ha:a.put o.dst v=a':=by first|(go_simp;rfl)|rfl) (hs:Region.noSelect ops=true:=by kernel_rfl) (hf:Region.free md ops listed i=true:=by kernel_rfl) (hr:(Region.ready md ops listed).contains i=true:=by kernel_rfl) (hQ:∀c a w,Q (.panic c) (a.put o.dst v) w→Q (.panic c) a w:=by exact fun _ _ _ h=>h)
  (hw:Region.wanted o (yielded ops a.tmps)=true:=by rfl):wpAnyH Tryz.prog md ops Q S (fuel+1) listed a w:=
 hv i v ho T (fun w' q=>hy w' (hc w' q)) h ha hs hf hr hQ hw
theorem uC(i:Nat)(ho:ops[i]?=some o)(h:∀K':Act→World→Prop,(∀a w,S w→wpAnyH Tryz.prog md ops Q S fuel (listed.setIfInBounds i true) a w→K' a w)→Oper.wp Tryz.prog o a w K' Q)(hr:Region.ready md ops listed=[i]:=by kernel_rfl)
  (hw:Region.wanted o (yielded ops a.tmps)=true:=by rfl):wpAnyH Tryz.prog md ops Q S (fuel+1) listed a w:=rn i hr ho hw h
theorem oS(i:Nat)(w2:World)(ho:ops[i]?=some o)(hS:S w2)(h:Q .normal a' w2)(hrun:∀K:Act→World→Prop,K a' w2→Oper.wp Tryz.prog o a w K Q:=by intro K hK;go_simp;exact hK)
  (hr:Region.ready md ops listed=[i]:=by kernel_rfl) (hw:Region.wanted o (yielded ops a.tmps)=true:=by rfl) (hd:Region.ready md ops (listed.setIfInBounds i true)=[]:=by kernel_rfl):wpAnyH Tryz.prog md ops Q S (fuel+1) listed a w:=
 rn i hr ho hw fun K hK=>hrun K (hK _ _ hS (xk hd h _))
end
theorem Tryz.infoMessage:(Tryz.prog.info? 32).map (fun i=>(i.zero,i.size,i.bytes))=some (some (.agg Zm),28,368):=by kernel_rfl
theorem CnB.bel{P X:Nat→Prop}{C:Nat}{ms:List (Mg×Ls)}{ids:List Int}{cur:Option (Int×Int)}{out:List UInt8}{wv iv cv bp bv:Value}{Ms:List Mg}{w w':World}(h:CnB P X C ms ids cur out wv iv cv bp bv Ms w)
  {R:Array Value} (hC:Hc w C R 62) (k:Bw w w'):CnB P X C ms ids cur out wv iv cv bp bv Ms w':=
 h.kept hC (fun g _ hp hl=>⟨k.block g hl,hp,Iff.rfl⟩) h.xC h.xP (fun g hg=>Nat.lt_of_lt_of_le (h.xl g hg) k.size)
theorem jp{es:Array MapEntry}{ids:List Int}(he:es.toList.map (fun e=>(e.key,e.val))=ids.map (fun k=>(Value.int .i64 k,Value.agg #[]))){x:MapEntry}(hx:x∈es.toList):∃k,k∈ids∧x.key=.int .i64 k∧x.val=.agg #[]:=by
 have:(x.key,x.val)∈ids.map (fun k=>(Value.int .i64 k,Value.agg #[])):=by rw[←he];exact List.mem_map.2 ⟨x,hx,rfl⟩
 obtain⟨k,hk,e⟩:=List.mem_map.1 this;exact⟨k,hk,(congrArg Prod.fst e).symm,(congrArg Prod.snd e).symm⟩
theorem A2{es:Array MapEntry}{ids:List Int}(he:es.toList.map (fun e=>(e.key,e.val))=ids.map (fun k=>(Value.int .i64 k,Value.agg #[]))){k:Int}(hk:k∈ids):∃x,x∈es.toList∧x.key=.int .i64 k:=by
 have:(Value.int .i64 k,Value.agg #[])∈es.toList.map (fun e=>(e.key,e.val)):=by rw[he];exact List.mem_map.2 ⟨k,hk,rfl⟩
 obtain⟨x,hx,e⟩:=List.mem_map.1 this;exact⟨x,hx,congrArg Prod.fst e⟩
theorem C0{w:World}{iv:Value}{ids:List Int}(k:Int)(h:jC w iv ids):(Instr.lookup 55 iv (.int .i64 k) true).run Tryz.prog w=.ok (.tuple #[.agg #[],.bool (ids.contains k)]) w:=by
 have hz:∀w:World,(zeroValue 138).run Tryz.prog w=.ok (.agg #[]) w:=fun w=>by go_simp
 rcases h with⟨rfl,rfl⟩|⟨r,es,c,rfl,hr,he⟩
 ·have hc:(Instr.checkKey true 10000 3 (.int .i64 k)).run Tryz.prog w=.ok () w:=MapKept.run_checkKey (k:=.int .i64 k) (d:=.int .i64) (by kernel_rfl) (by simp[MapKept.IsKey]) true 9999
  simp[Instr.lookup,run_underlying (show Tryz.prog.underlying 55=some (.map 3 138) by kernel_rfl),hc,MapKept.run_findKey (d:=.int .i64) (show Tryz.prog.underlying 3=some (.int .i64) by kernel_rfl) (show Instr.findNow (.int .i64) (.int .i64 k) [] 0=some none from rfl),hz,Result.andThen]
 ·rcases jT (P:=Tryz.prog) w 55 3 138 r c es k (.agg #[]) (by kernel_rfl) (by kernel_rfl) hr (fun x hx=>by obtain⟨k',_,e,_⟩:=jp he hx;exact⟨k',e⟩) (hz w) with⟨x,hx,hk,hrun⟩|⟨hno,hrun⟩
  ·obtain⟨k',hk',e1,e2⟩:=jp he hx
   rw[e1] at hk;cases hk;rw[hrun,e2,show ids.contains k=true from List.contains_iff_mem.2 hk']
  ·rw[hrun,show ids.contains k=false from by
    cases hc:ids.contains k with
    |false=>rfl
    |true=>
     obtain⟨x,hx,e⟩:=A2 he (List.contains_iff_mem.1 hc);exact absurd e (hno x hx)]
def Cs.has(s:Cs)(k:Int):Bool:=s.ids.contains k||(match s.cur with|some c=>c.1==k|none=>false)
theorem BW(P X:Nat→Prop)(C:Nat)(s:Cs)(k:Int)(w:World)(h:dc P X C s w):
  Cr 59 #[.pointer (some ⟨C,0,none⟩),.int .i64 k] w (.bool (s.has k)):=by
 obtain⟨wv,iv,cv,bp,bv,Ms,h,hb⟩:=h;obtain⟨c0,c1,c2,c3,c8⟩:=dM h;have hl:=C0 k hb.im;unfold Cs.has;obtain⟨b,hB⟩:=nmm (s.ids.contains k);rw[hB] at hl⊢;have b2:=(aA w.heap.size w).alloc (ah _) (.cells #[] 138);have d3:=(b2.cell (bj c3)).trans c3;have hcur:=hb.cu;obtain⟨cu,hcu⟩:=nmm s.cur;rw[hcu] at hcur⊢;clear hb h c0 c1 c8 hB hcu;cases cu with
 |none=>
  have hcv:cv=.pointer none:=hcur;subst hcv;clear hcur;rw[Bool.or_false]
  go_enter Tryz.func59,Tryz.ntmps59
  go_upto_region 2 with fail
  generalize w.alloc (.cells #[] 138)=w2 at d3 b2⊢;cases b
  ·go_wp2_with fail
   go_ret
   exact⟨rfl,b2⟩
  ·go_wp2_with fail
   go_ret
   exact⟨rfl,b2⟩
 |some c=>
  obtain⟨F,D,rfl,_,hD,hd0,_⟩:=hcur;have e0:(w.alloc (.cells #[] 138)).cell? ⟨F,0,none⟩=some (.int .i64 c.1):=(aq (bk b2 hD) 0).trans hd0;obtain⟨i,hi⟩:=nmm (c.1==k);rw[show(match (some c:Option (Int×Int)) with|some c=>c.1==k|none=>false)=i from hi];obtain⟨rb,hrb⟩:=nmm (b||i);rw[hrb];have HRB:=hid hrb;clear hrb;clear hD hd0
  go_enter Tryz.func59,Tryz.ntmps59
  go_upto_region 2 with fail
  generalize w.alloc (.cells #[] 138)=w2 at d3 b2 e0⊢;cases b
  ·cases i
   ·go_wp2_with fail
    go_ret
    exact⟨by rw[←HRB.out];rfl,b2⟩
   ·go_wp2_with fail
    go_ret
    exact⟨by rw[←HRB.out];rfl,b2⟩
  ·go_wp2_with fail
   go_ret
   exact⟨by rw[←HRB.out];cases i<;>rfl,b2⟩
theorem uM(m:Mg)(w:World):(Instr.buildSlice 22 1 #[(0,.agg m.row)]).run Tryz.prog w=.ok (.slice (some ⟨w.heap.size,0,none⟩) 1 1) (w.alloc (.cells m.row 32)):=by
 unfold Mg.row;go_simp
theorem CU{es:Array MapEntry}{ids:List Int}(he:es.toList.map (fun e=>(e.key,e.val))=ids.map (fun k=>(Value.int .i64 k,Value.agg #[]))){k:Int}(hn:ids.contains k=false):Instr.findNow (.int .i64) (.int .i64 k) es.toList 0=some none:=by
 have hkey:∀j:Int,MapKept.IsKey (.int .i64) (.int .i64 j):=fun j=>by simp[MapKept.IsKey]
 rcases MapKept.findNow_spec (hkey k) es.toList 0 (fun x hx=>by obtain⟨k',_,e,_⟩:=jp he hx;rw[e];exact hkey k') with⟨q,_⟩|⟨j,e,_,q2,q3⟩
 ·exact q
 ·exfalso
  obtain⟨k',hk',e1,_⟩:=jp he (List.mem_of_getElem? q2);rw[q3] at e1;cases e1;rw[List.contains_iff_mem.2 hk'] at hn;cases hn
theorem Cp{ids:List Int}{k:Int}(h:ids.Nodup)(hn:ids.contains k=false):(ids++[k]).Nodup:=by
 rw[List.nodup_append];refine⟨h,by simp,fun a ha b hb=>?_⟩;simp only[List.mem_singleton] at hb;rintro rfl;subst hb;rw[List.contains_iff_mem.2 ha] at hn;cases hn
theorem uS{A:Array Value}(h:∀w,(Instr.buildSlice 22 1 #[(0,.agg A)]).run Tryz.prog w=.ok (.slice (some ⟨w.heap.size,0,none⟩) 1 1) (w.alloc (.cells A 32))){o:Oper}{a:Act}{x:Operand}(ho:o.op=.buildSlice 22 1 #[(0,x)])(hx:a.eval x=.agg A)(w:World):
  (execOp a.eval o).run Tryz.prog w=.ok (.value (.slice (some ⟨w.heap.size,0,none⟩) 1 1)) (w.alloc (.cells A 32)):=by
 have q:=h w
 simp[execOp,ho,hx,q]
theorem CF(P X:Nat→Prop)(C:Nat)(s:Cs)(m:Mg)(y:Mg×Ls)(w:World)(h:dc P X C s w)(hm:m.pl=y.1)(hl:LsP (fun g=>P g∧¬X g) w m y.2)(hn:s.ids.contains y.1.id=false)(h2:y.1.op≠2)(h16:y.1.op≠16)(hlen:s.ms.length≤1000):
  Calls Tryz.prog 60 #[.pointer (some ⟨C,0,none⟩),.agg m.row] w fun e w'=>e=.returned (.tuple #[])∧em P X C w {s with ms:=s.ms++[y]} w':=by
 obtain⟨wv,iv,cv,bp,bv,Ms,hr,hb⟩:=h;obtain⟨i0,hi0,hz0,hz1,hz2⟩:=info_parts Tryz.infoMessage;have hid:m.id=y.1.id:=by rw[←hm];rfl
 have hop:m.op=y.1.op:=by rw[←hm];rfl
 generalize hPR:(em P X C w {s with ms:=s.ms++[y]}:World→Prop)=PR;have HPR:=Lib.hid hPR;have b1:=alb w m.row 32;have m1:=alz w m.row 32;have r1:=bk b1 hr;have hb1:=hb.bel hr b1;have hl1:LsP (fun g=>P g∧¬X g) _ m y.2:=hl.kept fun g hg hlg=>⟨b1.block g hlg,hg⟩
 have hMX:∀g,X g→g≠w.heap.size:=fun g hg e=>by have:=hb.xl g hg;omega
 have HCW:=Lib.hid (gl hr);have hbox:=uM m;obtain⟨A,hA⟩:=nmm m.row;have hA0:A[0]?=some (.int .i64 y.1.id):=by rw[←hA,←hid];rfl
 have hA1:A[1]?=some (.int .i64 y.1.op):=by rw[←hA,←hop];rfl
 have hAo:A.all (·.oneCell')=true:=by rw[←hA];exact hl.one
 have hA2:A.size=28:=by rw[←hA];rfl
 have hAl:cC (Ms++[m])=cC Ms++A.toList:=by rw[A8,←hA];simp[cC]
 have hA3:A.toList.length=1*28:=by simpa using hA2
 have hA4:∀u∈A.toList,u.oneCell'=true:=fun u hu=>by have:=(Array.all_eq_true_iff_forall_mem.1 hAo) u (by simpa using hu);exact this
 rw[hA] at b1 m1 r1 hb1 hl1 hbox⊢;obtain⟨HX,HA3,HA4⟩:=Ch (show _∧_∧_ from⟨hA0,hA2,hAl⟩) hA3 hA4;have q1:(w.alloc (.cells A 32)).cell? ⟨w.heap.size,1,none⟩=some (.int .i64 y.1.op):=(aq m1 1).trans hA1;have e2:(y.1.op==2)=false:=aE h2;have e16:(y.1.op==16)=false:=aE h16;obtain⟨op,hopq⟩:∃op,y.1.op=op:=⟨_,rfl⟩;rw[hopq] at q1 e2 e16;obtain⟨HB,HL,HM,HN,HMX,HLN⟩:=Cy hb1 hl1 hm hn hMX hlen;have hs1:w.heap.size+1=(w.alloc (.cells A 32)).heap.size:=by simp
 have HS1:=Lib.hid hs1;clear hPR hr hb hl hid hop hA hA0 hA1 hAo hA2 hAl hA3 hA4 h2 h16 hopq hm hn hMX hlen hb1 hl1 hs1
 go_enter Tryz.func60,Tryz.ntmps60
 go_upto_region 1 with fail
 generalize w.alloc (.cells A 32)=w1 at b1 m1 r1 q1 HB HL HS1⊢
 go_upto_region 2 with fail
 have hrC:w.heap.size≠C:=fun e=>by have:=HMX.out C HB.out.xC;exact this e.symm
 clear q1 e2 e16;refine tg (fun w'=>w'.cell? ⟨C,1,none⟩=some wv∧Hc w' w.heap.size A 32) 10 ?_;intro w2 bw;have R2:=bk bw r1;have M2:=bk bw m1;have T:w2.cell? ⟨C,1,none⟩=some wv∧Hc w2 w.heap.size A 32:=⟨(aq R2 1).trans rfl,M2⟩;refine ta 0 ⟨C,0,none⟩ rfl T ?_;refine ta 1 ⟨C,0,none⟩ rfl T ?_;refine ta 2 ⟨C,0,none⟩ rfl T ?_;refine ta 3 ⟨C,1,none⟩ rfl T ?_;refine tl 4 ⟨C,1,none⟩ wv rfl rfl T (fun _ q=>q.1) ?_;refine tt 5 (.agg A) rfl rfl T (fun w' hS=>by exact cU 32 (.tmp 3) rfl w.heap.size 32 A (0,0) (by rfl) hS.2 _ Tryz.underlying32 rfl (by rw[HX.out.2.1];rfl)) ?_;have b3:=alb w2 A 32;have x3:=alz w2 A 32;have T3:(w2.alloc (.cells A 32)).cell? ⟨C,1,none⟩=some wv∧Hc (w2.alloc (.cells A 32)) w.heap.size A 32:=⟨(b3.cell (bj T.1)).trans T.1,bk b3 T.2⟩;have R3:=bk b3 R2;refine tw 6 rfl fun K hK=>jS (v:=.slice (some ⟨w2.heap.size,0,none⟩) 1 1) (w':=w2.alloc (.cells A 32)) (uS hbox rfl rfl _) (hK _ _ T3 ?_)
 have hb3:=HB.out.bel r1 ((btt bw b3));have hl3:LsP (fun g=>P g∧¬X g) _ m y.2:=HL.out.kept (w':=w2.alloc (.cells A 32)) fun g hg hlg=>⟨((btt bw b3)).block g hlg,hg⟩
 have bb3:Bw w (w2.alloc (.cells A 32)):=b1.trans (((btt bw b3)).mono b1.size);obtain⟨HB3,HL3,BB3⟩:=Ch hb3 hl3 bb3;generalize hG:w2.heap.size=G at x3;have HG:=Lib.hid hG;clear hG hb3 hl3 bb3 b3 bw r1 m1 b1 HB HL T R2 M2;generalize w2.alloc (.cells A 32)=w3 at x3 T3 R3 HB3 HL3 BB3⊢;refine tw 7 rfl fun K hK=>?_
 refine wp_append_lies w3 (.tmp 11) (.tmp 13) 22 rfl 0 32 i0 _ 28 368 Tryz.underlying22 hi0 hz0 hz1 hz2 rfl (by decide) wv s.ms.length (cC Ms) rfl HB3.out.own ⟨G,0,none⟩ 1 1 A.toList rfl HA3.out (World.news_of_block x3) HA4.out (by omega) (by have:=HLN.out;unfold maxLen;omega) (by have:=HLN.out;omega) (Nat.zero_le _) _ rfl ?_;intro g cap w4 hown hgrow hat hlt;have h3:=HB3.out;have hwC:wv.ownBlock≠some C:=fun e=>h3.neC R3 (.inl e) rfl
 have hwM:wv.ownBlock≠some w.heap.size:=fun e=>HMX.out _ (h3.xw _ e) rfl
 have R4:=(hgrow.block C (gl R3) (fun e=>hwC e.symm)).trans R3;have M4:=(hgrow.block _ (gl T3.2) (fun e=>hwM e.symm)).trans T3.2;have T4:w4.cell? ⟨C,1,none⟩=some wv∧Hc w4 w.heap.size A 32:=⟨(aq R4 1).trans rfl,M4⟩;have hb4:=h3.app R3 R4 HM.out HL3.out (by rw[HX.out.2.2];exact hown) (fun j _ hn hl=>hgrow.block j hl fun e=>hn e.symm) (hat.imp id (fun e=>by rw[e];exact ah _)) hgrow.size;have kb4:Kb X w w4:=(Kb.of BB3.out).grown hgrow fun j hj=>.inl (h3.xw j hj)
 have hgo:∀j,j<w.heap.size→j=g→X j:=fun j hj e=>by
  rcases hat with q|q
  ·exact e▸h3.xw _ q
  ·have:=BB3.out.size;omega
 have hb5:=hb4.put R4 1 (.slice (some ⟨g,0,none⟩) (s.ms.length+1) cap);have N5:Nx P X w (fun j=>P j∨j=g) (fun j=>X j∨j=g) (w4.setCell ⟨C,1,none⟩ (.slice (some ⟨g,0,none⟩) (s.ms.length+1) cap)):=⟨kb4.set (.inl h3.xC) _,fun j hj q=>Or.elim q id (hgo j hj),fun j hj q=>Or.elim q id fun e=>h3.xP j (hgo j hj e)⟩;have R5:=cq (i:=1) (u:=.slice (some ⟨g,0,none⟩) (s.ms.length+1) cap) R4;have M5:Hc (w4.setCell ⟨C,1,none⟩ (.slice (some ⟨g,0,none⟩) (s.ms.length+1) cap)) w.heap.size A 32:=(heap_setCell_other w4 ⟨C,1,none⟩ w.heap.size _ hrC).trans M4;have z:=aj R4 1;refine hK _ _ T4 ?_;clear hK K;obtain⟨HB5,HN5,HR5,HM5⟩:=Ci hb5 N5 R5 M5;clear hb5 N5 R5 M5 hb4 kb4 hgo hown hgrow hat hlt h3 hwC hwM M4 x3 T3 R3 HB3 HL3 BB3 HG;refine ta 8 ⟨C,0,none⟩ rfl T4 ?_;refine ta 9 ⟨C,1,none⟩ rfl T4 ?_;refine tz 10 (w4.setCell ⟨C,1,none⟩ (.slice (some ⟨g,0,none⟩) (s.ms.length+1) cap)) rfl ?_;clear T4 z R4;generalize w4.setCell ⟨C,1,none⟩ (.slice (some ⟨g,0,none⟩) (s.ms.length+1) cap)=w5 at HB5 HN5 HR5 HM5⊢;simp only[Exit.then];refine‹∀(a:Act) (w:World),Code.wp _ _ _ a w→_› _ _ ?_;obtain⟨P5,X5,hb5,N5⟩:∃P5 X5,CnB P5 X5 C (s.ms++[y]) s.ids s.cur s.out (.slice (some ⟨g,0,none⟩) (s.ms.length+1) cap) iv cv bp bv (Ms++[m]) w5∧Nx P X w P5 X5 w5:=⟨_,_,HB5.out,HN5.out⟩;have R5:Hc w5 C (lC s.inn (.slice (some ⟨g,0,none⟩) (s.ms.length+1) cap) iv cv bp bv s.cl) 62:=HR5.out;have M5:=HM5.out;clear HB5 HN5 HR5 HM5;have hmm:∀(t:TypeId) (w:World),(Instr.makeMap t none).run Tryz.prog w=.ok (.map (some w.heap.size)) (w.alloc (.map #[] 0)):=fun _ _=>rfl
 have hbe:∀w:World,(binOp .eql 55 (.map none) (.map none)).run Tryz.prog w=.ok (.bool true) w:=fun w=>by rfl
 have hbf:∀(r:Nat) (w:World),(binOp .eql 55 (.map (some r)) (.map none)).run Tryz.prog w=.ok (Bf) w:=fun r w=>by rfl
 have c2:=cval R5 2 iv;have ND:=Lib.hid hb5.nd;have hids:=hb5.im;generalize hI:s.ids=ids at hids hb5 HN ND;obtain⟨HI,HIM,HB5,HN5⟩:=Ci hI hids hb5 N5;clear hI hb5 N5;rcases hids with⟨rfl,rfl⟩|⟨r,es,c,rfl,hr5,he⟩
 case' inl=>
  obtain⟨W7,hW7⟩:=nmm ((w5.alloc (.map #[] 0)).setCell ⟨C,2,none⟩ (.map (some w5.heap.size)));have g6:Bw w5 (w5.alloc (.map #[] 0)):=(aA _ _).alloc (ah _) _;have R6:=bk g6 R5;have d2:(w5.alloc (.map #[] 0)).cell? ⟨C,2,none⟩=some (.map none):=(aq R6 2).trans rfl;have z2:=aj R6 2;have hCl:=(gl R5);have hs7:W7.heap.size=w5.heap.size+1:=by rw[←hW7];simp[World.setCell]
  have x7:W7.heap[w5.heap.size]?=some (.map #[] 0):=by rw[←hW7];exact(heap_setCell_other _ ⟨C,2,none⟩ w5.heap.size _ (by show w5.heap.size≠C;omega)).trans (fb _ _ _ rfl)
  have R7:Hc W7 C (lC s.inn (.slice (some ⟨g,0,none⟩) (s.ms.length+1) cap) (.map (some w5.heap.size)) cv bp bv s.cl) 62:=by rw[←hW7];exact cq (i:=2) (u:=.map (some w5.heap.size)) R6
  have hoth:∀j,j≠C→j<w5.heap.size→W7.heap[j]?=w5.heap[j]?:=fun j hj hl=>by rw[←hW7];exact(heap_setCell_other _ ⟨C,2,none⟩ j _ hj).trans (g6.block j hl)
  have M7:=(hoth w.heap.size hrC (gl M5)).trans M5;have N7:∃P7 X7,CnB P7 X7 C (s.ms++[y]) [] s.cur s.out (.slice (some ⟨g,0,none⟩) (s.ms.length+1) cap) (.map (some w5.heap.size)) cv bp bv (Ms++[m]) W7∧Nx P X w P7 X7 W7:=
   ⟨_,_,HB5.out.newMap R5 rfl ⟨0,x7⟩ hoth (by rw[hs7];omega),
    ⟨⟨(hW7▸rfl:W7.os=w5.os).trans HN5.out.kb.os,(hW7▸rfl:W7.tape=w5.tape).trans HN5.out.kb.tape,(hW7▸rfl:W7.output=w5.output).trans HN5.out.kb.output,by have:=HN5.out.kb.size;omega,fun j hj hn=>
     (hoth j (fun e=>hn (by rw[e];exact HN5.out.xs C HCW.out HB5.out.xC)) (Nat.lt_of_lt_of_le hj HN5.out.kb.size)).trans (HN5.out.kb.block j hj hn)⟩,
     fun j hj q=>Or.elim q (HN5.out.xs j hj) (fun e=>by have:=HN5.out.kb.size;omega),fun j hj q=>Or.elim q (HN5.out.ps j hj) (fun e=>by have:=HN5.out.kb.size;omega)⟩⟩
  have he:([]:List MapEntry).map (fun e=>(e.key,e.val))=([]:List Int).map (fun k=>(Value.int .i64 k,Value.agg #[])):=rfl;obtain⟨es,hes⟩:=nmm (#[]:Array MapEntry);rw[hes] at x7;have he:es.toList.map (fun e=>(e.key,e.val))=([]:List Int).map (fun k=>(Value.int .i64 k,Value.agg #[])):=by rw[←hes];rfl
  obtain⟨c,hc⟩:=nmm (0:Nat);rw[hc] at x7;obtain⟨X7',HN7,HR7,HM7,HE,HS7⟩:=Cy x7 N7 R7 M7 he hs7;clear x7 N7 R7 M7 he hes hc hs7 hoth g6 hCl R6
  go_upto_region 5 with fail
  try rw[hW7]
  clear hW7 d2 z2 HS7;generalize w5.heap.size=r at X7' HN7 HR7 HM7;generalize W7=w7 at X7' HN7 HR7 HM7⊢;clear HB5 HN5 HIM M5 R5 c2;obtain⟨ids,hids⟩:=nmm ([]:List Int);rw[hids] at HE HN7 HN ND HI;clear hids
 case' inr=>
  obtain⟨X7',HN7,HR7,HM7,HE⟩:=Cj hr5 (show ∃P7 X7,CnB P7 X7 C (s.ms++[y]) ids s.cur s.out (.slice (some ⟨g,0,none⟩) (s.ms.length+1) cap) (.map (some r)) cv bp bv (Ms++[m]) w5∧Nx P X w P7 X7 w5 from⟨_,_,HB5.out,HN5.out⟩) R5 M5 he;clear hr5 he R5 M5 HIM HB5 HN5
  go_upto_region 5 with fail
  clear c2;generalize w5=w7 at X7' HN7 HR7 HM7⊢
 all_goals
  clear hmm hbe hbf;obtain⟨P7,X7,h7,N7⟩:=HN7.out;have R7:=HR7.out;have hCr:C≠r:=fun e=>by have:=X7'.out;rw[←e,R7] at this;cases this
  have hMr:w.heap.size≠r:=fun e=>by have:=X7'.out;rw[←e,HM7.out] at this;cases this
  obtain⟨HB7,HNX⟩:=Cg h7 N7;clear h7 N7 HN7;refine hg (fun w'=>w'.cell? ⟨C,2,none⟩=some (.map (some r))∧w'.cell? ⟨w.heap.size,0,none⟩=some (.int .i64 y.1.id)) ?_;intro w8 bw hsz hsame;have T:w8.cell? ⟨C,2,none⟩=some (.map (some r))∧w8.cell? ⟨w.heap.size,0,none⟩=some (.int .i64 y.1.id):=⟨(aq ((hsame C).trans R7) 2).trans rfl,(aq ((hsame _).trans HM7.out) 0).trans HX.out.1⟩;refine hu 0 (.pointer (some ⟨C,0,none⟩)) rfl T ?_;refine hu 1 (.pointer (some ⟨C,0,none⟩)) rfl T ?_;refine hu 2 (.pointer (some ⟨C,2,none⟩)) rfl T ?_;refine hl 3 ⟨C,2,none⟩ (.map (some r)) rfl T (fun _ q=>q.1) ?_;refine hu 4 (.pointer (some ⟨w.heap.size,0,none⟩)) rfl T ?_;refine hl 5 ⟨w.heap.size,0,none⟩ (.int .i64 y.1.id) rfl T (fun _ q=>q.2) ?_;refine hu 6 (.agg #[]) rfl T ?_;have x8:w8.heap[r]?=some (.map es c):=(hsame r).trans X7'.out;obtain⟨w9,hrun,hb9,hsz9,hot9,e1,e2,e3⟩:=oE (P:=Tryz.prog) w8 55 3 138 r c es y.1.id (.agg #[]) (by kernel_rfl) (by kernel_rfl) x8 (CU HE.out HN.out);have T9:w9.cell? ⟨C,2,none⟩=some (.map (some r))∧w9.cell? ⟨w.heap.size,0,none⟩=some (.int .i64 y.1.id):=⟨(World.cell?_of_block (a:=⟨C,2,none⟩) (hot9 C hCr)).trans T.1,(World.cell?_of_block (a:=⟨w.heap.size,0,none⟩) (hot9 w.heap.size hMr)).trans T.2⟩;have FIN:PR w9:=by
   rw[←HPR.out];have h7:=HB7.out;have N7:=HNX.out;have hoth:∀j,j≠r→w9.heap[j]?=w7.heap[j]?:=fun j hj=>(hot9 j hj).trans (hsame j)
   have hs9:w9.heap.size=w7.heap.size:=hsz9.trans hsz;refine⟨P7,X7,⟨_,_,_,_,_,Ms++[m],(hoth C hCr).trans R7,?_⟩,N7.trans ⟨⟨e1.trans bw.os,e2.trans bw.tape,e3.trans bw.output,by omega,fun j hj hn=>hoth j fun e=>hn (by rw[e];exact h7.xi r rfl)⟩,fun _ _ q=>q,fun _ _ q=>q⟩⟩;refine h7.lay R7 ?_ ?_ hoth hs9
   ·refine .inr ⟨r,_,_,rfl,hb9,?_⟩
    show _=((s.ms++[y]).map (·.1.id)).map _;rw[List.map_append,show s.ms.map (·.1.id)=ids from HI.out]
    simp[HE.out]
   ·show((s.ms++[y]).map (·.1.id)).Nodup
    rw[List.map_append,show s.ms.map (·.1.id)=ids from HI.out];exact Cp ND.out HN.out
  have HF:=Lib.hid FIN;clear FIN hb9 hsz9 hot9 e1 e2 e3 x8 hsz hsame bw HB7 HNX R7 X7' HR7 HM7 HE hCr hMr;refine oS 7 w9 rfl T9 ?_;clear hrun T T9;simp only[Exit.inBlock];exact bodyPost_end (results_none rfl _ _ _) rfl ⟨rfl,HF.out⟩
end Go.Proofs.YtfhghdcbofbceaaGreatDoor
