/- BerD, BerE, BuildS, BerF. -/
import Derived.Lib.Builder
import Derived.Lib.UnsafeStr
import Derived.Test.YthjaiigijbjloaaGreatDoorW1
namespace Go.Proofs.YthjaiigijbjloaaGreatDoor
open Go.RowKit Go.Lib
set_option maxRecDepth 100000
set_option maxHeartbeats 16000000
theorem mc(p:El→Bool)(d:Nat)(el:El):qs p d el=if 20≤d then true else p el&&dS p (d+1) el.kids:=by
 cases el;simp only[qs,El.kids]
theorem ro(d:Nat)(el:El):eW d el=if 20≤d then true else eX (d+1) el.kids:=by
 cases el;simp only[eW,El.kids]
theorem gv{α:Type}{l:List α}{k:Nat}{e:α}(h:l[k]?=some e):l.drop k=e::l.drop (k+1):=by
 obtain⟨hk,he⟩:=List.getElem?_eq_some_iff.1 h;rw[List.drop_eq_getElem_cons hk,he]
theorem Af(el:El)(u:Value)(w:World)(h:bf (fun _=>True) w u el.kids):
  Cr 66 #[.agg (elA el u)] w (.bool (cn el)):=by
 obtain⟨a,c,hf⟩:=h.shape;clear h;obtain⟨cl,t,k,b,ks⟩:=el;simp only[El.kids] at hf;subst hf;unfold elA;simp only[El.cls,El.tag,El.cons,El.bytes];have hb:=alb w #[.int .i64 cl,.int .i64 t,.bool k,.string ⟨b.toArray⟩,.slice a ks.length c] 45
 by_cases h1:0≤cl
 ·have g1:decide (0≤cl)=true:=aL h1
  by_cases h2:cl≤3
  ·have g2:decide (cl≤3)=true:=aL h2
   by_cases h3:0≤t
   ·have g3:decide (0≤t)=true:=aL h3
    by_cases h4:t≤30
    ·have g4:decide (t≤30)=true:=aL h4
     have hr:cn (.mk cl t k b ks)=true:=by simp[cn,h1,h2,h3,h4]
     rw[hr]
     go_enter Tryz.func66,Tryz.ntmps66
     go_wp2_with fail
     go_ret
     exact⟨rfl,hb⟩
    ·have g4:decide (t≤30)=false:=an h4
     have hr:cn (.mk cl t k b ks)=false:=by simp[cn,h4]
     rw[hr]
     go_enter Tryz.func66,Tryz.ntmps66
     go_wp2_with fail
     go_ret
     exact⟨rfl,hb⟩
   ·have g3:decide (0≤t)=false:=an h3
    have hr:cn (.mk cl t k b ks)=false:=by simp[cn,h3]
    rw[hr]
    go_enter Tryz.func66,Tryz.ntmps66
    go_wp2_with fail
    go_ret
    exact⟨rfl,hb⟩
  ·have g2:decide (cl≤3)=false:=an h2
   have hr:cn (.mk cl t k b ks)=false:=by simp[cn,h2]
   rw[hr]
   go_enter Tryz.func66,Tryz.ntmps66
   go_wp2_with fail
   go_ret
   exact⟨rfl,hb⟩
 ·have g1:decide (0≤cl)=false:=an h1
  have hr:cn (.mk cl t k b ks)=false:=by simp[cn,h1]
  rw[hr]
  go_enter Tryz.func66,Tryz.ntmps66
  go_wp2_with fail
  go_ret
  exact⟨rfl,hb⟩
theorem nb(el:El)(u:Value)(w:World)(h:bf (fun _=>True) w u el.kids):
  Cr 67 #[.agg (elA el u)] w (.bool (cB el)):=by
 obtain⟨a,c,hf⟩:=h.shape;clear h;obtain⟨cl,t,k,b,ks⟩:=el;simp only[El.kids] at hf;subst hf;unfold elA;simp only[El.cls,El.tag,El.cons,El.bytes];have hb:=alb w #[.int .i64 cl,.int .i64 t,.bool k,.string ⟨b.toArray⟩,.slice a ks.length c] 45;cases k with
 |true=>
  cases b with
  |nil=>
   have hr:cB (.mk cl t true [] ks)=true:=by simp[cB]
   rw[hr]
   go_enter Tryz.func67,Tryz.ntmps67
   go_wp2_with fail
   go_ret
   exact⟨rfl,hb⟩
  |cons x b=>
   have hr:cB (.mk cl t true (x::b) ks)=false:=by simp[cB]
   rw[hr]
   go_enter Tryz.func67,Tryz.ntmps67
   go_wp2_with fail
   go_ret
   exact⟨rfl,hb⟩
 |false=>
  cases ks with
  |nil=>
   have hr:cB (.mk cl t false b [])=true:=by simp[cB]
   rw[hr]
   go_enter Tryz.func67,Tryz.ntmps67
   go_wp2_with fail
   go_ret
   exact⟨rfl,hb⟩
  |cons x ks=>
   have hr:cB (.mk cl t false b (x::ks))=false:=by simp[cB]
   rw[hr];obtain⟨m,hm⟩:=nmm ((x::ks).length);have hm0:((m:Int)==0)=false:=by
    have h0:m≠0:=by rw[←hm];simp
    simpa using h0
   rw[hm];rw[hm] at hb
   go_enter Tryz.func67,Tryz.ntmps67
   go_wp2_with fail
   go_ret
   exact⟨rfl,hb⟩
theorem zC(n:Nat):∀(el:El),ex el≤n→SmE el→∀(d:Nat),d≤20→∀(u:Value) (w:World),bf (fun _=>True) w u el.kids→
  Cr 65 #[.agg (elA el u),.int .i64 (d:Int),.func (.func 66) #[] #[]] w (.bool (qs cn d el)):=by
 induction n with
 |zero=>intro el hd;rw[eu] at hd;omega
 |succ n ih=>
 intro el hd hs d hd20 u w h;obtain⟨a,c,hf⟩:=h.shape;subst hf;obtain⟨sb,sl,sk⟩:=dV hs;have b1:=alb w (Er el a c) 45;have r1:=alz w (Er el a c) 45;have ky:=Af el _ _ (h.below b1);obtain⟨H,IH,HS,HD⟩:=Ci (h.below b1) ih sk hd;clear h ih sk hd hs;rw[mc]
 by_cases h20:20≤d
 ·have g1:decide ((20:Int)≤(d:Int))=true:=aL (by omega)
  rw[if_pos h20];unfold elA
  go_enter Tryz.func65,Tryz.ntmps65
  go_wp2_with fail
  go_ret
  exact⟨rfl,b1⟩
 ·have g1:decide ((20:Int)≤(d:Int))=false:=an (by omega)
  rw[if_neg h20];obtain⟨ANS,hA⟩:=nmm (cn el&&dS cn (d+1) el.kids);rw[hA];have HA0:=hid hA;clear hA;unfold elA at ky⊢
  go_enter Tryz.func65,Tryz.ntmps65
  refine wp_seq ?_;refine aQ ?_;refine aB rfl (kkn ?_);generalize w.alloc (.cells (Er el a c) 45)=w1 at b1 r1 ky H⊢
  go_wp2_with (refine bg rfl 45 (.tmp 3) rfl w.heap.size 45 _ (0,0) (by rfl) r1 _ Tryz.underlying45 rfl (by rfl) ?_)
  refine ag ky ?_;rintro e2 w2 ⟨rfl,hb2⟩;have r2:=bkk hb2 r1;have b2:=btt b1 hb2;have H2:=hid (H.out.below hb2);clear b1 r1 ky H hb2;obtain⟨BP,hp⟩:=nmm (cn el);cases BP with
  |false=>
   have e:ANS=false:=by rw[←HA0.out,hp];rfl
   subst e;rw[hp]
   go_wp2_with fail
   go_ret
   exact⟨rfl,b2⟩
  |true=>
   have hA:dS cn (d+1) el.kids=ANS:=by have:=HA0.out;rw[hp,Bool.true_and] at this;exact this
   have HA:=hid hA;rw[hp];clear hA hp HA0;have q4:=cval r2 4 (.slice a el.kids.length c);clear r2
   go_wp2_with fail
   go_loopw [18] (fun i wr=>∃k:Nat,i=.int .i64 (k:Int)∧k≤el.kids.length∧Below w2.heap.size w2 wr∧dS cn (d+1) (el.kids.drop k)=ANS) (fun i _=>el.kids.length -(RowKit.intOf i).toNat)
   case atStart=>exact⟨0,rfl,Nat.zero_le _,ar _ _,HA.out⟩
   case round=>
    clear q4;obtain⟨k,rfl,hk,hbe,hans⟩:=hrel
    by_cases hkl:k<el.kids.length
    ·obtain⟨e,he⟩:∃e,el.kids[k]?=some e:=⟨el.kids[k],bp hkl⟩
     obtain⟨a',cap',e',_,hsrc⟩:=H2.out.below hbe;cases e';obtain⟨g,o,ha,_,hcells⟩:=hsrc (by intro h0;rw[h0] at hkl;simp at hkl);subst ha;obtain⟨p0,p1,p2,p3,u,p4,hu⟩:=(cE.get el.kids g o k e hcells he).cells;obtain⟨au,cu,hfu⟩:=hu.shape;subst hfu;have hdep:ex e≤n:=by have h1:=eK el.kids k e he;have h2:=eu el;have:=HD.out;omega
     rw[gv he] at hans;simp only[dS] at hans;have i1:(k:Int)<(el.kids.length:Int):=by omega
     have i3:decide ((k:Int)<(el.kids.length:Int))=true:=aL i1;have m1:=alb wr (Er e au cu) 45;have kr:=IH.out e hdep (eV el.kids k e HS.out he) (d+1) (by omega) _ _ (hu.below m1);have b4:=btt hbe m1;have hsz:=hbe.size;have hsm:=m1.size;have HB4:=hid b4;have hdc:((d+1:Nat):Int)=(d:Int)+1:=by omega
     rw[hdc] at kr;clear hdc;clear hsrc hcells he hu b4 m1;cases hv:qs cn (d+1) e with
     |false=>
      rw[hv] at kr hans;rw[Bool.false_and] at hans;subst hans;unfold elA at kr
      go_wp2_with (refine bg rfl 45 (.tmp 8) rfl wr.heap.size 45 _ (0,0) (by rfl) (bi _ _ _ rfl) _ Tryz.underlying45 rfl (by rfl) ?_)
      refine ag kr ?_;rintro e5 w5 ⟨rfl,hb5⟩
      go_wp2_with fail
      go_ret
      exact⟨rfl,b2.trans ((HB4.out.trans (hb5.mono (by omega))).mono b2.size)⟩
     |true=>
      rw[hv] at kr hans;rw[Bool.true_and] at hans;unfold elA at kr;have HANS:=hid hans;clear hans
      go_wp2_with (refine bg rfl 45 (.tmp 8) rfl wr.heap.size 45 _ (0,0) (by rfl) (bi _ _ _ rfl) _ Tryz.underlying45 rfl (by rfl) ?_)
      refine ag kr ?_;rintro e5 w5 ⟨rfl,hb5⟩;have HB5:=hid (HB4.out.trans (hb5.mono (by omega)));clear hb5 kr
      go_wp2_with fail
      exact⟨⟨k+1,by go_num,by omega,HB5.out,HANS.out⟩,by simp[RowKit.intOf];omega⟩
    ·obtain rfl:k=el.kids.length:=by omega
     rw[List.drop_of_length_le (ah _)] at hans;simp only[dS] at hans;subst hans;have i3:decide ((el.kids.length:Int)<(el.kids.length:Int))=false:=an (by omega)
     go_wp2_with fail
     go_ret
     exact⟨rfl,(btt b2 hbe)⟩
theorem me(n:Nat):∀(el:El),ex el≤n→SmE el→∀(d:Nat),d≤20→∀(u:Value) (w:World),bf (fun _=>True) w u el.kids→
  Cr 65 #[.agg (elA el u),.int .i64 (d:Int),.func (.func 67) #[] #[]] w (.bool (qs cB d el)):=by
 induction n with
 |zero=>intro el hd;rw[eu] at hd;omega
 |succ n ih=>
 intro el hd hs d hd20 u w h;obtain⟨a,c,hf⟩:=h.shape;subst hf;obtain⟨sb,sl,sk⟩:=dV hs;have b1:=alb w (Er el a c) 45;have r1:=alz w (Er el a c) 45;have ky:=nb el _ _ (h.below b1);obtain⟨H,IH,HS,HD⟩:=Ci (h.below b1) ih sk hd;clear h ih sk hd hs;rw[mc]
 by_cases h20:20≤d
 ·have g1:decide ((20:Int)≤(d:Int))=true:=aL (by omega)
  rw[if_pos h20];unfold elA
  go_enter Tryz.func65,Tryz.ntmps65
  go_wp2_with fail
  go_ret
  exact⟨rfl,b1⟩
 ·have g1:decide ((20:Int)≤(d:Int))=false:=an (by omega)
  rw[if_neg h20];obtain⟨ANS,hA⟩:=nmm (cB el&&dS cB (d+1) el.kids);rw[hA];have HA0:=hid hA;clear hA;unfold elA at ky⊢
  go_enter Tryz.func65,Tryz.ntmps65
  refine wp_seq ?_;refine aQ ?_;refine aB rfl (kkn ?_);generalize w.alloc (.cells (Er el a c) 45)=w1 at b1 r1 ky H⊢
  go_wp2_with (refine bg rfl 45 (.tmp 3) rfl w.heap.size 45 _ (0,0) (by rfl) r1 _ Tryz.underlying45 rfl (by rfl) ?_)
  refine ag ky ?_;rintro e2 w2 ⟨rfl,hb2⟩;have r2:=bkk hb2 r1;have b2:=btt b1 hb2;have H2:=hid (H.out.below hb2);clear b1 r1 ky H hb2;obtain⟨BP,hp⟩:=nmm (cB el);cases BP with
  |false=>
   have e:ANS=false:=by rw[←HA0.out,hp];rfl
   subst e;rw[hp]
   go_wp2_with fail
   go_ret
   exact⟨rfl,b2⟩
  |true=>
   have hA:dS cB (d+1) el.kids=ANS:=by have:=HA0.out;rw[hp,Bool.true_and] at this;exact this
   have HA:=hid hA;rw[hp];clear hA hp HA0;have q4:=cval r2 4 (.slice a el.kids.length c);clear r2
   go_wp2_with fail
   go_loopw [18] (fun i wr=>∃k:Nat,i=.int .i64 (k:Int)∧k≤el.kids.length∧Below w2.heap.size w2 wr∧dS cB (d+1) (el.kids.drop k)=ANS) (fun i _=>el.kids.length -(RowKit.intOf i).toNat)
   case atStart=>exact⟨0,rfl,Nat.zero_le _,ar _ _,HA.out⟩
   case round=>
    clear q4;obtain⟨k,rfl,hk,hbe,hans⟩:=hrel
    by_cases hkl:k<el.kids.length
    ·obtain⟨e,he⟩:∃e,el.kids[k]?=some e:=⟨el.kids[k],bp hkl⟩
     obtain⟨a',cap',e',_,hsrc⟩:=H2.out.below hbe;cases e';obtain⟨g,o,ha,_,hcells⟩:=hsrc (by intro h0;rw[h0] at hkl;simp at hkl);subst ha;obtain⟨p0,p1,p2,p3,u,p4,hu⟩:=(cE.get el.kids g o k e hcells he).cells;obtain⟨au,cu,hfu⟩:=hu.shape;subst hfu;have hdep:ex e≤n:=by have h1:=eK el.kids k e he;have h2:=eu el;have:=HD.out;omega
     rw[gv he] at hans;simp only[dS] at hans;have i1:(k:Int)<(el.kids.length:Int):=by omega
     have i3:decide ((k:Int)<(el.kids.length:Int))=true:=aL i1;have m1:=alb wr (Er e au cu) 45;have kr:=IH.out e hdep (eV el.kids k e HS.out he) (d+1) (by omega) _ _ (hu.below m1);have b4:=btt hbe m1;have hsz:=hbe.size;have hsm:=m1.size;have HB4:=hid b4;have hdc:((d+1:Nat):Int)=(d:Int)+1:=by omega
     rw[hdc] at kr;clear hdc;clear hsrc hcells he hu b4 m1;cases hv:qs cB (d+1) e with
     |false=>
      rw[hv] at kr hans;rw[Bool.false_and] at hans;subst hans;unfold elA at kr
      go_wp2_with (refine bg rfl 45 (.tmp 8) rfl wr.heap.size 45 _ (0,0) (by rfl) (bi _ _ _ rfl) _ Tryz.underlying45 rfl (by rfl) ?_)
      refine ag kr ?_;rintro e5 w5 ⟨rfl,hb5⟩
      go_wp2_with fail
      go_ret
      exact⟨rfl,b2.trans ((HB4.out.trans (hb5.mono (by omega))).mono b2.size)⟩
     |true=>
      rw[hv] at kr hans;rw[Bool.true_and] at hans;unfold elA at kr;have HANS:=hid hans;clear hans
      go_wp2_with (refine bg rfl 45 (.tmp 8) rfl wr.heap.size 45 _ (0,0) (by rfl) (bi _ _ _ rfl) _ Tryz.underlying45 rfl (by rfl) ?_)
      refine ag kr ?_;rintro e5 w5 ⟨rfl,hb5⟩;have HB5:=hid (HB4.out.trans (hb5.mono (by omega)));clear hb5 kr
      go_wp2_with fail
      exact⟨⟨k+1,by go_num,by omega,HB5.out,HANS.out⟩,by simp[RowKit.intOf];omega⟩
    ·obtain rfl:k=el.kids.length:=by omega
     rw[List.drop_of_length_le (ah _)] at hans;simp only[dS] at hans;subst hans;have i3:decide ((el.kids.length:Int)<(el.kids.length:Int))=false:=an (by omega)
     go_wp2_with fail
     go_ret
     exact⟨rfl,(btt b2 hbe)⟩
theorem rp(n:Nat):∀(el:El),ex el≤n→SmE el→∀(d:Nat),d≤20→∀(u:Value) (w:World),bf (fun _=>True) w u el.kids→
  Cr 68 #[.agg (elA el u),.int .i64 (d:Int)] w (.bool (eW d el)):=by
 induction n with
 |zero=>intro el hd;rw[eu] at hd;omega
 |succ n ih=>
 intro el hd hs d hd20 u w h;obtain⟨a,c,hf⟩:=h.shape;subst hf;obtain⟨sb,sl,sk⟩:=dV hs;have b1:=alb w (Er el a c) 45;have r1:=alz w (Er el a c) 45;obtain⟨H,IH,HS,HD⟩:=Ci (h.below b1) ih sk hd;clear h ih sk hd hs;rw[ro]
 by_cases h20:20≤d
 ·have g1:decide ((20:Int)≤(d:Int))=true:=aL (by omega)
  rw[if_pos h20];unfold elA
  go_enter Tryz.func68,Tryz.ntmps68
  go_wp2_with fail
  go_ret
  exact⟨rfl,b1⟩
 ·have g1:decide ((20:Int)≤(d:Int))=false:=an (by omega)
  rw[if_neg h20];obtain⟨ANS,hA⟩:=nmm (eX (d+1) el.kids);rw[hA];have HA:=hid hA;clear hA;unfold elA
  go_enter Tryz.func68,Tryz.ntmps68
  refine wp_seq ?_;refine aQ ?_;refine aB rfl (kkn ?_);generalize w.alloc (.cells (Er el a c) 45)=w2 at b1 r1 H⊢;have q4:=cval r1 4 (.slice a el.kids.length c);clear r1
  go_wp2_with fail
  go_loopw [12] (fun i wr=>∃k:Nat,i=.int .i64 (k:Int)∧k≤el.kids.length∧Below w2.heap.size w2 wr∧eX (d+1) (el.kids.drop k)=ANS) (fun i _=>el.kids.length -(RowKit.intOf i).toNat)
  case atStart=>exact⟨0,rfl,Nat.zero_le _,ar _ _,HA.out⟩
  case round=>
   clear q4;obtain⟨k,rfl,hk,hbe,hans⟩:=hrel
   by_cases hkl:k<el.kids.length
   ·obtain⟨e,he⟩:∃e,el.kids[k]?=some e:=⟨el.kids[k],bp hkl⟩
    obtain⟨a',cap',e',_,hsrc⟩:=H.out.below hbe;cases e';obtain⟨g,o,ha,_,hcells⟩:=hsrc (by intro h0;rw[h0] at hkl;simp at hkl);subst ha;obtain⟨p0,p1,p2,p3,u,p4,hu⟩:=(cE.get el.kids g o k e hcells he).cells;obtain⟨au,cu,hfu⟩:=hu.shape;subst hfu;have hdep:ex e≤n:=by have h1:=eK el.kids k e he;have h2:=eu el;have:=HD.out;omega
    rw[gv he] at hans;simp only[eX] at hans;have i1:(k:Int)<(el.kids.length:Int):=by omega
    have i3:decide ((k:Int)<(el.kids.length:Int))=true:=aL i1;have m1:=alb wr (Er e au cu) 45;have kr:=IH.out e hdep (eV el.kids k e HS.out he) (d+1) (by omega) _ _ (hu.below m1);have hsz:=hbe.size;have hsm:=m1.size;have HB4:=hid ((btt hbe m1));have hdc:((d+1:Nat):Int)=(d:Int)+1:=by omega
    rw[hdc] at kr;clear hdc;clear hsrc hcells he hu m1;cases hv:eW (d+1) e with
    |true=>
     rw[hv] at kr hans;rw[Bool.true_or] at hans;subst hans;unfold elA at kr
     go_wp2_with (refine bg rfl 45 (.tmp 6) rfl wr.heap.size 45 _ (0,0) (by rfl) (bi _ _ _ rfl) _ Tryz.underlying45 rfl (by rfl) ?_)
     refine ag kr ?_;rintro e5 w5 ⟨rfl,hb5⟩
     go_wp2_with fail
     go_ret
     exact⟨rfl,b1.trans ((HB4.out.trans (hb5.mono (by omega))).mono b1.size)⟩
    |false=>
     rw[hv] at kr hans;rw[Bool.false_or] at hans;unfold elA at kr;have HANS:=hid hans;clear hans
     go_wp2_with (refine bg rfl 45 (.tmp 6) rfl wr.heap.size 45 _ (0,0) (by rfl) (bi _ _ _ rfl) _ Tryz.underlying45 rfl (by rfl) ?_)
     refine ag kr ?_;rintro e5 w5 ⟨rfl,hb5⟩;have HB5:=hid (HB4.out.trans (hb5.mono (by omega)));clear hb5 kr
     go_wp2_with fail
     exact⟨⟨k+1,by go_num,by omega,HB5.out,HANS.out⟩,by simp[RowKit.intOf];omega⟩
   ·obtain rfl:k=el.kids.length:=by omega
    rw[List.drop_of_length_le (ah _)] at hans;simp only[eX] at hans;subst hans;have i3:decide ((el.kids.length:Int)<(el.kids.length:Int))=false:=an (by omega)
    go_wp2_with fail
    go_ret
    exact⟨rfl,(btt b1 hbe)⟩
def jw(N:Nat):Prop:=∀n,n≤N→∀w:World,Calls Tryz.prog 109 #[.int .i64 (n:Int)] w fun e w'=>e=.returned (.string ⟨(cd n).toArray⟩)∧Below w.heap.size w w'
theorem iw(el:El):bK el=min (1+(cd (min (cw el.bytes.length el.kids) 65537)).length+cw el.bytes.length el.kids) 65537:=by
 cases el;simp only[bK,El.bytes,El.kids]
theorem fV(el:El):bK el≤65537:=by rw[iw];omega
theorem jJ:∀(l:List El) (n:Nat),min n 65537≤cw n l
 |[],n=>by simp only[cw];omega
 |e::r,n=>by
  simp only[cw];have:=jJ r (min (n+bK e) 65537)
  omega
theorem gP:∀(l:List El) (n j:Nat) (e:El),l[j]?=some e→bK e≤cw n l
 |[],_,_,_,h=>by simp at h
 |x::r,n,0,e,h=>by
  simp at h;subst h
  simp only[cw];have h1:=jJ r (min (n+bK x) 65537);have h2:=fV x
  omega
 |x::r,n,j+1,e,h=>by
  simp only[cw];exact gP r _ j e (by simpa using h)
theorem jW(n:Nat):1≤(cd n).length∧(cd n).length≤4:=by
 unfold cd
 split
 ·simp
 ·split
  ·simp
  ·split<;>simp
theorem ix(el:El):min (cw el.bytes.length el.kids) 65537≤bK el:=by
 rw[iw];omega
theorem jK(N:Nat)(hN:jw N)(n:Nat):∀(el:El),ex el≤n→SmE el→bK el≤N→∀(u:Value) (w:World),bf (fun _=>True) w u el.kids→
  Cr 69 #[.agg (elA el u)] w (.int .i64 (bK el:Int)):=by
 induction n with
 |zero=>intro el hd;rw[eu] at hd;omega
 |succ n ih=>
 intro el hd hs hz u w h;obtain⟨a,c,hf⟩:=h.shape;subst hf;obtain⟨sb,sl,sk⟩:=dV hs;have b1:=alb w (Er el a c) 45;have r1:=alz w (Er el a c) 45;obtain⟨H,IH,HS,HD,HN⟩:=Cj (h.below b1) ih sk hd hN;have hzk:=ix el;have HKS:=hid (fun(j:Nat) (e:El) (he:el.kids[j]?=some e)=>(show bK e≤N from by
  have h1:=gP el.kids el.bytes.length j e he;have h2:=fV e
  omega))
 clear h ih sk hd hs;obtain⟨ANS,hA⟩:=nmm (cw el.bytes.length el.kids);have hres:bK el=min (1+(cd (min ANS 65537)).length+ANS) 65537:=by rw[iw,hA]
 rw[hA] at hzk;have klen:=HN.out (min ANS 65537) (by omega);obtain⟨L,hL⟩:=nmm (cd (min ANS 65537));have hL4:=jW (min ANS 65537);rw[hL] at hres klen hL4;generalize hR:bK el=R;rw[hR] at hres;obtain⟨HA,HRES⟩:=Cg hA hres;clear hA hL hres hR hz hzk;unfold elA
 go_enter Tryz.func69,Tryz.ntmps69
 refine wp_seq ?_;refine aQ ?_;refine aB rfl (kkn ?_);generalize w.alloc (.cells (Er el a c) 45)=w2 at b1 r1 H⊢;have q4:=cval r1 4 (.slice a el.kids.length c);have q3:=cval r1 3 (.string ⟨el.bytes.toArray⟩);clear r1
 go_wp2_with fail
 go_loopw [3,12] (fun v i wr=>∃k m:Nat,i=.int .i64 (k:Int)∧v=.int .i64 (m:Int)∧m≤1000000000∧k≤el.kids.length∧Below w2.heap.size w2 wr∧cw m (el.kids.drop k)=ANS) (fun _ i _=>el.kids.length -(RowKit.intOf i).toNat)
 case atStart=>exact⟨0,el.bytes.length,rfl,rfl,sb,Nat.zero_le _,ar _ _,HA.out⟩
 case round=>
  clear q4 q3;obtain⟨k,m,rfl,rfl,hm,hk,hbe,hans⟩:=hrel
  by_cases hkl:k<el.kids.length
  ·obtain⟨e,he⟩:∃e,el.kids[k]?=some e:=⟨el.kids[k],bp hkl⟩
   obtain⟨a',cap',e',_,hsrc⟩:=H.out.below hbe;cases e';obtain⟨g,o,ha,_,hcells⟩:=hsrc (by intro h0;rw[h0] at hkl;simp at hkl);subst ha;obtain⟨p0,p1,p2,p3,u,p4,hu⟩:=(cE.get el.kids g o k e hcells he).cells;obtain⟨au,cu,hfu⟩:=hu.shape;subst hfu;have hdep:ex e≤n:=by have h1:=eK el.kids k e he;have h2:=eu el;have:=HD.out;omega
   rw[gv he] at hans;simp only[cw] at hans;have i1:(k:Int)<(el.kids.length:Int):=by omega
   have i3:decide ((k:Int)<(el.kids.length:Int))=true:=aL i1;have m1:=alb wr (Er e au cu) 45;have kr:=IH.out e hdep (eV el.kids k e HS.out he) (HKS.out k e he) _ _ (hu.below m1);have hsz:=hbe.size;have hsm:=m1.size;have HB4:=hid ((btt hbe m1));have hse:=fV e;obtain⟨z,hzz⟩:=nmm (bK e);rw[hzz] at kr hans hse;have HANS:=hid hans;have hw1:IntKind.i64.wrap ((m:Int)+(z:Int))=(m:Int)+(z:Int):=by rw[aK];omega
   clear hsrc hcells he hu m1 hzz hans;unfold elA at kr
   go_wp2_with (refine bg rfl 45 (.tmp 5) rfl wr.heap.size 45 _ (0,0) (by rfl) (bi _ _ _ rfl) _ Tryz.underlying45 rfl (by rfl) ?_)
   refine ag kr ?_;rintro e5 w5 ⟨rfl,hb5⟩;have HB5:=hid (HB4.out.trans (hb5.mono (by omega)));clear hb5 kr
   go_wp2_with fail
   exact⟨⟨k+1,min (m+z) 65537,by go_num,by rw[show(min ((m:Int)+(z:Int)) 65537)=((min (m+z) 65537:Nat):Int) by omega],by omega,by omega,HB5.out,HANS.out⟩,by simp[RowKit.intOf];omega⟩
  ·obtain rfl:k=el.kids.length:=by omega
   rw[List.drop_of_length_le (ah _)] at hans;simp only[cw] at hans;subst hans;have hmin:((min m 65537:Nat):Int)=min (m:Int) 65537:=by omega
   rw[hmin] at klen;clear hmin;have kl:=klen wr;clear klen;have i3:decide ((el.kids.length:Int)<(el.kids.length:Int))=false:=an (by omega)
   go_wp2_with fail
   refine ag kl ?_;rintro e5 w5 ⟨rfl,hb5⟩;obtain⟨q,hq⟩:=nmm L.length;have hres:=HRES.out;rw[hq] at hL4 hres;have hw1:IntKind.i64.wrap (1+(q:Int))=1+(q:Int):=by rw[aK];omega
   have hw2:IntKind.i64.wrap (1+(q:Int)+(m:Int))=1+(q:Int)+(m:Int):=by rw[aK];omega
   have hfin:(min (1+(q:Int)+(m:Int)) 65537)=(R:Int):=by omega
   have HF:=hid hfin;have b5:=b1.trans (((btt hbe hb5)).mono b1.size);clear hres hfin kl hb5
   go_wp2_with fail
   go_ret
   exact⟨by rw[HF.out];rfl,b5⟩
theorem Tryz.wBuilder:(Tryz.prog.info? 101).map (fun i=>decide (i.size≠0))=some true:=by kernel_rfl
theorem Tryz.wLies:liesAt Tryz.prog Tryz.prog.depth 101 (2/Tryz.prog.cellsOf 101) 0 101 1=true:=by kernel_rfl
theorem Tryz.infoByte:(Tryz.prog.info? 5).map (fun i=>(i.zero,i.size,i.bytes))=some (some (.int .u8 0),1,1):=by kernel_rfl
theorem Tryz.cellsByte:Tryz.prog.cellsOf 5=1:=by kernel_rfl
theorem tG(b:Nat)(w:World)(h0:w.cell? ⟨b,0,none⟩=some (.pointer (some ⟨b,0,none⟩))):
  Calls Tryz.prog 160 #[.pointer (some ⟨b,0,none⟩)] w fun e w'=>e=.returned (.tuple #[])∧w'=w:=by
 obtain⟨j,hj,_⟩:=cp.1 Tryz.wBuilder
 go_enter Tryz.func160,Tryz.ntmps160
 go_wp2
 rw[Lib.run_neq_ptr_same w _ Tryz.underlying99 hj]
 go_wp2
 go_end0
 exact⟨rfl,rfl⟩
theorem sM(b:Nat)(w:World)(h0:w.cell? ⟨b,0,none⟩=some (.pointer none))(hsh:w.shape? b=some (101,2))(hfz:w.frozen? ⟨b,0,none⟩=false):
  Calls Tryz.prog 160 #[.pointer (some ⟨b,0,none⟩)] w fun e w'=>e=.returned (.tuple #[])∧w'=w.setCell ⟨b,0,none⟩ (.pointer (some ⟨b,0,none⟩)):=by
 obtain⟨j,hj,hjs⟩:=cp.1 Tryz.wBuilder;have hjs2:=of_decide_eq_true hjs;have r1:=Lib.run_to_unsafe (P:=Tryz.prog) w ⟨b,0,none⟩ Tryz.underlying99 Tryz.underlying179 hj hjs2 hsh (Nat.zero_lt_succ 1);have r2:=Lib.run_from_unsafe (P:=Tryz.prog) w ⟨b,0,none⟩ Tryz.underlying179 Tryz.underlying99 hj hsh Tryz.wLies;clear hjs hjs2
 go_enter Tryz.func160,Tryz.ntmps160
 go_wp2
 rw[run_callFunc_extern Tryz.func172 (by kernel_rfl) (by kernel_rfl) (by kernel_rfl) (e:=Extern.AbiNoEscape.same) (by kernel_rfl)];rw[Lib.run_noEscape];simp only[Result.andThen];rw[Oper.upon_value]
 go_wp2
 go_end0
 exact⟨rfl,rfl⟩
def WAt(B b:Nat)(p:Value)(l:List UInt8)(w:World):Prop:=Lib.BuilderAt 101 5 B b p (bV l) w
def IsW(B b:Nat)(l:List UInt8)(w:World):Prop:=Lib.IsBuilder 101 5 B b (bV l) w
def dE(b:Nat)(w w':World):Prop:=w.heap.size≤w'.heap.size∧∀(j:Nat) (cs:Array Value) (t:TypeId) (fz:Nat×Nat),w.heap[j]?=some (.cells cs t fz)→j≠b→t≠5→w'.heap[j]?=some (.cells cs t fz)
theorem dE.refl(b:Nat)(w:World):dE b w w:=⟨ah _,fun _ _ _ _ h _ _=>h⟩
theorem dE.trans{b:Nat}{x y z:World}(h:dE b x y)(k:dE b y z):dE b x z:=⟨Nat.le_trans h.1 k.1,fun j cs t fz hj hne ht=>k.2 j cs t fz (h.2 j cs t fz hj hne ht) hne ht⟩
theorem dE.of_below{b:Nat}{w w':World}(h:Below w.heap.size w w'):dE b w w':=⟨h.size,fun j _ _ _ hj _ _=>(h.block j (gl hj)).trans hj⟩
theorem dE.set{b:Nat}{x w:World}(h:dE b x w)(i:Nat)(v:Value):dE b x (w.setCell ⟨b,i,none⟩ v):=
 ⟨by simpa using h.1,fun j cs t fz hj hne ht=>(heap_setCell_other w ⟨b,i,none⟩ j v hne).trans (h.2 j cs t fz hj hne ht)⟩
theorem dE.alloc{b:Nat}{x w:World}(h:dE b x w)(o:Obj):dE b x (w.alloc o):=h.trans (dE.of_below ((ar _ _).alloc (ah _) o))
theorem dE.grown{b B n:Nat}{x w w':World}{v:Value}{xs:List Value}(h:dE b x w)(ho:w.ownsRow B 5 1 v n xs)(hg:w.grownBy w' v.ownBlock):dE b x w':=by
 refine⟨Nat.le_trans h.1 hg.size,fun j cs t fz hj hne ht=>?_⟩;have h1:=h.2 j cs t fz hj hne ht;rw[hg.block j (gl h1) ?_]
 ·exact h1
 ·intro e
  rcases ho.2 with⟨hv,_⟩|⟨g,cap,cur,hv,_,hh,_⟩
  ·rw[hv] at e;cases e
  ·rw[hv] at e
   have e2:j=g:=aD e;subst e2;rw[hh] at h1;cases h1;exact ht rfl
theorem jD(B b:Nat)(l:List UInt8)(w:World)(h:IsW B b l w):
  Calls Tryz.prog 160 #[.pointer (some ⟨b,0,none⟩)] w fun e w'=>e=.returned (.tuple #[])∧(WAt B b (.pointer (some ⟨b,0,none⟩)) l w'∧Below B w w'∧dE b w w'):=by
 rcases h with h|h
 ·refine(sM b w h.cell0 h.shape h.frozen0).mono ?_
  rintro e w' ⟨rfl,rfl⟩;exact⟨rfl,h.used _,(ar B w).setCell (p:=⟨b,0,none⟩) h.1 _,(dE.refl b w).set 0 _⟩
 ·refine(tG b w h.cell0).mono ?_
  rintro e w' ⟨rfl,rfl⟩;exact⟨rfl,h,ar B _,dE.refl b _⟩
theorem jE(B b:Nat)(l:List UInt8)(c:UInt8)(w:World)(h:IsW B b l w)(hlen:l.length≤1099511627776)(hBw:B≤w.heap.size):
  Calls Tryz.prog 110 #[.pointer (some ⟨b,0,none⟩),.int .u8 (c.toNat:Int)] w fun e w'=>e=.returned .nilIface∧(IsW B b (l++[c]) w'∧Below B w w'∧dE b w w'):=by
 obtain⟨i0,hi,hz0,hz1,hz2⟩:=info_parts Tryz.infoByte;have k1:=jD B b l w h;clear h
 go_enter Tryz.func110,Tryz.ntmps110
 go_wp2_with (go_at_call 160;refine k1.mono ?_)
 rintro e w1 ⟨rfl,h1,hb1,hkw1⟩;obtain⟨hB,v,hbk,hown,hne⟩:=h1;rw[fD] at hown;have c0:w1.cell? ⟨b,0,none⟩=some (.pointer (some ⟨b,0,none⟩)):=by rw[ap hbk];rfl
 have c1:w1.cell? ⟨b,1,none⟩=some v:=by rw[ap hbk];rfl
 go_wp2_with (at_builtin;refine wpList_append_own _ rfl _ _ 39 rfl B 5 i0 (.int .u8 0) 1 1 Tryz.underlying39 hi hz0 hz1 hz2 rfl (by decide) _ _ _ rfl (hown.alloc _) ⟨w1.heap.size,0,none⟩ 1 1 [.int .u8 c.toNat] rfl rfl (cell_one_new _ _ _) ?c2 ?c3 ?c4 ?c5 ?_)
 case c2=>intro u hu;simp at hu;subst hu;rfl
 case c3=>unfold maxLen;omega
 case c4=>omega
 case c5=>have:=hb1.size;simp;omega
 intro v' w2 hown' hgrow _;have hlt:b<w1.heap.size:=by
  rcases Nat.lt_or_ge b w1.heap.size with h'|h'
  ·exact h'
  ·simp[Array.getElem?_eq_none h'] at hbk
 have hb2:w2.heap[b]?=some (.cells #[.pointer (some ⟨b,0,none⟩),v] 101 (0,0)):=by
  rw[hgrow.block b (by simp;omega) (fun e=>hne e.symm),alloc_old w1 _ b hlt];exact hbk
 have d0:w2.cell? ⟨b,0,none⟩=some (.pointer (some ⟨b,0,none⟩)):=by rw[ap hb2];rfl
 have d1:w2.cell? ⟨b,1,none⟩=some v:=by rw[ap hb2];rfl
 have f1:w2.frozen? ⟨b,1,none⟩=false:=aj hb2 1;obtain⟨g,cap,rfl⟩:∃g cap,v'=.slice (some ⟨g,0,none⟩) (l.length+1) cap:=by
  rcases hown'.2 with⟨_,h0⟩|⟨g,cap,cur,hv,_⟩
  ·omega
  ·exact⟨g,cap,hv⟩
 go_wp2
 go_ret
 refine⟨rfl,.inr ?_,?_,((hkw1.alloc _).grown (hown.alloc _) hgrow).set 1 _⟩
 ·rw[kU]
  exact Lib.BuilderAt.put (T:=101) (e:=5) hB hb2 (bs':=bV l++[.int .u8 c.toNat]) (by simpa[fD] using hown') (by decide)
 ·exact((hb1.alloc (by have:=hb1.size;omega) _).grown hgrow (by have:=hb1.size;simp;omega) (fun k hk=>(hown.lt k hk).1)).setCell (p:=⟨b,1,none⟩) hB _
theorem fk(B b:Nat)(l s:List UInt8)(w:World)(h:IsW B b l w)(hlen:l.length≤1099511627776)(hs:s.length≤8796093022208)(hBw:B≤w.heap.size):
  Calls Tryz.prog 111 #[.pointer (some ⟨b,0,none⟩),.string ⟨s.toArray⟩] w fun e w'=>e=.returned (.tuple #[.int .i64 s.length,.nilIface])∧(IsW B b (l++s) w'∧Below B w w'∧dE b w w'):=by
 obtain⟨i0,hi,hz0,hz1,hz2⟩:=info_parts Tryz.infoByte;have k1:=jD B b l w h;clear h;have hs2:(⟨s.toArray⟩:ByteArray).size=s.length:=Lib.size_mk _
 go_enter Tryz.func111,Tryz.ntmps111
 go_wp2_with (go_at_call 160;refine k1.mono ?_)
 rintro e w1 ⟨rfl,h1,hb1,hkw1⟩;obtain⟨hB,v,hbk,hown,hne⟩:=h1;rw[fD] at hown;have c0:w1.cell? ⟨b,0,none⟩=some (.pointer (some ⟨b,0,none⟩)):=by rw[ap hbk];rfl
 have c1:w1.cell? ⟨b,1,none⟩=some v:=by rw[ap hbk];rfl
 go_wp2_with (at_builtin;refine Lib.wpList_append_own_string _ rfl _ _ 39 9 rfl B 5 i0 Tryz.underlying39 Tryz.underlying9 hi hz0 hz1 hz2 _ _ _ rfl hown ⟨s.toArray⟩ rfl ?c3 ?c4 ?c5 ?_)
 case c3=>unfold maxLen;omega
 case c4=>omega
 case c5=>have:=hb1.size;omega
 intro v' w2 hown' hgrow _;have hlt:b<w1.heap.size:=by
  rcases Nat.lt_or_ge b w1.heap.size with h'|h'
  ·exact h'
  ·simp[Array.getElem?_eq_none h'] at hbk
 have hb2:w2.heap[b]?=some (.cells #[.pointer (some ⟨b,0,none⟩),v] 101 (0,0)):=by
  rw[hgrow.block b hlt (fun e=>hne e.symm)];exact hbk
 have d0:w2.cell? ⟨b,0,none⟩=some (.pointer (some ⟨b,0,none⟩)):=by rw[ap hb2];rfl
 have d1:w2.cell? ⟨b,1,none⟩=some v:=by rw[ap hb2];rfl
 have f1:w2.frozen? ⟨b,1,none⟩=false:=aj hb2 1;obtain⟨ao,n',cap,rfl⟩:∃ao n' cap,v'=.slice ao n' cap:=by
  rcases hown'.2 with⟨hv,_⟩|⟨g,cap,cur,hv,_⟩
  ·exact⟨_,_,_,hv⟩
  ·exact⟨_,_,_,hv⟩
 go_wp2
 go_ret2
 refine⟨rfl,.inr ?_,?_,(hkw1.grown hown hgrow).set 1 _⟩
 ·rw[kU]
  exact Lib.BuilderAt.put (T:=101) (e:=5) hB hb2 (bs':=bV l++bV s) (by simpa[fD,mY] using hown') (by decide)
 ·exact(hb1.grown hgrow (by have:=hb1.size;omega) (fun k hk=>(hown.lt k hk).1)).setCell (p:=⟨b,1,none⟩) hB _
theorem rs(B b:Nat)(l:List UInt8)(w:World)(h:IsW B b l w)(h0:l≠[]):
  Calls Tryz.prog 71 #[.pointer (some ⟨b,0,none⟩)] w fun e w'=>e=.returned (.string ⟨l.toArray⟩)∧Below B w w':=by
 obtain⟨p,hB,v,hbk,hown,hne⟩:∃p,WAt B b p l w:=by
  rcases h with h|h
  ·exact⟨_,h⟩
  ·exact⟨_,h⟩
 have hl0:l.length≠0:=by simpa using h0
 rw[fD] at hown;obtain⟨g,cap,cur,rfl,hbg,hg,hnc,hcm,hcs,htake⟩:∃g cap cur,v=.slice (some ⟨g,0,none⟩) l.length cap∧B≤g∧w.heap[g]?=some (.cells cur 5 (0,0))∧l.length≤cap∧cap≤maxLen∧cur.size=cap*1∧cur.toList.take (l.length*1)=bV l:=by
  rcases hown.2 with⟨_,hz⟩|⟨g,cap,cur,hv,r⟩
  ·exact absurd hz hl0
  ·exact⟨g,cap,cur,hv,r⟩
 have c1:w.drew.cell? ⟨b,1,none⟩=some (.slice (some ⟨g,0,none⟩) l.length cap):=by
  have:w.drew.heap[b]?=some (.cells #[p,.slice (some ⟨g,0,none⟩) l.length cap] 101 (0,0)):=hbk;rw[ap this];rfl
 have hSD:(Builtin.unsafeSliceData_ #[39] 142 #[.slice (some ⟨g,0,none⟩) l.length cap]).run Tryz.prog w.drew=.ok (.pointer (some ⟨g,0,none⟩)) w.drew:=
  Lib.run_unsafeSliceData_row _ _ _ _ _ _ (by omega)
 have hUS:(Builtin.unsafeString_ #[142,3] 9 #[.pointer (some ⟨g,0,none⟩),.int .i64 l.length]).run Tryz.prog w.drew=.ok (.string ⟨l.toArray⟩) (w.drew.freeze ⟨g,0,none⟩ l.length):=by
  refine Lib.run_unsafeString_row w.drew 142 3 9 5 Tryz.underlying142 Tryz.cellsByte g cur.size (by have hg':w.drew.heap[g]?=some (.cells cur 5 (0,0)):=hg;simp[World.shape?,hg']) l h0 (by omega) (by unfold maxLen at hcm;omega) ?_;intro j x hx;exact hown.cells (g:=g) rfl j (.int .u8 x.toNat) (by simp[bV,hx])
 clear htake hcs hg h
 go_enter Tryz.func71,Tryz.ntmps71
 go_wp2
 go_region
 all_goals (go_wp2;go_ret;exact⟨rfl,Lib.below_freeze (Below.drew (ar B w)) (p:=⟨g,0,none⟩) hbg _⟩)
theorem mx:jw 127:=by
 intro n hn w;have g1:decide ((n:Int)<128)=true:=aL (by omega);have hl:cd n=[UInt8.ofNat n]:=by unfold cd;rw[if_pos (by omega)]
 rw[hl];have hw1:IntKind.u8.wrap (n:Int)=(n:Int):=by rw[IntKind.wrap_u8];omega
 have hnb:(UInt8.ofNat n).toNat=n:=by simp[UInt8.toNat_ofNat'];omega
 have hcv:(convert 39 9 (.slice (some ⟨w.heap.size,0,none⟩) 1 1)).run Tryz.prog (w.alloc (.cells #[.int .u8 (n:Int)] 5))=.ok (.string ⟨#[UInt8.ofNat n]⟩) (w.alloc (.cells #[.int .u8 (n:Int)] 5)):=
  eU _ _ _ 5 _ 1 [UInt8.ofNat n] Tryz.underlying39 Tryz.underlying5 Tryz.underlying9 (by rw[show bV [UInt8.ofNat n]=[.int .u8 (n:Int)] by simp[bV,hnb]];exact World.news_of_block (bi _ _ _ rfl))
 have b1:=alb w #[.int .u8 (n:Int)] 5;clear hnb hl
 go_enter Tryz.func109,Tryz.ntmps109
 go_wp2_with fail
 go_ret
 exact⟨rfl,b1⟩
theorem IsW.below{B b:Nat}{l:List UInt8}{w w':World}(h:IsW B b l w)(hb:Below w.heap.size w w'):IsW B b l w':=by
 have:∀p,WAt B b p l w→WAt B b p l w':=by
  rintro p ⟨hB,v,hbk,hown,hne⟩;exact⟨hB,v,by rw[hb.block b (gl hbk)];exact hbk,ge hown hb,hne⟩
 exact h.elim (fun x=>.inl (this _ x)) (fun x=>.inr (this _ x))
mutual
def jO(p:El→Bool):El→Prop
 | .mk c t k b ks=>p (.mk c t k b ks)=true∧iI p ks
def iI(p:El→Bool):List El→Prop
 |[]=>True
 |e::r=>jO p e∧iI p r
end
mutual
theorem qB(p:El→Bool):∀(d:Nat) (e:El),qs p d e=true→eW d e=false→jO p e
 |d,.mk c t k b ks,h,hd=>by
  simp only[qs,eW] at h hd
  by_cases h20:20≤d
  ·rw[if_pos h20] at hd;cases hd
  ·rw[if_neg h20] at h hd
   simp only[aI] at h;simp only[jO];exact⟨h.1,zM p (d+1) ks h.2 hd⟩
theorem zM(p:El→Bool):∀(d:Nat) (l:List El),dS p d l=true→eX d l=false→iI p l
 |_,[],_,_=>by simp only[iI]
 |d,e::r,h,hd=>by
  simp only[dS,eX,aI,Bool.or_eq_false_iff] at h hd;simp only[iI];exact⟨qB p d e h.1 hd.1,zM p d r h.2 hd.2⟩
end
theorem pd{p:El→Bool}{e:El}(h:jO p e):p e=true∧iI p e.kids:=by
 cases e
 simpa only[jO,El.kids] using h
theorem jP{p:El→Bool}:∀(l:List El) (j:Nat) (e:El),iI p l→l[j]?=some e→jO p e
 |[],_,_,_,h=>by simp at h
 |x::r,0,e,h,hj=>by simp at hj;subst hj;simp only[iI] at h;exact h.1
 |x::r,j+1,e,h,hj=>by simp only[iI] at h;exact jP r j e h.2 (by simpa using hj)
theorem gW:∀(l:List El) (n:Nat),cw n l<65537→cw n l=n+bR l
 |[],n,_=>by simp only[cw,bR];omega
 |e::r,n,h=>by
  simp only[cw,bR] at h⊢;have h1:=jJ r (min (n+bK e) 65537);have h2:min (n+bK e) 65537=n+bK e:=by omega
  rw[h2] at h⊢;rw[gW r _ h]
  omega
theorem jf:∀(l:List El) (k:Nat),bR (l.take k)≤bR l
 |[],_=>by simp[bR]
 |x::r,0=>by simp[bR]
 |x::r,k+1=>by
  have:=jf r k;simp only[List.take_succ_cons,bR]
  omega
theorem jg:∀(l:List El) (e:El),bR (l++[e])=bR l+bK e
 |[],e=>by simp[bR]
 |x::r,e=>by
  have:=jg r e;simp only[List.cons_append,bR,this]
  omega
theorem jh:∀(l:List El) (e:El),dq (l++[e])=dq l++eJ e
 |[],e=>by simp[dq]
 |x::r,e=>by
  have:=jh r e;simp only[List.cons_append,dq,this,List.append_assoc]
theorem ll{α:Type}{l:List α}{k:Nat}{e:α}(h:l[k]?=some e):l.take (k+1)=l.take k++[e]:=by
 rw[List.take_add_one,h];rfl
theorem ou(e:El):eJ e=UInt8.ofNat (e.cls.toNat*64+e.tag.toNat+(if e.cons then 32 else 0))::cd (e.bytes.length+bR e.kids)++e.bytes++dq e.kids:=by
 cases e;simp only[eJ,El.cls,El.tag,El.cons,El.bytes,El.kids];rfl
mutual
theorem rT:∀(e:El),bK e≤65536→(eJ e).length=bK e
 | .mk c t k b ks,h=>by
  simp only[bK] at h;have h1:cw b.length ks<65537:=by omega
  have h2:=gW ks b.length h1;have h3:=iJ ks (fun j e hj=>by have:=gP ks b.length j e hj;omega);simp only[eJ,bK,bd,aG,h3];rw[h2] at h⊢;rw[show min (b.length+bR ks) 65537=b.length+bR ks by omega] at h⊢
  omega
theorem iJ:∀(l:List El),(∀(j:Nat) (e:El),l[j]?=some e→bK e≤65536)→(dq l).length=bR l
 |[],_=>rfl
 |e::r,h=>by
  simp only[dq,bR,bd];rw[rT e (h 0 e rfl),iJ r (fun j x hj=>h (j+1) x (by simpa using hj))]
end
theorem sY(N:Nat)(hN:jw N)(n:Nat):∀(el:El),ex el≤n→SmE el→bK el≤N→bK el≤65536→jO cn el→∀(B b:Nat) (l:List UInt8) (u:Value) (w:World),IsW B b l w→bf (fun g=>g<B) w u el.kids→B≤w.heap.size→l.length+bK el≤1000000000→
  Calls Tryz.prog 70 #[.pointer (some ⟨b,0,none⟩),.agg (elA el u)] w fun e w'=>e=.returned (.tuple #[])∧IsW B b (l++eJ el) w'∧Below B w w':=by
 induction n with
 |zero=>intro el hd;rw[eu] at hd;omega
 |succ n ih=>
 intro el hd hs hz hz6 ht B b l u w hW h hBw hll;obtain⟨a,c,hf⟩:=h.shape;subst hf;obtain⟨sb,sl,sk⟩:=dV hs;obtain⟨tg,tk⟩:=pd ht;have b1:=alb w (Er el a c) 45;have r1:=alz w (Er el a c) 45;obtain⟨ec,et,ek,eb,es⟩:=el;simp only[El.kids,El.bytes] at*;simp only[cn,aI,aT] at tg;obtain⟨⟨⟨t1,t2⟩,t3⟩,t4⟩:=tg;obtain⟨C,rfl⟩:∃C:Nat,ec=(C:Int):=⟨ec.toNat,by omega⟩;obtain⟨Tg,rfl⟩:∃C:Nat,et=(C:Int):=⟨et.toNat,by omega⟩;have hC:C<4:=by omega
 have hTg:Tg<31:=by omega
 have hbits:bits BinOp.or IntKind.i64 ((C:Int)*64) (Tg:Int)=((C*64+Tg:Nat):Int):=by
  have:∀(c:Fin 4) (t:Fin 31),bits BinOp.or IntKind.i64 ((c.val:Int)*64) (t.val:Int)=((c.val*64+t.val:Nat):Int):=by decide+kernel
  exact this ⟨C,hC⟩ ⟨Tg,hTg⟩
 have hbit2:bits BinOp.or IntKind.i64 ((C*64+Tg:Nat):Int) 32=((C*64+Tg+32:Nat):Int):=by
  have:∀(c:Fin 4) (t:Fin 31),bits BinOp.or IntKind.i64 ((c.val*64+t.val:Nat):Int) 32=((c.val*64+t.val+32:Nat):Int):=by decide+kernel
  exact this ⟨C,hC⟩ ⟨Tg,hTg⟩
 obtain⟨Z,hZ⟩:=nmm (bK (.mk (C:Int) (Tg:Int) ek eb es));have hsum:eb.length+bR es≤Z:=by
  have h1:=ix (.mk (C:Int) (Tg:Int) ek eb es);simp only[El.kids,El.bytes] at h1;rw[hZ] at h1 hz6;have h2:=gW es eb.length (by omega)
  omega
 have hZT:1+(cd (eb.length+bR es)).length+(eb.length+bR es)=Z:=by
  have h1:=iw (.mk (C:Int) (Tg:Int) ek eb es);simp only[El.kids,El.bytes] at h1;rw[hZ] at h1 hz6;have h2:=gW es eb.length (by omega);rw[h2] at h1;rw[show min (eb.length+bR es) 65537=eb.length+bR es by omega] at h1
  omega
 rw[hZ] at hz hz6 hll;have HP:=hid (show eJ (.mk (C:Int) (Tg:Int) ek eb es)=UInt8.ofNat (C*64+Tg+(if ek then 32 else 0))::cd (eb.length+bR es)++eb++dq es from by rw[ou];rfl);obtain⟨FB,hFB⟩:=nmm (C*64+Tg+(if ek then 32 else 0));have hFB2:FB<256:=by rw[←hFB];split<;>omega
 have hsz:∀(j:Nat) (e:El),es[j]?=some e→bK e≤Z:=fun j e he=>by
  have h1:=gP es eb.length j e he;have h2:=ix (.mk (C:Int) (Tg:Int) ek eb es);simp only[El.kids,El.bytes] at h2;rw[hZ] at h2
  omega
 obtain⟨HSZ,IH,HS,HT,HDE,H,HW,HN⟩:=Cx hsz ih sk tk (show fT es≤n from by simp only[ex] at hd;omega) h hW hN;have klen:=hN (eb.length+bR es) (by omega);have hL4:=jW (eb.length+bR es);obtain⟨TOT,hTOT⟩:=nmm (eb.length+bR es);rw[hTOT] at klen hL4 hsum HP hZT;obtain⟨L,hL⟩:=nmm (cd TOT);rw[hL] at klen hL4 HP hZT;rw[hFB] at HP;obtain⟨HTOT,klen'⟩:=Cg hTOT klen;clear ih sk tk h hW hN hsz hd hs ht hZ klen hTOT hL t1 t2 t3 t4;unfold elA;simp only[El.bytes,El.cls,El.tag,El.cons];have hfb0:ek=false→C*64+Tg=FB:=fun h=>by rw[h] at hFB;simpa using hFB
 have hfb1:ek=true→C*64+Tg+32=FB:=fun h=>by rw[h] at hFB;simpa using hFB
 have hFm:(FB:Int)% 256=(FB:Int):=by omega
 have hFu:(UInt8.ofNat FB).toNat=FB:=by simp[UInt8.toNat_ofNat'];omega
 clear hFB;obtain⟨M,hM⟩:=nmm (C*64+Tg);rw[hM] at hbits hbit2 hfb0 hfb1;clear hM;cases ek
 ·rw[hfb0 rfl] at hbits
  clear hbit2 hfb0 hfb1;have b1:=alb w #[.int .i64 (C:Int),.int .i64 (Tg:Int),Bf,.string ⟨eb.toArray⟩,.slice a es.length c] 45;have r1:=alz w #[.int .i64 (C:Int),.int .i64 (Tg:Int),Bf,.string ⟨eb.toArray⟩,.slice a es.length c] 45
  go_enter Tryz.func70,Tryz.ntmps70
  refine wp_seq ?_;refine aQ ?_;refine aB rfl (kkn ?_);generalize w.alloc (.cells #[.int .i64 (C:Int),.int .i64 (Tg:Int),Bf,.string ⟨eb.toArray⟩,.slice a es.length c] 45)=w2 at b1 r1⊢;have q0:=cval r1 0 (.int .i64 C);have q1:=cval r1 1 (.int .i64 Tg);have q2:=cval r1 2 Bf;have q3:=cval r1 3 (.string ⟨eb.toArray⟩);have q4:=cval r1 4 (.slice a es.length c);obtain⟨H2,HW2,HR2⟩:=Ch (H.out.below b1) (HW.out.below b1) r1;have hwl:b<w.heap.size:=by
   rcases HW.out with h|h
   ·obtain⟨_,_,h,_⟩:=h;exact(gl h)
   ·obtain⟨_,_,h,_⟩:=h;exact(gl h)
  clear r1 H HW
  go_wp2_with fail
  go_loopw [5,26] (fun v i wr=>∃k m:Nat,i=.int .i64 (k:Int)∧v=.int .i64 (m:Int)∧k≤es.length∧Below w2.heap.size w2 wr∧m+bR (es.drop k)=TOT) (fun _ i _=>es.length -(RowKit.intOf i).toNat)
  case atStart=>exact⟨0,eb.length,rfl,rfl,Nat.zero_le _,ar _ _,HTOT.out⟩
  case round=>
   clear q0 q1 q2 hbits;obtain⟨k,m,rfl,rfl,hk,hbe,hans⟩:=hrel
   by_cases hkl:k<es.length
   ·obtain⟨e,he⟩:∃e,es[k]?=some e:=⟨es[k],bp hkl⟩
    obtain⟨a',cap',e',_,hsrc⟩:=H2.out.below hbe;cases e';obtain⟨g,o,ha,_,hcells⟩:=hsrc (by intro h0;rw[h0] at hkl;simp at hkl);subst ha;obtain⟨p0,p1,p2,p3,u,p4,hu⟩:=(cE.get es g o k e hcells he).cells;obtain⟨au,cu,hfu⟩:=hu.shape;subst hfu;have hdep:ex e≤n:=by have h1:=eK es k e he;have:=HDE.out;omega
    rw[gv he] at hans;simp only[bR] at hans;have i1:(k:Int)<(es.length:Int):=by omega
    have i3:decide ((k:Int)<(es.length:Int))=true:=aL i1;have m1:=alb wr (Er e au cu) 45;have kr:=jK N HN.out n e hdep (eV es k e HS.out he) (by have:=HSZ.out k e he;omega) _ _ ((hu.mono (fun _ _ _=>trivial)).below m1);have hsz:=hbe.size;have hsm:=m1.size;have HB4:=hid ((btt hbe m1));have hse:=fV e;obtain⟨z,hzz⟩:=nmm (bK e);rw[hzz] at kr hans hse;have hm9:m+z≤65536:=by omega
    have HANS:=hid hans;have hw1:IntKind.i64.wrap ((m:Int)+(z:Int))=(m:Int)+(z:Int):=by rw[aK];omega
    clear hsrc hcells he hu m1 hzz hans q3 q4;unfold elA at kr
    go_wp2_with (refine bg rfl 45 (.tmp 7) rfl wr.heap.size 45 _ (0,0) (by rfl) (bi _ _ _ rfl) _ Tryz.underlying45 rfl (by rfl) ?_)
    refine ag kr ?_;rintro e5 w5 ⟨rfl,hb5⟩;have HB5:=hid (HB4.out.trans (hb5.mono (by omega)));clear hb5 kr
    go_wp2_with fail
    exact⟨⟨k+1,m+z,by go_num,by go_num,by omega,HB5.out,by have:=HANS.out;omega⟩,by simp[RowKit.intOf];omega⟩
   ·obtain rfl:k=es.length:=by omega
    rw[List.drop_of_length_le (ah _)] at hans;simp only[bR,Nat.add_zero] at hans;subst hans;have i3:decide ((es.length:Int)<(es.length:Int))=false:=an (by omega);have s3:=(hbe.cell (bj q3)).trans q3;have s4:=(hbe.cell (bj q4)).trans q4;have HR3:=hid ((hbe.block _ (gl HR2.out)).trans HR2.out);have hs1:=b1.size;have hs2:=hbe.size;have HW3:=HW2.out.below hbe;have H3:=hid (H2.out.below hbe);have b3:Below B w wr:=(b1.mono hBw).trans (hbe.mono (by omega));have kb:=jE B b l (UInt8.ofNat FB) wr HW3 (by omega) (by omega);rw[hFu] at kb;clear q3 q4 HW3 H2 HW2 HR2
    go_wp2_with fail
    refine ag kb ?_;rintro e6 w6 ⟨rfl,hW6,hb6,hkw6⟩;have HR6:=hkw6.2 _ _ _ _ HR3.out (by omega) (by decide);have kl:=klen'.out w6;have H6:=hid (H3.out.kept fun g hg _=>⟨hb6.block g hg,hg⟩);have b6:=b3.trans hb6;have hs6:=hb6.size;clear kb s3 s4 HR3 H3 b3 hb6 hkw6
    go_wp2_with fail
    refine ag kl ?_;rintro e7 w7 ⟨rfl,hb7⟩;have hW7:=hW6.below hb7;have HR7:=bkk hb7 HR6;have H7:=hid (H6.out.below hb7);have hs7:=hb7.size;have b7:=b6.trans (hb7.mono (by omega));have kw:=fk B b (l++[UInt8.ofNat FB]) L w7 hW7 (by simp;omega) (by omega) (by omega);clear kl hW6 HR6 H6 hb7 b6 hW7
    go_wp2_with fail
    refine ag kw ?_;rintro e8 w8 ⟨rfl,hW8,hb8,hkw8⟩;have HR8:=hkw8.2 _ _ _ _ HR7 (by omega) (by decide);have H8:=hid (H7.out.kept fun g hg _=>⟨hb8.block g hg,hg⟩);have hs8:=hb8.size;have b8:=b7.trans hb8;have s3:=cval HR8 3 (.string ⟨eb.toArray⟩);have kw2:=fk B b (l++[UInt8.ofNat FB]++L) eb w8 hW8 (by simp;omega) (by omega) (by omega);clear kw HR7 H7 hb8 hkw8 b7 hW8
    go_wp2_with fail
    refine ag kw2 ?_;rintro e9 w9 ⟨rfl,hW9,hb9,hkw9⟩;have HR9:=hkw9.2 _ _ _ _ HR8 (by omega) (by decide);have H9:=hid (H8.out.kept fun g hg _=>⟨hb9.block g hg,hg⟩);have hs9:=hb9.size;have b9:=b8.trans hb9;have s4:=cval HR9 4 (.slice a es.length c);have HW9:=hid hW9;clear kw2 s3 HR8 H8 hb9 hkw9 b8 hW9 HR9
    go_wp2_with fail
    go_loopw [50] (fun i wr=>∃k:Nat,i=.int .i64 (k:Int)∧k≤es.length∧IsW B b ((l++[UInt8.ofNat FB]++L++eb)++dq (es.take k)) wr∧Below B w9 wr) (fun i _=>es.length -(RowKit.intOf i).toNat)
    case atStart=>exact⟨0,rfl,Nat.zero_le _,by simpa[dq] using HW9.out,ar _ _⟩
    case round=>
     clear s4;obtain⟨k,rfl,hk2,hWk,hbk⟩:=hrel;have hsk:=hbk.size
     by_cases hkl:k<es.length
     ·obtain⟨e,he⟩:∃e,es[k]?=some e:=⟨es[k],bp hkl⟩
      obtain⟨a',cap',e',_,hsrc⟩:=H9.out.kept (Q:=fun g=>g<B) fun g hg _=>⟨hbk.block g hg,hg⟩
      cases e';obtain⟨g,o,ha,_,hcells⟩:=hsrc (by intro h0;rw[h0] at hkl;simp at hkl);subst ha;obtain⟨p0,p1,p2,p3,u,p4,hu⟩:=(cE.get es g o k e hcells he).cells;obtain⟨au,cu,hfu⟩:=hu.shape;subst hfu;have hdep:ex e≤n:=by have h1:=eK es k e he;have:=HDE.out;omega
      have i1:(k:Int)<(es.length:Int):=by omega
      have i3:decide ((k:Int)<(es.length:Int))=true:=aL i1;have m1:=alb wr (Er e au cu) 45;have hze:=HSZ.out k e he;have hts:=ll he;have hsum2:bR (es.take k)+bK e≤bR es:=by have:=jf es (k+1);rw[hts,jg] at this;exact this
      have hpl:=iJ (es.take k) (fun j x hj=>by
       have h1:es[j]?=some x:=by
        have hjl:=(List.getElem?_eq_some_iff.1 hj).1;rw[List.length_take] at hjl;rw[List.getElem?_take_of_lt (by omega)] at hj;exact hj
       have:=HSZ.out j x h1;omega)
      have hT:=HTOT.out;have kr:=IH.out e hdep (eV es k e HS.out he) (by omega) (by omega) (jP es k e HT.out he) B b ((l++[UInt8.ofNat FB]++L++eb)++dq (es.take k)) _ _ (hWk.below m1) (hu.below m1) (by have:=m1.size;omega) (by simp[hpl];omega);have hsm:=m1.size;obtain⟨HB4,HTS⟩:=Cg (hbk.trans (m1.mono (by omega))) hts;clear hsrc hcells he hu m1 hpl hsum2 hT hts hze hWk;unfold elA at kr
      go_wp2_with (refine bg rfl 45 (.tmp 9) rfl wr.heap.size 45 _ (0,0) (by rfl) (bi _ _ _ rfl) _ Tryz.underlying45 rfl (by rfl) ?_)
      refine ag kr ?_;rintro e5 w5 ⟨rfl,hW5,hb5⟩;obtain⟨HB5,HW5⟩:=Cg (HB4.out.trans hb5) hW5;clear hb5 kr hW5
      go_wp2_with fail
      exact⟨⟨k+1,by go_num,by omega,by rw[HTS.out,jh,←List.append_assoc];exact HW5.out,HB5.out⟩,by simp[RowKit.intOf];omega⟩
     ·obtain rfl:k=es.length:=by omega
      rw[List.take_of_length_le (ah _)] at hWk;have i3:decide ((es.length:Int)<(es.length:Int))=false:=an (by omega);have HWk:=hid hWk;clear hWk
      go_wp2_with fail
      go_end0
      exact⟨rfl,by rw[HP.out];simpa[List.append_assoc] using HWk.out,b9.trans hbk⟩
 ·rw[hfb1 rfl] at hbit2
  clear hfb0 hfb1;have b1:=alb w #[.int .i64 (C:Int),.int .i64 (Tg:Int),.bool true,.string ⟨eb.toArray⟩,.slice a es.length c] 45;have r1:=alz w #[.int .i64 (C:Int),.int .i64 (Tg:Int),.bool true,.string ⟨eb.toArray⟩,.slice a es.length c] 45
  go_enter Tryz.func70,Tryz.ntmps70
  refine wp_seq ?_;refine aQ ?_;refine aB rfl (kkn ?_);generalize w.alloc (.cells #[.int .i64 (C:Int),.int .i64 (Tg:Int),.bool true,.string ⟨eb.toArray⟩,.slice a es.length c] 45)=w2 at b1 r1⊢;have q0:=cval r1 0 (.int .i64 C);have q1:=cval r1 1 (.int .i64 Tg);have q2:=cval r1 2 (.bool true);have q3:=cval r1 3 (.string ⟨eb.toArray⟩);have q4:=cval r1 4 (.slice a es.length c);obtain⟨H2,HW2,HR2⟩:=Ch (H.out.below b1) (HW.out.below b1) r1;have hwl:b<w.heap.size:=by
   rcases HW.out with h|h
   ·obtain⟨_,_,h,_⟩:=h;exact(gl h)
   ·obtain⟨_,_,h,_⟩:=h;exact(gl h)
  clear r1 H HW
  go_wp2_with fail
  go_loopw [5,26] (fun v i wr=>∃k m:Nat,i=.int .i64 (k:Int)∧v=.int .i64 (m:Int)∧k≤es.length∧Below w2.heap.size w2 wr∧m+bR (es.drop k)=TOT) (fun _ i _=>es.length -(RowKit.intOf i).toNat)
  case atStart=>exact⟨0,eb.length,rfl,rfl,Nat.zero_le _,ar _ _,HTOT.out⟩
  case round=>
   clear q0 q1 q2 hbits hbit2;obtain⟨k,m,rfl,rfl,hk,hbe,hans⟩:=hrel
   by_cases hkl:k<es.length
   ·obtain⟨e,he⟩:∃e,es[k]?=some e:=⟨es[k],bp hkl⟩
    obtain⟨a',cap',e',_,hsrc⟩:=H2.out.below hbe;cases e';obtain⟨g,o,ha,_,hcells⟩:=hsrc (by intro h0;rw[h0] at hkl;simp at hkl);subst ha;obtain⟨p0,p1,p2,p3,u,p4,hu⟩:=(cE.get es g o k e hcells he).cells;obtain⟨au,cu,hfu⟩:=hu.shape;subst hfu;have hdep:ex e≤n:=by have h1:=eK es k e he;have:=HDE.out;omega
    rw[gv he] at hans;simp only[bR] at hans;have i1:(k:Int)<(es.length:Int):=by omega
    have i3:decide ((k:Int)<(es.length:Int))=true:=aL i1;have m1:=alb wr (Er e au cu) 45;have kr:=jK N HN.out n e hdep (eV es k e HS.out he) (by have:=HSZ.out k e he;omega) _ _ ((hu.mono (fun _ _ _=>trivial)).below m1);have hsz:=hbe.size;have hsm:=m1.size;have HB4:=hid ((btt hbe m1));have hse:=fV e;obtain⟨z,hzz⟩:=nmm (bK e);rw[hzz] at kr hans hse;have hm9:m+z≤65536:=by omega
    have HANS:=hid hans;have hw1:IntKind.i64.wrap ((m:Int)+(z:Int))=(m:Int)+(z:Int):=by rw[aK];omega
    clear hsrc hcells he hu m1 hzz hans q3 q4;unfold elA at kr
    go_wp2_with (refine bg rfl 45 (.tmp 7) rfl wr.heap.size 45 _ (0,0) (by rfl) (bi _ _ _ rfl) _ Tryz.underlying45 rfl (by rfl) ?_)
    refine ag kr ?_;rintro e5 w5 ⟨rfl,hb5⟩;have HB5:=hid (HB4.out.trans (hb5.mono (by omega)));clear hb5 kr
    go_wp2_with fail
    exact⟨⟨k+1,m+z,by go_num,by go_num,by omega,HB5.out,by have:=HANS.out;omega⟩,by simp[RowKit.intOf];omega⟩
   ·obtain rfl:k=es.length:=by omega
    rw[List.drop_of_length_le (ah _)] at hans;simp only[bR,Nat.add_zero] at hans;subst hans;have i3:decide ((es.length:Int)<(es.length:Int))=false:=an (by omega);have s3:=(hbe.cell (bj q3)).trans q3;have s4:=(hbe.cell (bj q4)).trans q4;have HR3:=hid ((hbe.block _ (gl HR2.out)).trans HR2.out);have hs1:=b1.size;have hs2:=hbe.size;have HW3:=HW2.out.below hbe;have H3:=hid (H2.out.below hbe);have b3:Below B w wr:=(b1.mono hBw).trans (hbe.mono (by omega));have kb:=jE B b l (UInt8.ofNat FB) wr HW3 (by omega) (by omega);rw[hFu] at kb;clear q3 q4 HW3 H2 HW2 HR2
    go_wp2_with fail
    refine ag kb ?_;rintro e6 w6 ⟨rfl,hW6,hb6,hkw6⟩;have HR6:=hkw6.2 _ _ _ _ HR3.out (by omega) (by decide);have kl:=klen'.out w6;have H6:=hid (H3.out.kept fun g hg _=>⟨hb6.block g hg,hg⟩);have b6:=b3.trans hb6;have hs6:=hb6.size;clear kb s3 s4 HR3 H3 b3 hb6 hkw6
    go_wp2_with fail
    refine ag kl ?_;rintro e7 w7 ⟨rfl,hb7⟩;have hW7:=hW6.below hb7;have HR7:=bkk hb7 HR6;have H7:=hid (H6.out.below hb7);have hs7:=hb7.size;have b7:=b6.trans (hb7.mono (by omega));have kw:=fk B b (l++[UInt8.ofNat FB]) L w7 hW7 (by simp;omega) (by omega) (by omega);clear kl hW6 HR6 H6 hb7 b6 hW7
    go_wp2_with fail
    refine ag kw ?_;rintro e8 w8 ⟨rfl,hW8,hb8,hkw8⟩;have HR8:=hkw8.2 _ _ _ _ HR7 (by omega) (by decide);have H8:=hid (H7.out.kept fun g hg _=>⟨hb8.block g hg,hg⟩);have hs8:=hb8.size;have b8:=b7.trans hb8;have s3:=cval HR8 3 (.string ⟨eb.toArray⟩);have kw2:=fk B b (l++[UInt8.ofNat FB]++L) eb w8 hW8 (by simp;omega) (by omega) (by omega);clear kw HR7 H7 hb8 hkw8 b7 hW8
    go_wp2_with fail
    refine ag kw2 ?_;rintro e9 w9 ⟨rfl,hW9,hb9,hkw9⟩;have HR9:=hkw9.2 _ _ _ _ HR8 (by omega) (by decide);have H9:=hid (H8.out.kept fun g hg _=>⟨hb9.block g hg,hg⟩);have hs9:=hb9.size;have b9:=b8.trans hb9;have s4:=cval HR9 4 (.slice a es.length c);have HW9:=hid hW9;clear kw2 s3 HR8 H8 hb9 hkw9 b8 hW9 HR9
    go_wp2_with fail
    go_loopw [50] (fun i wr=>∃k:Nat,i=.int .i64 (k:Int)∧k≤es.length∧IsW B b ((l++[UInt8.ofNat FB]++L++eb)++dq (es.take k)) wr∧Below B w9 wr) (fun i _=>es.length -(RowKit.intOf i).toNat)
    case atStart=>exact⟨0,rfl,Nat.zero_le _,by simpa[dq] using HW9.out,ar _ _⟩
    case round=>
     clear s4;obtain⟨k,rfl,hk2,hWk,hbk⟩:=hrel;have hsk:=hbk.size
     by_cases hkl:k<es.length
     ·obtain⟨e,he⟩:∃e,es[k]?=some e:=⟨es[k],bp hkl⟩
      obtain⟨a',cap',e',_,hsrc⟩:=H9.out.kept (Q:=fun g=>g<B) fun g hg _=>⟨hbk.block g hg,hg⟩
      cases e';obtain⟨g,o,ha,_,hcells⟩:=hsrc (by intro h0;rw[h0] at hkl;simp at hkl);subst ha;obtain⟨p0,p1,p2,p3,u,p4,hu⟩:=(cE.get es g o k e hcells he).cells;obtain⟨au,cu,hfu⟩:=hu.shape;subst hfu;have hdep:ex e≤n:=by have h1:=eK es k e he;have:=HDE.out;omega
      have i1:(k:Int)<(es.length:Int):=by omega
      have i3:decide ((k:Int)<(es.length:Int))=true:=aL i1;have m1:=alb wr (Er e au cu) 45;have hze:=HSZ.out k e he;have hts:=ll he;have hsum2:bR (es.take k)+bK e≤bR es:=by have:=jf es (k+1);rw[hts,jg] at this;exact this
      have hpl:=iJ (es.take k) (fun j x hj=>by
       have h1:es[j]?=some x:=by
        have hjl:=(List.getElem?_eq_some_iff.1 hj).1;rw[List.length_take] at hjl;rw[List.getElem?_take_of_lt (by omega)] at hj;exact hj
       have:=HSZ.out j x h1;omega)
      have hT:=HTOT.out;have kr:=IH.out e hdep (eV es k e HS.out he) (by omega) (by omega) (jP es k e HT.out he) B b ((l++[UInt8.ofNat FB]++L++eb)++dq (es.take k)) _ _ (hWk.below m1) (hu.below m1) (by have:=m1.size;omega) (by simp[hpl];omega);have hsm:=m1.size;obtain⟨HB4,HTS⟩:=Cg (hbk.trans (m1.mono (by omega))) hts;clear hsrc hcells he hu m1 hpl hsum2 hT hts hze hWk;unfold elA at kr
      go_wp2_with (refine bg rfl 45 (.tmp 9) rfl wr.heap.size 45 _ (0,0) (by rfl) (bi _ _ _ rfl) _ Tryz.underlying45 rfl (by rfl) ?_)
      refine ag kr ?_;rintro e5 w5 ⟨rfl,hW5,hb5⟩;obtain⟨HB5,HW5⟩:=Cg (HB4.out.trans hb5) hW5;clear hb5 kr hW5
      go_wp2_with fail
      exact⟨⟨k+1,by go_num,by omega,by rw[HTS.out,jh,←List.append_assoc];exact HW5.out,HB5.out⟩,by simp[RowKit.intOf];omega⟩
     ·obtain rfl:k=es.length:=by omega
      rw[List.take_of_length_le (ah _)] at hWk;have i3:decide ((es.length:Int)<(es.length:Int))=false:=an (by omega);have HWk:=hid hWk;clear hWk
      go_wp2_with fail
      go_end0
      exact⟨rfl,by rw[HP.out];simpa[List.append_assoc] using HWk.out,b9.trans hbk⟩
theorem sZ(e:El):eJ e≠[]:=by
 rw[ou];simp
theorem pf(N:Nat)(hN:jw N)(el:El)(hs:SmE el)(hz:bK el≤N)(u:Value)(w:World)(h:bf (fun _=>True) w u el.kids):
  Cr 30 #[.agg (elA el u)] w (.tuple #[.string ⟨(dD el).1.toArray⟩,.int .i64 (dD el).2]):=by
 obtain⟨s,n,hsn⟩:∃s n,dD el=(s,n):=⟨_,_,rfl⟩;rw[hsn];simp only;obtain⟨HSN,HS⟩:=Cg hsn hs;obtain⟨a,c,hf⟩:=h.shape;subst hf;have b1:=alb w (Er el a c) 45;have r1:=alz w (Er el a c) 45;have H1:=hid (h.below b1);clear h hsn hs;unfold elA
 go_enter Tryz.func30,Tryz.ntmps30
 refine wp_seq ?_;refine aQ ?_;refine aB rfl (kkn ?_);generalize w.alloc (.cells (Er el a c) 45)=w1 at b1 r1 H1⊢;have k1:=zC (ex el) el (ah _) HS.out 0 (by omega) _ w1 H1.out;unfold elA at k1
 go_wp2_with (refine bg rfl 45 (.tmp 1) rfl w.heap.size 45 _ (0,0) (by rfl) r1 _ Tryz.underlying45 rfl (by rfl) ?_)
 refine ag k1 ?_;rintro e2 w2 ⟨rfl,hb2⟩;have r2:=bkk hb2 r1;have b2:=btt b1 hb2;have H2:=hid (H1.out.below hb2);clear k1 b1 r1 H1 hb2;obtain⟨B1,h1⟩:=nmm (qs cn 0 el);rw[h1];cases B1 with
 |false=>
  have hr:=HSN.out;simp only[dD,h1,if_true] at hr;cases hr;clear h1
  go_wp2_with fail
  go_ret2
  exact⟨rfl,b2⟩
 |true=>
  have k2:=me (ex el) el (ah _) HS.out 0 (by omega) _ w2 H2.out;unfold elA at k2;have HH1:=hid h1;clear h1
  go_wp2_with (refine bg rfl 45 (.tmp 1) rfl w.heap.size 45 _ (0,0) (by rfl) r2 _ Tryz.underlying45 rfl (by rfl) ?_)
  refine ag k2 ?_;rintro e3 w3 ⟨rfl,hb3⟩;have r3:=bkk hb3 r2;have b3:=btt b2 hb3;have H3:=hid (H2.out.below hb3);clear k2 b2 r2 H2 hb3;obtain⟨B2,h2⟩:=nmm (qs cB 0 el);rw[h2];cases B2 with
  |false=>
   have hr:=HSN.out;simp only[dD,HH1.out,h2,if_true] at hr;rw[if_neg (by simp)] at hr;cases hr;clear h2
   go_wp2_with fail
   go_ret2
   exact⟨rfl,b3⟩
  |true=>
   have k3:=rp (ex el) el (ah _) HS.out 0 (by omega) _ w3 H3.out;unfold elA at k3;have HH2:=hid h2;clear h2
   go_wp2_with (refine bg rfl 45 (.tmp 1) rfl w.heap.size 45 _ (0,0) (by rfl) r3 _ Tryz.underlying45 rfl (by rfl) ?_)
   refine ag k3 ?_;rintro e4 w4 ⟨rfl,hb4⟩;have r4:=bkk hb4 r3;have b4:=btt b3 hb4;have H4:=hid (H3.out.below hb4);clear k3 b3 r3 H3 hb4;obtain⟨B3,h3⟩:=nmm (eW 0 el);rw[h3];cases B3 with
   |true=>
    have hr:=HSN.out;simp only[dD,HH1.out,HH2.out,h3,if_true] at hr;rw[if_neg (by simp),if_neg (by simp)] at hr;cases hr;clear h3
    go_wp2_with fail
    go_ret2
    exact⟨rfl,b4⟩
   |false=>
    have k4:=jK N hN (ex el) el (ah _) HS.out hz _ w4 H4.out;unfold elA at k4;have HH3:=hid h3;clear h3
    go_wp2_with (refine bg rfl 45 (.tmp 1) rfl w.heap.size 45 _ (0,0) (by rfl) r4 _ Tryz.underlying45 rfl (by rfl) ?_)
    refine ag k4 ?_;rintro e5 w5 ⟨rfl,hb5⟩;have r5:=bkk hb5 r4;have b5:=btt b4 hb5;have H5:=hid (H4.out.below hb5);clear k4 b4 r4 H4 hb5
    by_cases h6:65536<bK el
    ·have hr:=HSN.out
     simp only[dD,HH1.out,HH2.out,HH3.out,h6,if_true] at hr;rw[if_neg (by simp),if_neg (by simp),if_neg (by simp)] at hr;cases hr;have g6:decide ((65536:Int)<(bK el:Int))=true:=aL (by omega)
     go_wp2_with fail
     go_ret2
     exact⟨rfl,b5⟩
    ·have hr:=HSN.out
     simp only[dD,HH1.out,HH2.out,HH3.out,h6,if_false] at hr;rw[if_neg (by simp),if_neg (by simp),if_neg (by simp)] at hr;cases hr;have g6:decide ((65536:Int)<(bK el:Int))=false:=an (by omega);have m5:=alb w5 #[.pointer none,Sn] 101;have hW:IsW w5.heap.size w5.heap.size [] (w5.alloc (.cells #[.pointer none,Sn] 101)):=Lib.fresh_isBuilder _ _ _;have r6:=bkk m5 r5;have kp:=sY N hN (ex el) el (ah _) HS.out hz (by omega) (qB cn 0 el HH1.out HH3.out) w5.heap.size w5.heap.size [] _ _ hW (H5.out.kept fun g _ hg=>⟨m5.block g hg,hg⟩) (by simp) (by simp;omega);unfold elA at kp;have b6:=btt b5 m5;have hs5:=b5.size;clear hW m5 r5 H5
     go_wp2_with (refine bg rfl 45 (.tmp 1) rfl w.heap.size 45 _ (0,0) (by rfl) r6 _ Tryz.underlying45 rfl (by rfl) ?_)
     refine ag kp ?_;rintro e7 w7 ⟨rfl,hW7,hb7⟩;have ks:=rs w5.heap.size w5.heap.size _ w7 hW7 (by simpa using sZ el);have b7:=b6.trans (hb7.mono (by omega));clear kp hW7 hb7 b6 r6
     go_wp2_with fail
     refine ag ks ?_;rintro e8 w8 ⟨rfl,hb8⟩;have b8:=b7.trans (hb8.mono (by omega));clear ks hb8
     go_wp2_with fail
     go_ret2
     exact⟨by simp,b8⟩
end Go.Proofs.YthjaiigijbjloaaGreatDoor
