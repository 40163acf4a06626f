/- ReI, ReJ, ReK. -/
import Derived.Test.YtfhghdcbofbceaaGreatDoorX15
namespace Go.Proofs.YtfhghdcbofbceaaGreatDoor
open Go.RowKit Go.Lib
set_option maxRecDepth 100000
set_option maxHeartbeats 16000000
theorem lR(el:El)(u:Value)(w:World)(h:bf (fun _=>True) w u el.kids)(hs:SmE el)(hc:ed el≤1000000000):
  Calls Tryz.prog 153 #[.agg (elA el u),Sn] w fun e w'=>Out (eD el) (fun y v w'=>bM kdF (fun g=>w.heap.size≤g) w' v y) e w'∧Bw w w':=by
 refine(je el u w.heap.size (fun g=>w.heap.size≤g) (Sn) [] w h hs (ep.nil _ _ _ _ _) (ah _) (fun _ h=>h) (by simpa using hc)).mono ?_;rintro e w' ⟨ho,hg⟩;refine⟨ho.mono fun y v hy=>?_,⟨hg.os,hg.tape,hg.output,hg.size,fun j hj=>hg.block j hj (by simp[Value.ownBlock])⟩⟩;have:=hy.1;rw[List.nil_append] at this;exact this.own.lst
theorem oq{l:List El}{y:El×List El}(h:ch l=some y):l=y.1::y.2:=by
 cases l with
 |nil=>cases h
 |cons e r=>cases h;rfl
theorem nG(a b:List El):dL (a++b)=dL a+dL b:=by
 induction a with
 |nil=>simp[dL]
 |cons e r ih=>simp only[List.cons_append,dL,ih];omega
theorem fw{a b:List El}(h:a<:+b):dL a≤dL b:=by
 obtain⟨t,rfl⟩:=h;rw[nG]
 omega
theorem mu(P:Nat→Prop)(b M:Nat)(l:List El)(id:Int)(w:World)(hM:Hc w M (Mg.row {id:=id,op:=3}) 32)(hbM:b≠M)(hP:∀g,P g→g≠M)(h:RowA P b l w)(hcn:dL l≤1000000000):
  Calls Tryz.prog 129 #[.pointer (some ⟨M,0,none⟩),.pointer (some ⟨b,0,none⟩)] w fun e w'=>Out (fG id l) (fun y v w'=>v=.tuple #[]∧MgO w.heap.size M y.1 w'∧RowA (fun g=>P g∧g<w.heap.size) b y.2 w') e w'∧Lft [b,M] w.heap.size w w':=by
 have h0:MsR w P b M {id:=id,op:=3} l w:=⟨hM,h.shut,Lft.refl w,h.lt,(gl hM),hbM,hP⟩;generalize hO:fG id l=O;simp only[fG,bS] at hO;have HO:=hid hO;clear hO;have hblt:=h0.blt;have hmlt:=h0.mlt;clear h hM hbM hP
 go_enter Tryz.func129,Tryz.ntmps129
 have kc:=cQ _ b l w h0.row
 go_wp2_with fail
 refine ag kc ?_;rintro x w1 ⟨ho,hb⟩;have l1:=h0.lftn hb (by simp);have nx1:=h0.next hb;have hs1:=hb.size;clear kc hb h0;replace HO:=HO.out;generalize e1:cg l=E at ho HO;rcases E with _|d
 ·obtain⟨rfl,rfl⟩:x=Pn∧none=O:=⟨ho,HO⟩
  exact⟨rfl,rfl,l1⟩
 obtain⟨v,rfl,rfl,hrow⟩:=ho
 try simp only[ai] at HO
 replace HO:=hid HO;have h1c:=nx1 _ hrow;clear nx1 hrow l1;have sf:=hid (fw (A7 (g:=fun e=>dK e 0 4) e1).2);clear e1;have kc:=fd _ b d.2 10 w1 h1c.row
 go_wp2_with fail
 refine ag kc ?_;rintro x w2 ⟨ho,hb⟩;have l2:=h1c.lftn hb (by simp);have nx2:=h1c.next hb;have hs2:=hb.size;clear kc hb h1c;replace HO:=HO.out;generalize e1:eR 10 d.2=E at ho HO;rcases E with _|sc
 ·obtain⟨rfl,rfl⟩:x=Pn∧none=O:=⟨ho,HO⟩
  exact⟨rfl,rfl,l2⟩
 obtain⟨v,rfl,rfl,hrow⟩:=ho
 try simp only[ai] at HO
 replace HO:=hid HO;have h2c:=nx2 _ hrow;clear nx2 hrow l2;have sf:=hid (Nat.le_trans (fw (A7 (g:=fun e=>fW e 0 10) e1).2) sf.out);clear e1;have kc:=fd _ b sc.2 10 w2 h2c.row
 go_wp2_with fail
 refine ag kc ?_;rintro x w3 ⟨ho,hb⟩;have l3:=h2c.lftn hb (by simp);have nx3:=h2c.next hb;have hs3:=hb.size;clear kc hb h2c;replace HO:=HO.out;generalize e1:eR 10 sc.2=E at ho HO;rcases E with _|dr
 ·obtain⟨rfl,rfl⟩:x=Pn∧none=O:=⟨ho,HO⟩
  exact⟨rfl,rfl,l3⟩
 obtain⟨v,rfl,rfl,hrow⟩:=ho
 try simp only[ai] at HO
 replace HO:=hid HO;have h3c:=nx3 _ hrow;clear nx3 hrow l3;have sf:=hid (Nat.le_trans (fw (A7 (g:=fun e=>fW e 0 10) e1).2) sf.out);clear e1;have q4:=cval h3c.msg 2 Es;have z4:=aj h3c.msg 2;have h4s:MsR w P b M ({id:=id,op:=3,dn:=d.1}:Mg) _ (w3.setCell ⟨M,2,none⟩ (.string ⟨List.toArray d.1⟩)):=h3c.set 2 (.string ⟨List.toArray d.1⟩) rfl;have q5:(w3.setCell ⟨M,2,none⟩ (.string ⟨List.toArray d.1⟩)).cell? ⟨M,6,none⟩=some (I0):=(aq h4s.msg 6).trans rfl;have z5:=aj h4s.msg 6;have h5s:MsR w P b M ({id:=id,op:=3,dn:=d.1,scope:=sc.1}:Mg) _ ((w3.setCell ⟨M,2,none⟩ (.string ⟨List.toArray d.1⟩)).setCell ⟨M,6,none⟩ (.int .i64 sc.1)):=h4s.set 6 (.int .i64 sc.1) rfl;have q6:((w3.setCell ⟨M,2,none⟩ (.string ⟨List.toArray d.1⟩)).setCell ⟨M,6,none⟩ (.int .i64 sc.1)).cell? ⟨M,7,none⟩=some (I0):=(aq h5s.msg 7).trans rfl;have z6:=aj h5s.msg 7;have h6s:MsR w P b M ({id:=id,op:=3,dn:=d.1,scope:=sc.1,deref:=dr.1}:Mg) _ (((w3.setCell ⟨M,2,none⟩ (.string ⟨List.toArray d.1⟩)).setCell ⟨M,6,none⟩ (.int .i64 sc.1)).setCell ⟨M,7,none⟩ (.int .i64 dr.1)):=h5s.set 7 (.int .i64 dr.1) rfl;have kc:=fd _ b dr.2 2 (((w3.setCell ⟨M,2,none⟩ (.string ⟨List.toArray d.1⟩)).setCell ⟨M,6,none⟩ (.int .i64 sc.1)).setCell ⟨M,7,none⟩ (.int .i64 dr.1)) h6s.row
 go_wp2_with fail
 refine ag kc ?_;rintro x w7 ⟨ho,hb⟩;have l7:=h6s.lftn hb (by simp);have nx7:=h6s.next hb;have hs7:=hb.size;clear kc hb;replace HO:=HO.out;generalize e1:eR 2 dr.2=E at ho HO;rcases E with _|sz
 ·obtain⟨rfl,rfl⟩:x=Pn∧none=O:=⟨ho,HO⟩
  exact⟨rfl,rfl,l7⟩
 obtain⟨v,rfl,rfl,hrow⟩:=ho
 try simp only[ai] at HO
 replace HO:=hid HO;have h7c:=nx7 _ hrow;clear nx7 hrow l7;have sf:=hid (Nat.le_trans (fw (A7 (g:=fun e=>fW e 0 2) e1).2) sf.out);clear e1;have kc:=fd _ b sz.2 2 w7 h7c.row
 go_wp2_with fail
 refine ag kc ?_;rintro x w8 ⟨ho,hb⟩;have l8:=h7c.lftn hb (by simp);have nx8:=h7c.next hb;have hs8:=hb.size;clear kc hb h7c;replace HO:=HO.out;generalize e1:eR 2 sz.2=E at ho HO;rcases E with _|tm
 ·obtain⟨rfl,rfl⟩:x=Pn∧none=O:=⟨ho,HO⟩
  exact⟨rfl,rfl,l8⟩
 obtain⟨v,rfl,rfl,hrow⟩:=ho
 try simp only[ai] at HO
 replace HO:=hid HO;have h8c:=nx8 _ hrow;clear nx8 hrow l8;have sf:=hid (Nat.le_trans (fw (A7 (g:=fun e=>fW e 0 2) e1).2) sf.out);clear e1;have kc:=nF _ b tm.2 w8 h8c.row
 go_wp2_with fail
 refine ag kc ?_;rintro x w9 ⟨ho,hb⟩;have l9:=h8c.lftn hb (by simp);have nx9:=h8c.next hb;have hs9:=hb.size;clear kc hb h8c;replace HO:=HO.out;generalize e1:fm tm.2=E at ho HO;rcases E with _|y
 ·obtain⟨rfl,rfl⟩:x=Pn∧none=O:=⟨ho,HO⟩
  exact⟨rfl,rfl,l9⟩
 obtain⟨v,rfl,rfl,hrow⟩:=ho
 try simp only[ai] at HO
 replace HO:=hid HO;have h9c:=nx9 _ hrow;clear nx9 hrow l9;have sf:=hid (Nat.le_trans (fw (A7 (g:=gT) e1).2) sf.out);clear e1;have q10:=cval h9c.msg 8 I0;have z10:=aj h9c.msg 8;have h10s:MsR w P b M ({id:=id,op:=3,dn:=d.1,scope:=sc.1,deref:=dr.1,size:=sz.1}:Mg) _ (w9.setCell ⟨M,8,none⟩ (.int .i64 sz.1)):=h9c.set 8 (.int .i64 sz.1) rfl;have q11:(w9.setCell ⟨M,8,none⟩ (.int .i64 sz.1)).cell? ⟨M,9,none⟩=some (I0):=(aq h10s.msg 9).trans rfl;have z11:=aj h10s.msg 9;have h11s:MsR w P b M ({id:=id,op:=3,dn:=d.1,scope:=sc.1,deref:=dr.1,size:=sz.1,time:=tm.1}:Mg) _ ((w9.setCell ⟨M,8,none⟩ (.int .i64 sz.1)).setCell ⟨M,9,none⟩ (.int .i64 tm.1)):=h10s.set 9 (.int .i64 tm.1) rfl;have q12:((w9.setCell ⟨M,8,none⟩ (.int .i64 sz.1)).setCell ⟨M,9,none⟩ (.int .i64 tm.1)).cell? ⟨M,10,none⟩=some (Bf):=(aq h11s.msg 10).trans rfl;have z12:=aj h11s.msg 10;have h12s:MsR w P b M ({id:=id,op:=3,dn:=d.1,scope:=sc.1,deref:=dr.1,size:=sz.1,time:=tm.1,types:=y.1}:Mg) _ (((w9.setCell ⟨M,8,none⟩ (.int .i64 sz.1)).setCell ⟨M,9,none⟩ (.int .i64 tm.1)).setCell ⟨M,10,none⟩ (.bool y.1)):=h11s.set 10 (.bool y.1) rfl;have kc:=cG _ b y.2 (((w9.setCell ⟨M,8,none⟩ (.int .i64 sz.1)).setCell ⟨M,9,none⟩ (.int .i64 tm.1)).setCell ⟨M,10,none⟩ (.bool y.1)) h12s.row
 go_wp2_with fail
 refine ag kc ?_;rintro x w13 ⟨ho,hb⟩;have l13:=h12s.lftn hb (by simp);have nx13:=h12s.next hb;have hs13:=hb.size;clear kc hb;replace HO:=HO.out;generalize e1:ch y.2=E at ho HO;rcases E with _|q
 ·obtain⟨rfl,rfl⟩:x=Pn∧none=O:=⟨ho,HO⟩
  exact⟨rfl,rfl,l13⟩
 obtain⟨v,rfl,u5,rfl,hse,hu,hrow⟩:=ho
 try simp only[ai] at HO
 replace HO:=hid HO;have h13c:=nx13 _ hrow;clear nx13 hrow l13;have hcq:ed q.1≤1000000000:=by
  have h1:=sf.out;rw[oq e1] at h1;simp only[dL] at h1
  omega
 clear e1 sf hcn;obtain⟨a5,c5,hf5⟩:=hu.shape;subst hf5;have kc:=lR q.1 _ w13 (hu.mono fun _ _ _=>trivial) hse hcq
 go_wp2_with fail
 refine ag kc ?_;rintro x w14 ⟨ho,hb⟩;have nx14:=h13c.to (X:=[]) (.of hb) (by simp);have l14:=nx14.lft;have hs14:=hb.size;have hsx:=h13c.size;clear kc hb h13c hu hse hcq;replace HO:=HO.out;generalize eD q.1=E at ho HO;rcases E with _|fl
 ·obtain⟨rfl,rfl⟩:x=Pn∧none=O:=⟨ho,HO⟩
  exact⟨rfl,rfl,l14⟩
 obtain⟨v,rfl,hF⟩:=ho
 try simp only[ai,aw] at HO
 replace HO:=hid HO;have h14c:=nx14;clear nx14 l14;obtain⟨aF,cF,hfF⟩:=hF.shape;subst hfF;have F1:bM kdF (fun g=>w.heap.size≤g∧g<w14.heap.size) w14 (.slice aF fl.length cF) fl:=hF.mono (fun g hg hl=>⟨by omega,hl⟩) (by decide);clear hF;have q15:=cval h14c.msg 11 Sn;have z15:=aj h14c.msg 11;have h15s:MsR w P b M ({id:=id,op:=3,dn:=d.1,scope:=sc.1,deref:=dr.1,size:=sz.1,time:=tm.1,types:=y.1,filt:=(.slice aF fl.length cF)}:Mg) _ (w14.setCell ⟨M,11,none⟩ ((.slice aF fl.length cF))):=h14c.set 11 ((.slice aF fl.length cF)) rfl;have F2:=hid (F1.kept (w':=(w14.setCell ⟨M,11,none⟩ ((.slice aF fl.length cF)))) (Q:=fun g=>w.heap.size≤g∧g<w14.heap.size) (fun g hg hl=>⟨((Lft.refl w14).set (X:=[M]) (B:=w14.heap.size) M 11 _ (by simp)).old hl (by have:=hg.1;simp;omega),hg⟩) (by decide));clear F1;have kc:=cG _ b q.2 (w14.setCell ⟨M,11,none⟩ ((.slice aF fl.length cF))) h15s.row
 go_wp2_with fail
 refine ag kc ?_;rintro x w16 ⟨ho,hb⟩;have l16:=h15s.lftn hb (by simp);have nx16:=h15s.next hb;have hs16:=hb.size;have F3:=hid (F2.out.kept (Q:=fun g=>w.heap.size≤g∧g<w14.heap.size) (fun g hg hl=>⟨hb.old hl (by have:=hg.1;simp;omega),hg⟩) (by decide));have hsz:w14.heap.size≤w16.heap.size:=by have:=hb.size;simpa using this
 clear kc hb;replace HO:=HO.out;generalize ch q.2=E at ho HO;rcases E with _|r
 ·obtain⟨rfl,rfl⟩:x=Pn∧none=O:=⟨ho,HO⟩
  exact⟨rfl,rfl,l16⟩
 obtain⟨v,rfl,u6,rfl,hse,hu,hrow⟩:=ho
 try simp only[ai] at HO
 replace HO:=hid HO;have h16c:=nx16 _ hrow;clear nx16 hrow l16;clear F2;obtain⟨a6,c6,hf6⟩:=hu.shape;subst hf6;have kc:=dk r.1 _ 0 16 w16 (hu.mono fun _ _ _=>trivial) hse
 go_wp2_with fail
 refine ag kc ?_;rintro x w17 ⟨ho,hb⟩;have nx17:=h16c.to (X:=[]) (.of hb) (by simp);have l17:=nx17.lft;have hs17:=hb.size;have hsy:=h16c.size;have F4:=hid (F3.out.below hb (by decide));clear kc hb h16c hu hse;replace HO:=HO.out;generalize ci r.1 0 16=E at ho HO;rcases E with _|ks
 ·obtain⟨rfl,rfl⟩:x=Pn∧none=O:=⟨ho,HO⟩
  exact⟨rfl,rfl,l17⟩
 obtain⟨v,rfl,b2,rfl,hb2ge,hrow2⟩:=ho
 try simp only[ai,aw] at HO
 replace HO:=hid HO;have h17c:=nx17;clear nx17 l17;clear F3;have kc:=mo _ b2 ks w17 hrow2
 go_wp2_with fail
 refine ag kc ?_;rintro x w18 ⟨ho,hb⟩;have nx18:=h17c.to (X:=[b2]) hb (by simp;omega);have l18:=nx18.lft;have hs18:=hb.size;have F5:=hid (F4.out.kept (Q:=fun g=>w.heap.size≤g) (fun g hg hl=>⟨hb.old hl (by have:=hg.2;simp;omega),hg.1⟩) (by decide));clear kc hb h17c hrow2;replace HO:=HO.out;generalize dN ks=E at ho HO;rcases E with _|ss
 ·obtain⟨rfl,rfl⟩:x=Pn∧none=O:=⟨ho,HO⟩
  exact⟨rfl,rfl,l18⟩
 obtain⟨v,rfl,hS⟩:=ho
 try simp only[aw] at HO
 replace HO:=hid HO;have h18c:=nx18;clear nx18 l18;clear F4;obtain⟨aS,cS,hfS⟩:=hS.shape;subst hfS;have q19:=cval h18c.msg 12 Sn;have z19:=aj h18c.msg 12;have h19s:MsR w P b M ({id:=id,op:=3,dn:=d.1,scope:=sc.1,deref:=dr.1,size:=sz.1,time:=tm.1,types:=y.1,filt:=(.slice aF fl.length cF),sel:=(.slice aS ss.length cS)}:Mg) _ (w18.setCell ⟨M,12,none⟩ ((.slice aS ss.length cS))):=h18c.set 12 ((.slice aS ss.length cS)) rfl;have L6:Lft [M] w18.heap.size w18 (w18.setCell ⟨M,12,none⟩ ((.slice aS ss.length cS))):=(Lft.refl _).set _ _ _ (by simp);obtain⟨F6,S6⟩:=Cg (F5.out.kept (w':=(w18.setCell ⟨M,12,none⟩ ((.slice aS ss.length cS)))) (Q:=fun g=>w.heap.size≤g) (fun g hg hl=>⟨L6.old hl (by simp;omega),hg⟩) (by decide)) (hS.kept (w':=(w18.setCell ⟨M,12,none⟩ ((.slice aS ss.length cS)))) (Q:=fun g=>w.heap.size≤g) (fun g hg hl=>⟨L6.old hl (by simp;omega),by omega⟩) (by decide));clear F5 hS L6
 go_wp2_with fail
 have hO:=HO.out;subst hO
 first|go_end0|(refine aH (v:=.tuple #[]) (by simp[results,Tryz.f129]) rfl ?_)
 exact⟨⟨_,rfl,rfl,⟨_,h19s.msg,rfl,⟨F6.out,S6.out,bM.nil _ _ _,bM.nil _ _ _,bM.nil _ _ _⟩,rfl⟩,h19s.row⟩,h19s.lft⟩
theorem Lft.drew{X:List Nat}{B:Nat}{w w':World}(h:Lft X B w w'):Lft X B w w'.drew:=⟨h.os,h.tape,h.output,h.size,h.block⟩
structure ClR (x2 x6 M b:Nat) (w:World):Prop where
 m:Hc w x2 #[.pointer (some ⟨M,0,none⟩)] 56
 r:Hc w x6 #[.pointer (some ⟨b,0,none⟩)] 144
theorem ClR.to{x2 x6 M b:Nat}{w w':World}(h:ClR x2 x6 M b w){X:List Nat}(k:Lft X w.heap.size w w')(h2:x2∉X)(h6:x6∉X):ClR x2 x6 M b w':=⟨k.at h.m h2,k.at h.r h6⟩
theorem vO{α:Type}(x2 x6 M b:Nat)(w:World)(h:ClR x2 x6 M b w){O:Option α}{S:α→World→Prop}{T:World→Prop}
  (kc:Calls Tryz.prog 127 #[.pointer (some ⟨M,0,none⟩),.pointer (some ⟨b,0,none⟩)] w fun e w'=>Out O (fun y v w'=>v=.tuple #[]∧S y w') e w'∧T w'):
  Calls Tryz.prog 126 #[.pointer (some ⟨x2,0,none⟩),.pointer (some ⟨x6,0,none⟩)] w fun e w'=>Out O (fun y v w'=>v=.tuple #[]∧S y w') e w'∧T w':=by
 have q2:=cval h.m 0 (.pointer (some ⟨M,0,none⟩));have q6:=cval h.r 0 (.pointer (some ⟨b,0,none⟩));clear h
 go_enter Tryz.func126,Tryz.ntmps126
 go_wp2_with fail
 refine ag kc ?_;rintro e w' ⟨ho,ht⟩;clear kc q2 q6;cases O with
 |none=>
  have he:e=Pn:=ho;subst he;exact⟨rfl,rfl,ht⟩
 |some y=>
  obtain⟨v,rfl,rfl,hs⟩:=ho
  go_wp2_with fail
  first|go_end0|go_ret
  exact⟨⟨_,rfl,rfl,hs⟩,ht⟩
theorem vP{α:Type}(x2 x6 M b:Nat)(w:World)(h:ClR x2 x6 M b w){O:Option α}{S:α→World→Prop}{T:World→Prop}
  (kc:Calls Tryz.prog 129 #[.pointer (some ⟨M,0,none⟩),.pointer (some ⟨b,0,none⟩)] w fun e w'=>Out O (fun y v w'=>v=.tuple #[]∧S y w') e w'∧T w'):
  Calls Tryz.prog 128 #[.pointer (some ⟨x2,0,none⟩),.pointer (some ⟨x6,0,none⟩)] w fun e w'=>Out O (fun y v w'=>v=.tuple #[]∧S y w') e w'∧T w':=by
 have q2:=cval h.m 0 (.pointer (some ⟨M,0,none⟩));have q6:=cval h.r 0 (.pointer (some ⟨b,0,none⟩));clear h
 go_enter Tryz.func128,Tryz.ntmps128
 go_wp2_with fail
 refine ag kc ?_;rintro e w' ⟨ho,ht⟩;clear kc q2 q6;cases O with
 |none=>
  have he:e=Pn:=ho;subst he;exact⟨rfl,rfl,ht⟩
 |some y=>
  obtain⟨v,rfl,rfl,hs⟩:=ho
  go_wp2_with fail
  first|go_end0|go_ret
  exact⟨⟨_,rfl,rfl,hs⟩,ht⟩
theorem vQ{α:Type}(x2 x6 M b:Nat)(w:World)(h:ClR x2 x6 M b w){O:Option α}{S:α→World→Prop}{T:World→Prop}
  (kc:Calls Tryz.prog 137 #[.pointer (some ⟨M,0,none⟩),.pointer (some ⟨b,0,none⟩)] w fun e w'=>Out O (fun y v w'=>v=.tuple #[]∧S y w') e w'∧T w'):
  Calls Tryz.prog 136 #[.pointer (some ⟨x2,0,none⟩),.pointer (some ⟨x6,0,none⟩)] w fun e w'=>Out O (fun y v w'=>v=.tuple #[]∧S y w') e w'∧T w':=by
 have q2:=cval h.m 0 (.pointer (some ⟨M,0,none⟩));have q6:=cval h.r 0 (.pointer (some ⟨b,0,none⟩));clear h
 go_enter Tryz.func136,Tryz.ntmps136
 go_wp2_with fail
 refine ag kc ?_;rintro e w' ⟨ho,ht⟩;clear kc q2 q6;cases O with
 |none=>
  have he:e=Pn:=ho;subst he;exact⟨rfl,rfl,ht⟩
 |some y=>
  obtain⟨v,rfl,rfl,hs⟩:=ho
  go_wp2_with fail
  first|go_end0|go_ret
  exact⟨⟨_,rfl,rfl,hs⟩,ht⟩
theorem vR{α:Type}(x2 x6 M b:Nat)(w:World)(h:ClR x2 x6 M b w){O:Option α}{S:α→World→Prop}{T:World→Prop}
  (kc:Calls Tryz.prog 139 #[.pointer (some ⟨M,0,none⟩),.pointer (some ⟨b,0,none⟩)] w fun e w'=>Out O (fun y v w'=>v=.tuple #[]∧S y w') e w'∧T w'):
  Calls Tryz.prog 138 #[.pointer (some ⟨x2,0,none⟩),.pointer (some ⟨x6,0,none⟩)] w fun e w'=>Out O (fun y v w'=>v=.tuple #[]∧S y w') e w'∧T w':=by
 have q2:=cval h.m 0 (.pointer (some ⟨M,0,none⟩));have q6:=cval h.r 0 (.pointer (some ⟨b,0,none⟩));clear h
 go_enter Tryz.func138,Tryz.ntmps138
 go_wp2_with fail
 refine ag kc ?_;rintro e w' ⟨ho,ht⟩;clear kc q2 q6;cases O with
 |none=>
  have he:e=Pn:=ho;subst he;exact⟨rfl,rfl,ht⟩
 |some y=>
  obtain⟨v,rfl,rfl,hs⟩:=ho
  go_wp2_with fail
  first|go_end0|go_ret
  exact⟨⟨_,rfl,rfl,hs⟩,ht⟩
theorem DA{α:Type}(x2 x6 M b:Nat)(w:World)(h:ClR x2 x6 M b w){O:Option α}{S:α→World→Prop}{T:World→Prop}
  (kc:Calls Tryz.prog 141 #[.pointer (some ⟨M,0,none⟩),.pointer (some ⟨b,0,none⟩)] w fun e w'=>Out O (fun y v w'=>v=.tuple #[]∧S y w') e w'∧T w'):
  Calls Tryz.prog 140 #[.pointer (some ⟨x2,0,none⟩),.pointer (some ⟨x6,0,none⟩)] w fun e w'=>Out O (fun y v w'=>v=.tuple #[]∧S y w') e w'∧T w':=by
 have q2:=cval h.m 0 (.pointer (some ⟨M,0,none⟩));have q6:=cval h.r 0 (.pointer (some ⟨b,0,none⟩));clear h
 go_enter Tryz.func140,Tryz.ntmps140
 go_wp2_with fail
 refine ag kc ?_;rintro e w' ⟨ho,ht⟩;clear kc q2 q6;cases O with
 |none=>
  have he:e=Pn:=ho;subst he;exact⟨rfl,rfl,ht⟩
 |some y=>
  obtain⟨v,rfl,rfl,hs⟩:=ho
  go_wp2_with fail
  first|go_end0|go_ret
  exact⟨⟨_,rfl,rfl,hs⟩,ht⟩
theorem vT{α:Type}(x2 x6 M b:Nat)(w:World)(h:ClR x2 x6 M b w){O:Option α}{S:α→World→Prop}{T:World→Prop}
  (kc:Calls Tryz.prog 143 #[.pointer (some ⟨M,0,none⟩),.pointer (some ⟨b,0,none⟩)] w fun e w'=>Out O (fun y v w'=>v=.tuple #[]∧S y w') e w'∧T w'):
  Calls Tryz.prog 142 #[.pointer (some ⟨x2,0,none⟩),.pointer (some ⟨x6,0,none⟩)] w fun e w'=>Out O (fun y v w'=>v=.tuple #[]∧S y w') e w'∧T w':=by
 have q2:=cval h.m 0 (.pointer (some ⟨M,0,none⟩));have q6:=cval h.r 0 (.pointer (some ⟨b,0,none⟩));clear h
 go_enter Tryz.func142,Tryz.ntmps142
 go_wp2_with fail
 refine ag kc ?_;rintro e w' ⟨ho,ht⟩;clear kc q2 q6;cases O with
 |none=>
  have he:e=Pn:=ho;subst he;exact⟨rfl,rfl,ht⟩
 |some y=>
  obtain⟨v,rfl,rfl,hs⟩:=ho
  go_wp2_with fail
  first|go_end0|go_ret
  exact⟨⟨_,rfl,rfl,hs⟩,ht⟩
theorem vU(P:Nat→Prop)(b M x2 x6:Nat)(l:List El)(id:Int)(w:World)(hM:Hc w M (Mg.row {id:=id,op:=6}) 32)(hbM:b≠M)(hP:∀g,P g→g≠M)(h:RowA P b l w)(hc:ClR x2 x6 M b w)(n2:x2≠M∧x2≠b)(n6:x6≠M∧x6≠b):
  Calls Tryz.prog 130 #[.pointer (some ⟨x6,0,none⟩),.pointer (some ⟨x2,0,none⟩)] w fun e w'=>Out (fH id l) (fun y v w'=>v=.tuple #[]∧MgO w.heap.size M y.1 w'∧RowA (fun g=>P g∧g<w.heap.size) b y.2 w') e w'∧Lft [b,M] w.heap.size w w':=by
 have h0:MsR w P b M {id:=id,op:=6} l w:=⟨hM,h.shut,Lft.refl w,h.lt,(gl hM),hbM,hP⟩;generalize hO:fH id l=O;simp only[fH,bS] at hO;have HO:=hid hO;clear hO;have hblt:=h0.blt;have hmlt:=h0.mlt;have hx2:=(gl hc.m);have hx6:=(gl hc.r);clear h hM hbM hP
 go_enter Tryz.func130,Tryz.ntmps130
 go_wp2_with fail
 refine aR (S:=fun w'=>w'.cell? ⟨x2,0,none⟩=some (.pointer (some ⟨M,0,none⟩))∧w'.cell? ⟨x6,0,none⟩=some (.pointer (some ⟨b,0,none⟩))) (by kernel_rfl) ?_;have h1:MsR w P b M {id:=id,op:=6} l w.drew:=⟨h0.msg,h0.row.below (aA _ _).drew,h0.lft.drew,h0.blt,h0.mlt,h0.ne,h0.nP⟩;have c1:ClR x2 x6 M b w.drew:=⟨hc.m,hc.r⟩
 change wpAnyH _ _ _ _ _ _ _ _ w.drew
 clear h0 hc;generalize w.drew=w1 at h1 c1⊢;have hs1:=h1.size;have T:w1.cell? ⟨x2,0,none⟩=some (.pointer (some ⟨M,0,none⟩))∧w1.cell? ⟨x6,0,none⟩=some (.pointer (some ⟨b,0,none⟩)):=⟨(aq c1.m 0).trans rfl,(aq c1.r 0).trans rfl⟩;refine tn 0 (.pointer (some ⟨M,0,none⟩)) rfl (fun w' hS=>by obtain⟨y1,y2⟩:=hS;go_simp) T ?_;refine tn 1 (.pointer (some ⟨M,0,none⟩)) rfl (fun w' hS=>by obtain⟨y1,y2⟩:=hS;go_simp) T ?_;refine tn 2 (.pointer (some ⟨b,0,none⟩)) rfl (fun w' hS=>by obtain⟨y1,y2⟩:=hS;go_simp) T ?_;refine tn 4 (.pointer (some ⟨b,0,none⟩)) rfl (fun w' hS=>by obtain⟨y1,y2⟩:=hS;go_simp) T ?_;have kc:=cQ _ b l w1 h1.row;refine ao 3 rfl (fun K hK=>?_);go_simp;go_wp2_with fail
 refine ag kc ?_;rintro x w2 ⟨ho,hb⟩;have l2:=h1.lftn hb (by simp);have nx2:=h1.next hb;have hs2:=hb.size;have c1:=c1.to hb (by simp;omega) (by simp;omega);clear kc hb h1;replace HO:=HO.out;generalize cg l=E at ho HO;rcases E with _|dd
 ·obtain⟨rfl,rfl⟩:x=Pn∧none=O:=⟨ho,HO⟩
  exact⟨rfl,rfl,l2⟩
 obtain⟨v,rfl,rfl,hrow⟩:=ho
 try simp only[ai] at HO
 replace HO:=hid HO;have h2c:=nx2 _ hrow;clear nx2 hrow l2;clear T;have T:w2.cell? ⟨x2,0,none⟩=some (.pointer (some ⟨M,0,none⟩))∧w2.cell? ⟨x6,0,none⟩=some (.pointer (some ⟨b,0,none⟩)):=⟨(aq c1.m 0).trans rfl,(aq c1.r 0).trans rfl⟩;refine hK _ _ T ?_;clear hK K
 have kc:=cG _ b dd.2 w2 h2c.row;refine ao 5 rfl (fun K hK=>?_);go_simp;go_wp2_with fail
 refine ag kc ?_;rintro x w3 ⟨ho,hb⟩;have l3:=h2c.lftn hb (by simp);have nx3:=h2c.next hb;have hs3:=hb.size;have c1:=c1.to hb (by simp;omega) (by simp;omega);clear kc hb h2c;replace HO:=HO.out;generalize ch dd.2=E at ho HO;rcases E with _|q
 ·obtain⟨rfl,rfl⟩:x=Pn∧none=O:=⟨ho,HO⟩
  exact⟨rfl,rfl,l3⟩
 obtain⟨v,rfl,u5,rfl,hse,hu,hrow⟩:=ho
 try simp only[ai] at HO
 replace HO:=hid HO;have h3c:=nx3 _ hrow;clear nx3 hrow l3;clear T;have T:w3.cell? ⟨x2,0,none⟩=some (.pointer (some ⟨M,0,none⟩))∧w3.cell? ⟨x6,0,none⟩=some (.pointer (some ⟨b,0,none⟩)):=⟨(aq c1.m 0).trans rfl,(aq c1.r 0).trans rfl⟩;refine hK _ _ T ?_;clear hK K
 obtain⟨a5,c5,hf5⟩:=hu.shape;subst hf5;have kc:=oV q.1 _ w3 (hu.mono fun _ _ _=>trivial) hse;refine ao 6 rfl (fun K hK=>?_);go_simp;go_wp2_with fail
 refine ag kc ?_;rintro x w4 ⟨ho,hb⟩;have nx4:=h3c.to (X:=[]) (.of hb) (by simp);have l4:=nx4.lft;have hs4:=hb.size;have hsx:=h3c.size;have c1:=c1.to (X:=[]) (.of hb) (by simp) (by simp);clear kc hb h3c hu hse;replace HO:=HO.out;generalize m0 ft q.1=E at ho HO;rcases E with _|xs
 ·obtain⟨rfl,rfl⟩:x=Pn∧none=O:=⟨ho,HO⟩
  exact⟨rfl,rfl,l4⟩
 obtain⟨v,rfl,hL⟩:=ho
 try simp only[aw] at HO
 replace HO:=hid HO;have h4c:=nx4;clear nx4 l4;clear T;have T:w4.cell? ⟨x2,0,none⟩=some (.pointer (some ⟨M,0,none⟩))∧w4.cell? ⟨x6,0,none⟩=some (.pointer (some ⟨b,0,none⟩)):=⟨(aq c1.m 0).trans rfl,(aq c1.r 0).trans rfl⟩;refine hK _ _ T ?_;clear hK K
 obtain⟨aL,cL,hfL⟩:=hL.shape;subst hfL;refine ao 7 rfl (kks T ?_);refine ao 8 rfl (kks T ?_);have q5:=cval h4c.msg 2 Es;have z5:=aj h4c.msg 2;have h5s:MsR w P b M ({id:=id,op:=6,dn:=dd.1}:Mg) _ (w4.setCell ⟨M,2,none⟩ (.string ⟨List.toArray dd.1⟩)):=h4c.set 2 (.string ⟨List.toArray dd.1⟩) rfl;have c1:=c1.to ((Lft.refl _).set (X:=[M]) (B:=_) M 2 (.string ⟨List.toArray dd.1⟩) (by simp)) (by simp;omega) (by simp;omega);clear T;have T:(w4.setCell ⟨M,2,none⟩ (.string ⟨List.toArray dd.1⟩)).cell? ⟨x2,0,none⟩=some (.pointer (some ⟨M,0,none⟩))∧(w4.setCell ⟨M,2,none⟩ (.string ⟨List.toArray dd.1⟩)).cell? ⟨x6,0,none⟩=some (.pointer (some ⟨b,0,none⟩)):=⟨(aq c1.m 0).trans rfl,(aq c1.r 0).trans rfl⟩;refine ao 9 rfl (kks T ?_);refine ao 10 rfl (kks T ?_);refine ao 11 rfl (kks T ?_);have q6:(w4.setCell ⟨M,2,none⟩ (.string ⟨List.toArray dd.1⟩)).cell? ⟨M,13,none⟩=some (Sn):=(aq h5s.msg 13).trans rfl;have z6:=aj h5s.msg 13;have h6s:MsR w P b M ({id:=id,op:=6,dn:=dd.1,mods:=(.slice aL xs.length cL)}:Mg) _ ((w4.setCell ⟨M,2,none⟩ (.string ⟨List.toArray dd.1⟩)).setCell ⟨M,13,none⟩ ((.slice aL xs.length cL))):=h5s.set 13 ((.slice aL xs.length cL)) rfl;have c1:=c1.to ((Lft.refl _).set (X:=[M]) (B:=_) M 13 (.slice aL xs.length cL) (by simp)) (by simp;omega) (by simp;omega);clear T;have T:((w4.setCell ⟨M,2,none⟩ (.string ⟨List.toArray dd.1⟩)).setCell ⟨M,13,none⟩ ((.slice aL xs.length cL))).cell? ⟨x2,0,none⟩=some (.pointer (some ⟨M,0,none⟩))∧((w4.setCell ⟨M,2,none⟩ (.string ⟨List.toArray dd.1⟩)).setCell ⟨M,13,none⟩ ((.slice aL xs.length cL))).cell? ⟨x6,0,none⟩=some (.pointer (some ⟨b,0,none⟩)):=⟨(aq c1.m 0).trans rfl,(aq c1.r 0).trans rfl⟩;refine ao 12 rfl (kks T ?_);have l1:Lft [M] w4.heap.size w4 ((w4.setCell ⟨M,2,none⟩ (.string ⟨List.toArray dd.1⟩)).setCell ⟨M,13,none⟩ ((.slice aL xs.length cL))):=((Lft.refl _).set _ _ _ (by simp)).set _ _ _ (by simp);have L6:=hid (hL.kept (w':=((w4.setCell ⟨M,2,none⟩ (.string ⟨List.toArray dd.1⟩)).setCell ⟨M,13,none⟩ ((.slice aL xs.length cL)))) (Q:=fun g=>w.heap.size≤g) (fun g hg hl=>⟨l1.old hl (by simp;omega),by omega⟩) (by decide));clear hL l1;refine xk (by kernel_rfl) ?_ _
 try simp only[Exit.then]
 go_wp2_with fail
 have hO:=HO.out;subst hO
 first|go_end0|(refine aH (v:=.tuple #[]) (by simp[results,Tryz.f130]) rfl ?_)
 exact⟨⟨_,rfl,rfl,⟨_,h6s.msg,rfl,⟨bM.nil _ _ _,bM.nil _ _ _,L6.out,bM.nil _ _ _,bM.nil _ _ _⟩,rfl⟩,h6s.row⟩,h6s.lft⟩
theorem vV(P:Nat→Prop)(b M x2 x6:Nat)(l:List El)(id:Int)(w:World)(hM:Hc w M (Mg.row {id:=id,op:=8}) 32)(hbM:b≠M)(hP:∀g,P g→g≠M)(h:RowA P b l w)(hc:ClR x2 x6 M b w)(n2:x2≠M∧x2≠b)(n6:x6≠M∧x6≠b):
  Calls Tryz.prog 133 #[.pointer (some ⟨x6,0,none⟩),.pointer (some ⟨x2,0,none⟩)] w fun e w'=>Out (fh id 8 l) (fun y v w'=>v=.tuple #[]∧MgO w.heap.size M y.1 w'∧RowA (fun g=>P g∧g<w.heap.size) b y.2 w') e w'∧Lft [b,M] w.heap.size w w':=by
 have h0:MsR w P b M {id:=id,op:=8} l w:=⟨hM,h.shut,Lft.refl w,h.lt,(gl hM),hbM,hP⟩;generalize hO:fh id 8 l=O;simp only[fh,bS] at hO;have HO:=hid hO;clear hO;have hblt:=h0.blt;have hmlt:=h0.mlt;have hx2:=(gl hc.m);have hx6:=(gl hc.r);clear h hM hbM hP
 go_enter Tryz.func133,Tryz.ntmps133
 go_wp2_with fail
 refine aR (S:=fun w'=>w'.cell? ⟨x2,0,none⟩=some (.pointer (some ⟨M,0,none⟩))∧w'.cell? ⟨x6,0,none⟩=some (.pointer (some ⟨b,0,none⟩))) (by kernel_rfl) ?_;have h1:MsR w P b M {id:=id,op:=8} l w.drew:=⟨h0.msg,h0.row.below (aA _ _).drew,h0.lft.drew,h0.blt,h0.mlt,h0.ne,h0.nP⟩;have c1:ClR x2 x6 M b w.drew:=⟨hc.m,hc.r⟩
 change wpAnyH _ _ _ _ _ _ _ _ w.drew
 clear h0 hc;generalize w.drew=w1 at h1 c1⊢;have hs1:=h1.size;have T:w1.cell? ⟨x2,0,none⟩=some (.pointer (some ⟨M,0,none⟩))∧w1.cell? ⟨x6,0,none⟩=some (.pointer (some ⟨b,0,none⟩)):=⟨(aq c1.m 0).trans rfl,(aq c1.r 0).trans rfl⟩;refine tn 0 (.pointer (some ⟨M,0,none⟩)) rfl (fun w' hS=>by obtain⟨y1,y2⟩:=hS;go_simp) T ?_;refine tn 1 (.pointer (some ⟨M,0,none⟩)) rfl (fun w' hS=>by obtain⟨y1,y2⟩:=hS;go_simp) T ?_;refine tn 2 (.pointer (some ⟨b,0,none⟩)) rfl (fun w' hS=>by obtain⟨y1,y2⟩:=hS;go_simp) T ?_;refine tn 4 (.pointer (some ⟨b,0,none⟩)) rfl (fun w' hS=>by obtain⟨y1,y2⟩:=hS;go_simp) T ?_;have kc:=cQ _ b l w1 h1.row;refine ao 3 rfl (fun K hK=>?_);go_simp;go_wp2_with fail
 refine ag kc ?_;rintro x w2 ⟨ho,hb⟩;have l2:=h1.lftn hb (by simp);have nx2:=h1.next hb;have hs2:=hb.size;have c1:=c1.to hb (by simp;omega) (by simp;omega);clear kc hb h1;replace HO:=HO.out;generalize cg l=E at ho HO;rcases E with _|dd
 ·obtain⟨rfl,rfl⟩:x=Pn∧none=O:=⟨ho,HO⟩
  exact⟨rfl,rfl,l2⟩
 obtain⟨v,rfl,rfl,hrow⟩:=ho
 try simp only[ai] at HO
 replace HO:=hid HO;have h2c:=nx2 _ hrow;clear nx2 hrow l2;clear T;have T:w2.cell? ⟨x2,0,none⟩=some (.pointer (some ⟨M,0,none⟩))∧w2.cell? ⟨x6,0,none⟩=some (.pointer (some ⟨b,0,none⟩)):=⟨(aq c1.m 0).trans rfl,(aq c1.r 0).trans rfl⟩;refine hK _ _ T ?_;clear hK K
 have kc:=cG _ b dd.2 w2 h2c.row;refine ao 5 rfl (fun K hK=>?_);go_simp;go_wp2_with fail
 refine ag kc ?_;rintro x w3 ⟨ho,hb⟩;have l3:=h2c.lftn hb (by simp);have nx3:=h2c.next hb;have hs3:=hb.size;have c1:=c1.to hb (by simp;omega) (by simp;omega);clear kc hb h2c;replace HO:=HO.out;generalize ch dd.2=E at ho HO;rcases E with _|q
 ·obtain⟨rfl,rfl⟩:x=Pn∧none=O:=⟨ho,HO⟩
  exact⟨rfl,rfl,l3⟩
 obtain⟨v,rfl,u5,rfl,hse,hu,hrow⟩:=ho
 try simp only[ai] at HO
 replace HO:=hid HO;have h3c:=nx3 _ hrow;clear nx3 hrow l3;clear T;have T:w3.cell? ⟨x2,0,none⟩=some (.pointer (some ⟨M,0,none⟩))∧w3.cell? ⟨x6,0,none⟩=some (.pointer (some ⟨b,0,none⟩)):=⟨(aq c1.m 0).trans rfl,(aq c1.r 0).trans rfl⟩;refine hK _ _ T ?_;clear hK K
 obtain⟨a5,c5,hf5⟩:=hu.shape;subst hf5;have kc:=jG q.1 _ w3 (hu.mono fun _ _ _=>trivial) hse;refine ao 6 rfl (fun K hK=>?_);go_simp;go_wp2_with fail
 refine ag kc ?_;rintro x w4 ⟨ho,hb⟩;have nx4:=h3c.to (X:=[]) (.of hb) (by simp);have l4:=nx4.lft;have hs4:=hb.size;have hsx:=h3c.size;have c1:=c1.to (X:=[]) (.of hb) (by simp) (by simp);clear kc hb h3c hu hse;replace HO:=HO.out;generalize m0 dO q.1=E at ho HO;rcases E with _|xs
 ·obtain⟨rfl,rfl⟩:x=Pn∧none=O:=⟨ho,HO⟩
  exact⟨rfl,rfl,l4⟩
 obtain⟨v,rfl,hL⟩:=ho
 try simp only[aw] at HO
 replace HO:=hid HO;have h4c:=nx4;clear nx4 l4;clear T;have T:w4.cell? ⟨x2,0,none⟩=some (.pointer (some ⟨M,0,none⟩))∧w4.cell? ⟨x6,0,none⟩=some (.pointer (some ⟨b,0,none⟩)):=⟨(aq c1.m 0).trans rfl,(aq c1.r 0).trans rfl⟩;refine hK _ _ T ?_;clear hK K
 obtain⟨aL,cL,hfL⟩:=hL.shape;subst hfL;refine ao 7 rfl (kks T ?_);refine ao 8 rfl (kks T ?_);have q5:=cval h4c.msg 2 Es;have z5:=aj h4c.msg 2;have h5s:MsR w P b M ({id:=id,op:=8,dn:=dd.1}:Mg) _ (w4.setCell ⟨M,2,none⟩ (.string ⟨List.toArray dd.1⟩)):=h4c.set 2 (.string ⟨List.toArray dd.1⟩) rfl;have c1:=c1.to ((Lft.refl _).set (X:=[M]) (B:=_) M 2 (.string ⟨List.toArray dd.1⟩) (by simp)) (by simp;omega) (by simp;omega);clear T;have T:(w4.setCell ⟨M,2,none⟩ (.string ⟨List.toArray dd.1⟩)).cell? ⟨x2,0,none⟩=some (.pointer (some ⟨M,0,none⟩))∧(w4.setCell ⟨M,2,none⟩ (.string ⟨List.toArray dd.1⟩)).cell? ⟨x6,0,none⟩=some (.pointer (some ⟨b,0,none⟩)):=⟨(aq c1.m 0).trans rfl,(aq c1.r 0).trans rfl⟩;refine ao 9 rfl (kks T ?_);refine ao 10 rfl (kks T ?_);refine ao 11 rfl (kks T ?_);have q6:(w4.setCell ⟨M,2,none⟩ (.string ⟨List.toArray dd.1⟩)).cell? ⟨M,14,none⟩=some (Sn):=(aq h5s.msg 14).trans rfl;have z6:=aj h5s.msg 14;have h6s:MsR w P b M ({id:=id,op:=8,dn:=dd.1,attrs:=(.slice aL xs.length cL)}:Mg) _ ((w4.setCell ⟨M,2,none⟩ (.string ⟨List.toArray dd.1⟩)).setCell ⟨M,14,none⟩ ((.slice aL xs.length cL))):=h5s.set 14 ((.slice aL xs.length cL)) rfl;have c1:=c1.to ((Lft.refl _).set (X:=[M]) (B:=_) M 14 (.slice aL xs.length cL) (by simp)) (by simp;omega) (by simp;omega);clear T;have T:((w4.setCell ⟨M,2,none⟩ (.string ⟨List.toArray dd.1⟩)).setCell ⟨M,14,none⟩ ((.slice aL xs.length cL))).cell? ⟨x2,0,none⟩=some (.pointer (some ⟨M,0,none⟩))∧((w4.setCell ⟨M,2,none⟩ (.string ⟨List.toArray dd.1⟩)).setCell ⟨M,14,none⟩ ((.slice aL xs.length cL))).cell? ⟨x6,0,none⟩=some (.pointer (some ⟨b,0,none⟩)):=⟨(aq c1.m 0).trans rfl,(aq c1.r 0).trans rfl⟩;refine ao 12 rfl (kks T ?_);have l1:Lft [M] w4.heap.size w4 ((w4.setCell ⟨M,2,none⟩ (.string ⟨List.toArray dd.1⟩)).setCell ⟨M,14,none⟩ ((.slice aL xs.length cL))):=((Lft.refl _).set _ _ _ (by simp)).set _ _ _ (by simp);have L6:=hid (hL.kept (w':=((w4.setCell ⟨M,2,none⟩ (.string ⟨List.toArray dd.1⟩)).setCell ⟨M,14,none⟩ ((.slice aL xs.length cL)))) (Q:=fun g=>w.heap.size≤g) (fun g hg hl=>⟨l1.old hl (by simp;omega),by omega⟩) (by decide));clear hL l1;refine xk (by kernel_rfl) ?_ _
 try simp only[Exit.then]
 go_wp2_with fail
 have hO:=HO.out;subst hO
 first|go_end0|(refine aH (v:=.tuple #[]) (by simp[results,Tryz.f133]) rfl ?_)
 exact⟨⟨_,rfl,rfl,⟨_,h6s.msg,rfl,⟨bM.nil _ _ _,bM.nil _ _ _,bM.nil _ _ _,L6.out,bM.nil _ _ _⟩,rfl⟩,h6s.row⟩,h6s.lft⟩
theorem vW(P:Nat→Prop)(b M x2 x6:Nat)(l:List El)(id:Int)(w:World)(hM:Hc w M (Mg.row {id:=id,op:=4}) 32)(hbM:b≠M)(hP:∀g,P g→g≠M)(h:RowA P b l w)(hc:ClR x2 x6 M b w)(n2:x2≠M∧x2≠b)(n6:x6≠M∧x6≠b):
  Calls Tryz.prog 135 #[.pointer (some ⟨x6,0,none⟩),.pointer (some ⟨x2,0,none⟩)] w fun e w'=>Out (fh id 4 l) (fun y v w'=>v=.tuple #[]∧MgO w.heap.size M y.1 w'∧RowA (fun g=>P g∧g<w.heap.size) b y.2 w') e w'∧Lft [b,M] w.heap.size w w':=by
 have h0:MsR w P b M {id:=id,op:=4} l w:=⟨hM,h.shut,Lft.refl w,h.lt,(gl hM),hbM,hP⟩;generalize hO:fh id 4 l=O;simp only[fh,bS] at hO;have HO:=hid hO;clear hO;have hblt:=h0.blt;have hmlt:=h0.mlt;have hx2:=(gl hc.m);have hx6:=(gl hc.r);clear h hM hbM hP
 go_enter Tryz.func135,Tryz.ntmps135
 go_wp2_with fail
 refine aR (S:=fun w'=>w'.cell? ⟨x2,0,none⟩=some (.pointer (some ⟨M,0,none⟩))∧w'.cell? ⟨x6,0,none⟩=some (.pointer (some ⟨b,0,none⟩))) (by kernel_rfl) ?_;have h1:MsR w P b M {id:=id,op:=4} l w.drew:=⟨h0.msg,h0.row.below (aA _ _).drew,h0.lft.drew,h0.blt,h0.mlt,h0.ne,h0.nP⟩;have c1:ClR x2 x6 M b w.drew:=⟨hc.m,hc.r⟩
 change wpAnyH _ _ _ _ _ _ _ _ w.drew
 clear h0 hc;generalize w.drew=w1 at h1 c1⊢;have hs1:=h1.size;have T:w1.cell? ⟨x2,0,none⟩=some (.pointer (some ⟨M,0,none⟩))∧w1.cell? ⟨x6,0,none⟩=some (.pointer (some ⟨b,0,none⟩)):=⟨(aq c1.m 0).trans rfl,(aq c1.r 0).trans rfl⟩;refine tn 0 (.pointer (some ⟨M,0,none⟩)) rfl (fun w' hS=>by obtain⟨y1,y2⟩:=hS;go_simp) T ?_;refine tn 1 (.pointer (some ⟨M,0,none⟩)) rfl (fun w' hS=>by obtain⟨y1,y2⟩:=hS;go_simp) T ?_;refine tn 2 (.pointer (some ⟨b,0,none⟩)) rfl (fun w' hS=>by obtain⟨y1,y2⟩:=hS;go_simp) T ?_;refine tn 4 (.pointer (some ⟨b,0,none⟩)) rfl (fun w' hS=>by obtain⟨y1,y2⟩:=hS;go_simp) T ?_;have kc:=cQ _ b l w1 h1.row;refine ao 3 rfl (fun K hK=>?_);go_simp;go_wp2_with fail
 refine ag kc ?_;rintro x w2 ⟨ho,hb⟩;have l2:=h1.lftn hb (by simp);have nx2:=h1.next hb;have hs2:=hb.size;have c1:=c1.to hb (by simp;omega) (by simp;omega);clear kc hb h1;replace HO:=HO.out;generalize cg l=E at ho HO;rcases E with _|dd
 ·obtain⟨rfl,rfl⟩:x=Pn∧none=O:=⟨ho,HO⟩
  exact⟨rfl,rfl,l2⟩
 obtain⟨v,rfl,rfl,hrow⟩:=ho
 try simp only[ai] at HO
 replace HO:=hid HO;have h2c:=nx2 _ hrow;clear nx2 hrow l2;clear T;have T:w2.cell? ⟨x2,0,none⟩=some (.pointer (some ⟨M,0,none⟩))∧w2.cell? ⟨x6,0,none⟩=some (.pointer (some ⟨b,0,none⟩)):=⟨(aq c1.m 0).trans rfl,(aq c1.r 0).trans rfl⟩;refine hK _ _ T ?_;clear hK K
 have kc:=cG _ b dd.2 w2 h2c.row;refine ao 5 rfl (fun K hK=>?_);go_simp;go_wp2_with fail
 refine ag kc ?_;rintro x w3 ⟨ho,hb⟩;have l3:=h2c.lftn hb (by simp);have nx3:=h2c.next hb;have hs3:=hb.size;have c1:=c1.to hb (by simp;omega) (by simp;omega);clear kc hb h2c;replace HO:=HO.out;generalize ch dd.2=E at ho HO;rcases E with _|q
 ·obtain⟨rfl,rfl⟩:x=Pn∧none=O:=⟨ho,HO⟩
  exact⟨rfl,rfl,l3⟩
 obtain⟨v,rfl,u5,rfl,hse,hu,hrow⟩:=ho
 try simp only[ai] at HO
 replace HO:=hid HO;have h3c:=nx3 _ hrow;clear nx3 hrow l3;clear T;have T:w3.cell? ⟨x2,0,none⟩=some (.pointer (some ⟨M,0,none⟩))∧w3.cell? ⟨x6,0,none⟩=some (.pointer (some ⟨b,0,none⟩)):=⟨(aq c1.m 0).trans rfl,(aq c1.r 0).trans rfl⟩;refine hK _ _ T ?_;clear hK K
 obtain⟨a5,c5,hf5⟩:=hu.shape;subst hf5;have kc:=jG q.1 _ w3 (hu.mono fun _ _ _=>trivial) hse;refine ao 6 rfl (fun K hK=>?_);go_simp;go_wp2_with fail
 refine ag kc ?_;rintro x w4 ⟨ho,hb⟩;have nx4:=h3c.to (X:=[]) (.of hb) (by simp);have l4:=nx4.lft;have hs4:=hb.size;have hsx:=h3c.size;have c1:=c1.to (X:=[]) (.of hb) (by simp) (by simp);clear kc hb h3c hu hse;replace HO:=HO.out;generalize m0 dO q.1=E at ho HO;rcases E with _|xs
 ·obtain⟨rfl,rfl⟩:x=Pn∧none=O:=⟨ho,HO⟩
  exact⟨rfl,rfl,l4⟩
 obtain⟨v,rfl,hL⟩:=ho
 try simp only[aw] at HO
 replace HO:=hid HO;have h4c:=nx4;clear nx4 l4;clear T;have T:w4.cell? ⟨x2,0,none⟩=some (.pointer (some ⟨M,0,none⟩))∧w4.cell? ⟨x6,0,none⟩=some (.pointer (some ⟨b,0,none⟩)):=⟨(aq c1.m 0).trans rfl,(aq c1.r 0).trans rfl⟩;refine hK _ _ T ?_;clear hK K
 obtain⟨aL,cL,hfL⟩:=hL.shape;subst hfL;refine ao 7 rfl (kks T ?_);refine ao 8 rfl (kks T ?_);have q5:=cval h4c.msg 2 Es;have z5:=aj h4c.msg 2;have h5s:MsR w P b M ({id:=id,op:=4,dn:=dd.1}:Mg) _ (w4.setCell ⟨M,2,none⟩ (.string ⟨List.toArray dd.1⟩)):=h4c.set 2 (.string ⟨List.toArray dd.1⟩) rfl;have c1:=c1.to ((Lft.refl _).set (X:=[M]) (B:=_) M 2 (.string ⟨List.toArray dd.1⟩) (by simp)) (by simp;omega) (by simp;omega);clear T;have T:(w4.setCell ⟨M,2,none⟩ (.string ⟨List.toArray dd.1⟩)).cell? ⟨x2,0,none⟩=some (.pointer (some ⟨M,0,none⟩))∧(w4.setCell ⟨M,2,none⟩ (.string ⟨List.toArray dd.1⟩)).cell? ⟨x6,0,none⟩=some (.pointer (some ⟨b,0,none⟩)):=⟨(aq c1.m 0).trans rfl,(aq c1.r 0).trans rfl⟩;refine ao 9 rfl (kks T ?_);refine ao 10 rfl (kks T ?_);refine ao 11 rfl (kks T ?_);have q6:(w4.setCell ⟨M,2,none⟩ (.string ⟨List.toArray dd.1⟩)).cell? ⟨M,14,none⟩=some (Sn):=(aq h5s.msg 14).trans rfl;have z6:=aj h5s.msg 14;have h6s:MsR w P b M ({id:=id,op:=4,dn:=dd.1,attrs:=(.slice aL xs.length cL)}:Mg) _ ((w4.setCell ⟨M,2,none⟩ (.string ⟨List.toArray dd.1⟩)).setCell ⟨M,14,none⟩ ((.slice aL xs.length cL))):=h5s.set 14 ((.slice aL xs.length cL)) rfl;have c1:=c1.to ((Lft.refl _).set (X:=[M]) (B:=_) M 14 (.slice aL xs.length cL) (by simp)) (by simp;omega) (by simp;omega);clear T;have T:((w4.setCell ⟨M,2,none⟩ (.string ⟨List.toArray dd.1⟩)).setCell ⟨M,14,none⟩ ((.slice aL xs.length cL))).cell? ⟨x2,0,none⟩=some (.pointer (some ⟨M,0,none⟩))∧((w4.setCell ⟨M,2,none⟩ (.string ⟨List.toArray dd.1⟩)).setCell ⟨M,14,none⟩ ((.slice aL xs.length cL))).cell? ⟨x6,0,none⟩=some (.pointer (some ⟨b,0,none⟩)):=⟨(aq c1.m 0).trans rfl,(aq c1.r 0).trans rfl⟩;refine ao 12 rfl (kks T ?_);have l1:Lft [M] w4.heap.size w4 ((w4.setCell ⟨M,2,none⟩ (.string ⟨List.toArray dd.1⟩)).setCell ⟨M,14,none⟩ ((.slice aL xs.length cL))):=((Lft.refl _).set _ _ _ (by simp)).set _ _ _ (by simp);have L6:=hid (hL.kept (w':=((w4.setCell ⟨M,2,none⟩ (.string ⟨List.toArray dd.1⟩)).setCell ⟨M,14,none⟩ ((.slice aL xs.length cL)))) (Q:=fun g=>w.heap.size≤g) (fun g hg hl=>⟨l1.old hl (by simp;omega),by omega⟩) (by decide));clear hL l1;refine xk (by kernel_rfl) ?_ _
 try simp only[Exit.then]
 go_wp2_with fail
 have hO:=HO.out;subst hO
 first|go_end0|(refine aH (v:=.tuple #[]) (by simp[results,Tryz.f135]) rfl ?_)
 exact⟨⟨_,rfl,rfl,⟨_,h6s.msg,rfl,⟨bM.nil _ _ _,bM.nil _ _ _,bM.nil _ _ _,L6.out,bM.nil _ _ _⟩,rfl⟩,h6s.row⟩,h6s.lft⟩
theorem MgO.to{B M:Nat}{y:Mg×Ls}{w w':World}(h:MgO B M y w){X:List Nat}(k:Lft X w.heap.size w w')(hX:∀j∈X,j<B)(hM:M∉X):MgO B M y w':=by
 obtain⟨m,h1,h2,h3,h4⟩:=h;exact⟨m,k.at h1 hM,h2,h3.to k hX,h4⟩
theorem MgO.mono{B B' M:Nat}{y:Mg×Ls}{w:World}(h:MgO B M y w)(hB:B'≤B):MgO B' M y w:=by
 obtain⟨m,h1,h2,h3,h4⟩:=h;have hk:∀g,B≤g→g<w.heap.size→B'≤g:=fun g hg _=>by omega
 exact⟨m,h1,h2,⟨h3.filt.mono hk (by decide),h3.sel.mono hk (by decide),h3.mods.mono hk (by decide),h3.attrs.mono hk (by decide),h3.ctl.mono hk (by decide)⟩,h4⟩
def oTb:List (Nat×Int):=[(0,0),(1,3),(2,6),(3,8),(4,4),(5,12),(6,14),(7,23)]
def oTf(x2 x6:Nat):List Value:=[.func (.func 126) #[] #[.pointer (some ⟨x2,0,none⟩),.pointer (some ⟨x6,0,none⟩)],.func (.func 128) #[] #[.pointer (some ⟨x2,0,none⟩),.pointer (some ⟨x6,0,none⟩)],.func (.func 130) #[] #[.pointer (some ⟨x6,0,none⟩),.pointer (some ⟨x2,0,none⟩)],.func (.func 133) #[] #[.pointer (some ⟨x6,0,none⟩),.pointer (some ⟨x2,0,none⟩)],.func (.func 135) #[] #[.pointer (some ⟨x6,0,none⟩),.pointer (some ⟨x2,0,none⟩)],.func (.func 136) #[] #[.pointer (some ⟨x2,0,none⟩),.pointer (some ⟨x6,0,none⟩)],.func (.func 138) #[] #[.pointer (some ⟨x2,0,none⟩),.pointer (some ⟨x6,0,none⟩)],.func (.func 140) #[] #[.pointer (some ⟨x2,0,none⟩),.pointer (some ⟨x6,0,none⟩)]]
def pc(x2 x6:Nat)(listed:Nat→Bool)(r B:Nat)(w0 w:World):Prop:=ey oTb (fun i v _=>(oTf x2 x6)[i]?=some v) listed r w∧Below B w0 w∧B≤r
theorem fK{x2 x6:Nat}{listed:Nat→Bool}{r B:Nat}{w0 w:World}(h:pc x2 x6 listed r B w0 w)(i:Nat)(k:Int)(val:Value)(hi:(i,k)∈oTb)(hn:listed i=false)(hv:(oTf x2 x6)[i]?=some val):
  ∃w',(Instr.mapUpdate 172 (.map (some r)) (.int .i64 k) val).run Tryz.prog w=.ok () w'∧pc x2 x6 (fun j=>if j=i then true else listed j) r B w0 w':=by
 obtain⟨h1,h2,h3⟩:=h;obtain⟨w',q1,q2,q3,q4,q5,q6,q7,_⟩:=kJ (P:=Tryz.prog) 172 3 1 i k val (by kernel_rfl) (by kernel_rfl) h1 hi
  (fun p hp e=>(show ∀p∈oTb,∀q∈oTb,p.2=q.2→p.1=q.1 by decide) p hp (i,k) hi e) (fun p hp e=>(show ∀p∈oTb,∀q∈oTb,p.1=q.1→p.2=q.2 by decide) p hp (i,k) hi e) hn (fun _ _ _ _ _ q=>q) hv
 exact⟨w',q1,q2,⟨q5.trans h2.os,q6.trans h2.tape,q7.trans h2.output,by have:=h2.size;omega,fun j hj=>(q4 j (by omega)).trans (h2.block j hj)⟩,h3⟩
def iH(k:Int):Prop:=∀(P:Nat→Prop) (b M x2 x6:Nat) (l:List El) (id:Int) (w:World),Hc w M (Mg.row {id:=id,op:=k}) 32→b≠M→(∀g,P g→g≠M)→RowA P b l w→ClR x2 x6 M b w→(x2≠M∧x2≠b)→(x6≠M∧x6≠b)→dL l≤1000000000→
 ∀(i:Nat) (v:Value),(i,k)∈oTb→(oTf x2 x6)[i]?=some v→∃fn cap,v=.func (.func fn) #[] cap∧(∀args W,(callFunc fn args).run Tryz.prog W=.ok (.enter fn args) W)∧
  Calls Tryz.prog fn cap w fun e w'=>Out (oDo id k l) (fun y v w'=>v=.tuple #[]∧MgO w.heap.size M y.1 w'∧RowA (fun g=>P g∧g<w.heap.size) b y.2 w') e w'∧Lft [b,M] w.heap.size w w'
theorem vg:iH 0:=by
 intro P b M x2 x6 l id w hM hbM hP h hc n2 n6 hcn i v hi hv;have hin:i=0:=(show ∀p∈oTb,p.2=0→p.1=0 by decide) (i,0) hi rfl;subst hin;obtain rfl:.func (.func 126) #[] #[.pointer (some ⟨x2,0,none⟩),.pointer (some ⟨x6,0,none⟩)]=v:=aD hv;exact⟨126,_,rfl,fun _ _=>by go_simp,(vO x2 x6 M b w hc (pa P b M l id w hM hbM hP h))⟩
theorem vh:iH 3:=by
 intro P b M x2 x6 l id w hM hbM hP h hc n2 n6 hcn i v hi hv;have hin:i=1:=(show ∀p∈oTb,p.2=3→p.1=1 by decide) (i,3) hi rfl;subst hin;obtain rfl:.func (.func 128) #[] #[.pointer (some ⟨x2,0,none⟩),.pointer (some ⟨x6,0,none⟩)]=v:=aD hv;exact⟨128,_,rfl,fun _ _=>by go_simp,(vP x2 x6 M b w hc (mu P b M l id w hM hbM hP h hcn))⟩
theorem vi:iH 6:=by
 intro P b M x2 x6 l id w hM hbM hP h hc n2 n6 hcn i v hi hv;have hin:i=2:=(show ∀p∈oTb,p.2=6→p.1=2 by decide) (i,6) hi rfl;subst hin;obtain rfl:.func (.func 130) #[] #[.pointer (some ⟨x6,0,none⟩),.pointer (some ⟨x2,0,none⟩)]=v:=aD hv;exact⟨130,_,rfl,fun _ _=>by go_simp,(vU P b M x2 x6 l id w hM hbM hP h hc n2 n6)⟩
theorem vj:iH 8:=by
 intro P b M x2 x6 l id w hM hbM hP h hc n2 n6 hcn i v hi hv;have hin:i=3:=(show ∀p∈oTb,p.2=8→p.1=3 by decide) (i,8) hi rfl;subst hin;obtain rfl:.func (.func 133) #[] #[.pointer (some ⟨x6,0,none⟩),.pointer (some ⟨x2,0,none⟩)]=v:=aD hv;exact⟨133,_,rfl,fun _ _=>by go_simp,(vV P b M x2 x6 l id w hM hbM hP h hc n2 n6)⟩
theorem vk:iH 4:=by
 intro P b M x2 x6 l id w hM hbM hP h hc n2 n6 hcn i v hi hv;have hin:i=4:=(show ∀p∈oTb,p.2=4→p.1=4 by decide) (i,4) hi rfl;subst hin;obtain rfl:.func (.func 135) #[] #[.pointer (some ⟨x6,0,none⟩),.pointer (some ⟨x2,0,none⟩)]=v:=aD hv;exact⟨135,_,rfl,fun _ _=>by go_simp,(vW P b M x2 x6 l id w hM hbM hP h hc n2 n6)⟩
theorem vl:iH 12:=by
 intro P b M x2 x6 l id w hM hbM hP h hc n2 n6 hcn i v hi hv;have hin:i=5:=(show ∀p∈oTb,p.2=12→p.1=5 by decide) (i,12) hi rfl;subst hin;obtain rfl:.func (.func 136) #[] #[.pointer (some ⟨x2,0,none⟩),.pointer (some ⟨x6,0,none⟩)]=v:=aD hv;exact⟨136,_,rfl,fun _ _=>by go_simp,(vQ x2 x6 M b w hc (o0 P b M l id w hM hbM hP h))⟩
theorem vn:iH 14:=by
 intro P b M x2 x6 l id w hM hbM hP h hc n2 n6 hcn i v hi hv;have hin:i=6:=(show ∀p∈oTb,p.2=14→p.1=6 by decide) (i,14) hi rfl;subst hin;obtain rfl:.func (.func 138) #[] #[.pointer (some ⟨x2,0,none⟩),.pointer (some ⟨x6,0,none⟩)]=v:=aD hv;exact⟨138,_,rfl,fun _ _=>by go_simp,(vR x2 x6 M b w hc (lQ P b M l id w hM hbM hP h))⟩
theorem vo:iH 23:=by
 intro P b M x2 x6 l id w hM hbM hP h hc n2 n6 hcn i v hi hv;have hin:i=7:=(show ∀p∈oTb,p.2=23→p.1=7 by decide) (i,23) hi rfl;subst hin;obtain rfl:.func (.func 140) #[] #[.pointer (some ⟨x2,0,none⟩),.pointer (some ⟨x6,0,none⟩)]=v:=aD hv;exact⟨140,_,rfl,fun _ _=>by go_simp,(DA x2 x6 M b w hc (mq P b M l id w hM hbM hP h))⟩
theorem rQ{i:Nat}{k:Int}(h:(i,k)∈oTb):iH k:=by
 simp only[oTb,aY,Prod.mk.injEq,aZ,or_false] at h;rcases h with⟨rfl,rfl⟩|⟨rfl,rfl⟩|⟨rfl,rfl⟩|⟨rfl,rfl⟩|⟨rfl,rfl⟩|⟨rfl,rfl⟩|⟨rfl,rfl⟩|⟨rfl,rfl⟩
 all_goals first|exact vg|exact vh|exact vi|exact vj|exact vk|exact vl|exact vn|exact vo
theorem rR(P:Nat→Prop)(el:El)(u:Value)(id:Int)(M:Nat)(w:World)(hM:Hc w M (Mg.row {id:=id}) 32)(hk:bf P w u el.kids)(_:SmE el)(hP:∀g,P g→g≠M)(_:ed el≤1000000000)(ht:el.tag=2):
  Calls Tryz.prog 116 #[.pointer (some ⟨M,0,none⟩),.agg (elA el u)] w fun e w'=>Out (oOp id el) (fun y v w'=>v=.tuple #[]∧MgO w.heap.size M y w') e w'∧Lft [M] w.heap.size w w':=by
 have hBl:=(gl hM);obtain⟨a,c,hf⟩:=hk.shape;subst hf;have b1:Bw w ((w.alloc (.cells #[.pointer (some ⟨M,0,none⟩)] 56)).alloc (.cells #[.int .i64 el.cls,.int .i64 2,.bool el.cons,.string ⟨el.bytes.toArray⟩,.slice a el.kids.length c] 40)):=((aA _ _).alloc (ah _) _).alloc (by simp) _;have p1:Hc ((w.alloc (.cells #[.pointer (some ⟨M,0,none⟩)] 56)).alloc (.cells #[.int .i64 el.cls,.int .i64 2,.bool el.cons,.string ⟨el.bytes.toArray⟩,.slice a el.kids.length c] 40)) w.heap.size #[.pointer (some ⟨M,0,none⟩)] 56:=(alloc_old _ _ _ (by simp)).trans (fb _ _ _ rfl);have r1:Hc ((w.alloc (.cells #[.pointer (some ⟨M,0,none⟩)] 56)).alloc (.cells #[.int .i64 el.cls,.int .i64 2,.bool el.cons,.string ⟨el.bytes.toArray⟩,.slice a el.kids.length c] 40)) (w.heap.size+1) #[.int .i64 el.cls,.int .i64 2,.bool el.cons,.string ⟨el.bytes.toArray⟩,.slice a el.kids.length c] 40:=fb _ _ _ (by simp);have m1:=(b1.block M hBl).trans hM;have k1:=hk.below b1;generalize hO:oOp id el=O;unfold oOp at hO;rw[if_pos ht] at hO;have HO:=hid hO;unfold elA;rw[ht];clear hM hk hO
 go_enter Tryz.func116,Tryz.ntmps116
 refine wp_seq ?_;refine aQ ?_
 iterate 2 (refine aB rfl (kkn ?_))
 generalize((w.alloc (.cells #[.pointer (some ⟨M,0,none⟩)] 56)).alloc (.cells #[.int .i64 el.cls,.int .i64 2,.bool el.cons,.string ⟨el.bytes.toArray⟩,.slice a el.kids.length c] 40))=w1 at b1 p1 r1 m1 k1⊢;have qp:=cval p1 0 (.pointer (some ⟨M,0,none⟩));have qt:=cval r1 1 (.int .i64 2);have q1:=cval m1 1 I0;have z1:=aj m1 1;have m2:Hc (w1.setCell ⟨M,1,none⟩ (.int .i64 2)) M (Mg.row {id:=id,op:=2}) 32:=cq (i:=1) (u:=.int .i64 2) m1;have t2:Lft [M] w1.heap.size w1 (w1.setCell ⟨M,1,none⟩ (.int .i64 2)):=(Lft.refl w1).set _ _ _ (by simp);have p2:=t2.at p1 (by simp;omega);have r2:=t2.at r1 (by simp;omega);have k2:=k1.kept (Q:=fun _=>True) (w':=w1.setCell ⟨M,1,none⟩ (.int .i64 2)) (fun g hg hl=>⟨t2.old hl (by simpa using hP g hg),trivial⟩);have l2:Lft [M] w.heap.size w (w1.setCell ⟨M,1,none⟩ (.int .i64 2)):=(Lft.of b1).trans (t2.mono (ah _) fun _ _ h=>h) (ah _);have hs1:=b1.size;have hs2:w.heap.size+2≤(w1.setCell ⟨M,1,none⟩ (.int .i64 2)).heap.size:=by have:=(gl r1);simp;omega
 obtain⟨M2,P2,R2,L2,K2⟩:=Cj m2 p2 r2 l2 k2;clear p1 r1 m1 b1 m2 p2 r2 l2 k1 k2 t2 hP
 go_wp2_with fail
 clear qp qt q1 z1;generalize w1.setCell ⟨M,1,none⟩ (.int .i64 2)=w2 at M2 P2 R2 L2 K2 hs2⊢;refine aR (S:=fun w'=>Hc w' w.heap.size #[.pointer (some ⟨M,0,none⟩)] 56∧Hc w' (w.heap.size+1) #[.int .i64 el.cls,.int .i64 2,.bool el.cons,.string ⟨el.bytes.toArray⟩,.slice a el.kids.length c] 40∧w'.cell? ⟨M,1,none⟩=some (.int .i64 2)) (by kernel_rfl) ?_;have T3:Hc w2.drew w.heap.size #[.pointer (some ⟨M,0,none⟩)] 56∧Hc w2.drew (w.heap.size+1) #[.int .i64 el.cls,.int .i64 2,.bool el.cons,.string ⟨el.bytes.toArray⟩,.slice a el.kids.length c] 40∧w2.drew.cell? ⟨M,1,none⟩=some (.int .i64 2):=⟨P2.out,R2.out,(aq M2.out 1).trans rfl⟩;have M3:Hc w2.drew M (Mg.row {id:=id,op:=2}) 32:=M2.out;have L3:Lft [M] w.heap.size w w2.drew:=L2.out.drew;have K3:=K2.out.below (aA _ w2).drew;have hs3:w.heap.size+2≤w2.drew.heap.size:=hs2
 change wpAnyH _ _ _ _ _ _ _ _ w2.drew
 clear M2 P2 R2 L2 K2 hs2;generalize w2.drew=w3 at T3 M3 L3 K3 hs3⊢;refine tn 0 (.agg #[.int .i64 el.cls,.int .i64 2,.bool el.cons,.string ⟨el.bytes.toArray⟩,.slice a el.kids.length c]) rfl (fun w' hS=>by exact cU 40 (.tmp 3) rfl (w.heap.size+1) 40 _ (0,0) (by rfl) hS.2.1 _ Tryz.underlying40 rfl (by rfl)) T3 ?_;refine tn 1 (.pointer (some ⟨M,0,none⟩)) rfl (fun w' hS=>by have q:=(aq hS.1 0).trans (rfl:_=some (Value.pointer (some ⟨M,0,none⟩)));go_simp) T3 ?_;refine tp 2 ⟨M,0,none⟩ rfl T3 ?_;refine tp 3 ⟨M,1,none⟩ rfl T3 ?_;refine tn 4 (.int .i64 2) rfl (fun w' hS=>by have q:=hS.2.2;go_simp) T3 ?_;have kc:=gC el _ 1 2 w3 K3;unfold elA at kc;rw[ht] at kc;refine ao 5 rfl (fun K hK=>?_);go_simp;go_wp2_with fail
 refine ag kc ?_;rintro x w4 ⟨ho,hb⟩;have M4:=bk hb M3;have T4:Hc w4 w.heap.size #[.pointer (some ⟨M,0,none⟩)] 56∧Hc w4 (w.heap.size+1) #[.int .i64 el.cls,.int .i64 2,.bool el.cons,.string ⟨el.bytes.toArray⟩,.slice a el.kids.length c] 40∧w4.cell? ⟨M,1,none⟩=some (.int .i64 2):=⟨bk hb T3.1,bk hb T3.2.1,(aq M4 1).trans rfl⟩;have L4:Lft [M] w.heap.size w w4:=L3.trans (.of hb) (by have:=L3.size;omega);have hs4:=hb.size;clear kc hb M3 T3 L3 K3;replace HO:=HO.out;generalize dK el 1 2=E at ho HO;rcases E with _|s
 ·obtain⟨rfl,rfl⟩:x=Pn∧none=O:=⟨ho,HO⟩
  exact⟨rfl,rfl,L4⟩
 obtain⟨v,rfl,rfl⟩:=ho
 try simp only[ai] at HO
 replace HO:=hid HO;refine hK _ _ T4 ?_;clear hK K
 by_cases hse:s=[]
 ·have hO:=HO.out
  rw[if_pos hse] at hO;subst hse;refine ao 6 rfl (kks T4 ?_);refine ao 7 rfl (fun K hK=>?_);go_simp;go_wp2_with fail
  refine ag (show Calls _ _ _ _ _ from cN true w4) ?_;rintro e wz ⟨⟨_,rfl,rfl⟩,hwz⟩;obtain rfl:=hwz.symm;refine hK _ _ T4 ?_;clear hK K
  refine xk (by kernel_rfl) ?_ _;simp only[Exit.then];refine‹∀(a:Act) (w:World),Code.wp _ _ _ a w→_› _ _ ?_
  go_wp2_with fail
  subst hO;refine aH (v:=.tuple #[]) ?_ rfl ⟨⟨_,rfl,rfl,⟨_,M4,rfl,LsL.none _ _ {id:=id,op:=2},rfl⟩⟩,L4⟩
  simp[results,Tryz.f116]
 ·have hO:=HO.out
  rw[if_neg hse] at hO;have hse2:s.isEmpty=false:=by cases s with
   |nil=>exact absurd rfl hse
   |cons a b=>rfl
  refine ao 6 rfl (kks T4 ?_);refine ao 7 rfl (fun K hK=>?_);go_simp;go_wp2_with fail
  refine ag (show Calls _ _ _ _ _ from cN false w4) ?_;rintro e wz ⟨he,hwz⟩;obtain rfl:=hwz.symm;subst hO;have he2:e=Pn:=he;subst he2;exact⟨rfl,rfl,L4⟩
theorem rS(P:Nat→Prop)(el:El)(u:Value)(id:Int)(M:Nat)(w:World)(hM:Hc w M (Mg.row {id:=id}) 32)(hk:bf P w u el.kids)(_:SmE el)(hP:∀g,P g→g≠M)(_:ed el≤1000000000)(ht:el.tag=10):
  Calls Tryz.prog 116 #[.pointer (some ⟨M,0,none⟩),.agg (elA el u)] w fun e w'=>Out (oOp id el) (fun y v w'=>v=.tuple #[]∧MgO w.heap.size M y w') e w'∧Lft [M] w.heap.size w w':=by
 have hBl:=(gl hM);obtain⟨a,c,hf⟩:=hk.shape;subst hf;have b1:Bw w ((w.alloc (.cells #[.pointer (some ⟨M,0,none⟩)] 56)).alloc (.cells #[.int .i64 el.cls,.int .i64 10,.bool el.cons,.string ⟨el.bytes.toArray⟩,.slice a el.kids.length c] 40)):=((aA _ _).alloc (ah _) _).alloc (by simp) _;have p1:Hc ((w.alloc (.cells #[.pointer (some ⟨M,0,none⟩)] 56)).alloc (.cells #[.int .i64 el.cls,.int .i64 10,.bool el.cons,.string ⟨el.bytes.toArray⟩,.slice a el.kids.length c] 40)) w.heap.size #[.pointer (some ⟨M,0,none⟩)] 56:=(alloc_old _ _ _ (by simp)).trans (fb _ _ _ rfl);have r1:Hc ((w.alloc (.cells #[.pointer (some ⟨M,0,none⟩)] 56)).alloc (.cells #[.int .i64 el.cls,.int .i64 10,.bool el.cons,.string ⟨el.bytes.toArray⟩,.slice a el.kids.length c] 40)) (w.heap.size+1) #[.int .i64 el.cls,.int .i64 10,.bool el.cons,.string ⟨el.bytes.toArray⟩,.slice a el.kids.length c] 40:=fb _ _ _ (by simp);have m1:=(b1.block M hBl).trans hM;have k1:=hk.below b1;generalize hO:oOp id el=O;unfold oOp at hO;rw[if_neg (by omega),if_pos ht] at hO;have HO:=hid hO;unfold elA;rw[ht];clear hM hk hO
 go_enter Tryz.func116,Tryz.ntmps116
 refine wp_seq ?_;refine aQ ?_
 iterate 2 (refine aB rfl (kkn ?_))
 generalize((w.alloc (.cells #[.pointer (some ⟨M,0,none⟩)] 56)).alloc (.cells #[.int .i64 el.cls,.int .i64 10,.bool el.cons,.string ⟨el.bytes.toArray⟩,.slice a el.kids.length c] 40))=w1 at b1 p1 r1 m1 k1⊢;have qp:=cval p1 0 (.pointer (some ⟨M,0,none⟩));have qt:=cval r1 1 (.int .i64 10);have q1:=cval m1 1 I0;have z1:=aj m1 1;have m2:Hc (w1.setCell ⟨M,1,none⟩ (.int .i64 10)) M (Mg.row {id:=id,op:=10}) 32:=cq (i:=1) (u:=.int .i64 10) m1;have t2:Lft [M] w1.heap.size w1 (w1.setCell ⟨M,1,none⟩ (.int .i64 10)):=(Lft.refl w1).set _ _ _ (by simp);have p2:=t2.at p1 (by simp;omega);have r2:=t2.at r1 (by simp;omega);have k2:=k1.kept (Q:=fun _=>True) (w':=w1.setCell ⟨M,1,none⟩ (.int .i64 10)) (fun g hg hl=>⟨t2.old hl (by simpa using hP g hg),trivial⟩);have l2:Lft [M] w.heap.size w (w1.setCell ⟨M,1,none⟩ (.int .i64 10)):=(Lft.of b1).trans (t2.mono (ah _) fun _ _ h=>h) (ah _);have hs1:=b1.size;have hs2:w.heap.size+2≤(w1.setCell ⟨M,1,none⟩ (.int .i64 10)).heap.size:=by have:=(gl r1);simp;omega
 obtain⟨M2,P2,R2,L2,K2⟩:=Cj m2 p2 r2 l2 k2;clear p1 r1 m1 b1 m2 p2 r2 l2 k1 k2 t2 hP
 go_wp2_with fail
 clear qp qt q1 z1;generalize w1.setCell ⟨M,1,none⟩ (.int .i64 10)=w2 at M2 P2 R2 L2 K2 hs2⊢;refine aR (S:=fun w'=>Hc w' w.heap.size #[.pointer (some ⟨M,0,none⟩)] 56∧Hc w' (w.heap.size+1) #[.int .i64 el.cls,.int .i64 10,.bool el.cons,.string ⟨el.bytes.toArray⟩,.slice a el.kids.length c] 40∧w'.cell? ⟨M,1,none⟩=some (.int .i64 10)) (by kernel_rfl) ?_;have T3:Hc w2.drew w.heap.size #[.pointer (some ⟨M,0,none⟩)] 56∧Hc w2.drew (w.heap.size+1) #[.int .i64 el.cls,.int .i64 10,.bool el.cons,.string ⟨el.bytes.toArray⟩,.slice a el.kids.length c] 40∧w2.drew.cell? ⟨M,1,none⟩=some (.int .i64 10):=⟨P2.out,R2.out,(aq M2.out 1).trans rfl⟩;have M3:Hc w2.drew M (Mg.row {id:=id,op:=10}) 32:=M2.out;have L3:Lft [M] w.heap.size w w2.drew:=L2.out.drew;have K3:=K2.out.below (aA _ w2).drew;have hs3:w.heap.size+2≤w2.drew.heap.size:=hs2
 change wpAnyH _ _ _ _ _ _ _ _ w2.drew
 clear M2 P2 R2 L2 K2 hs2;generalize w2.drew=w3 at T3 M3 L3 K3 hs3⊢;refine tn 0 (.pointer (some ⟨M,0,none⟩)) rfl (fun w' hS=>by have q:=(aq hS.1 0).trans (rfl:_=some (Value.pointer (some ⟨M,0,none⟩)));go_simp) T3 ?_;refine tn 2 (.pointer (some ⟨M,0,none⟩)) rfl (fun w' hS=>by have q:=(aq hS.1 0).trans (rfl:_=some (Value.pointer (some ⟨M,0,none⟩)));go_simp) T3 ?_;refine tn 1 (.agg #[.int .i64 el.cls,.int .i64 10,.bool el.cons,.string ⟨el.bytes.toArray⟩,.slice a el.kids.length c]) rfl (fun w' hS=>by exact cU 40 (.tmp 3) rfl (w.heap.size+1) 40 _ (0,0) (by rfl) hS.2.1 _ Tryz.underlying40 rfl (by rfl)) T3 ?_;refine tp 3 ⟨M,0,none⟩ rfl T3 ?_;refine tp 4 ⟨M,1,none⟩ rfl T3 ?_;refine tn 5 (.int .i64 10) rfl (fun w' hS=>by have q:=hS.2.2;go_simp) T3 ?_;have kc:=gC el _ 1 10 w3 K3;unfold elA at kc;rw[ht] at kc;refine ao 6 rfl (fun K hK=>?_);go_simp;go_wp2_with fail
 refine ag kc ?_;rintro x w4 ⟨ho,hb⟩;have M4:=bk hb M3;have T4:Hc w4 w.heap.size #[.pointer (some ⟨M,0,none⟩)] 56∧Hc w4 (w.heap.size+1) #[.int .i64 el.cls,.int .i64 10,.bool el.cons,.string ⟨el.bytes.toArray⟩,.slice a el.kids.length c] 40∧w4.cell? ⟨M,1,none⟩=some (.int .i64 10):=⟨bk hb T3.1,bk hb T3.2.1,(aq M4 1).trans rfl⟩;have L4:Lft [M] w.heap.size w w4:=L3.trans (.of hb) (by have:=L3.size;omega);have hs4:=hb.size;clear kc hb M3 T3 L3 K3;replace HO:=HO.out;generalize dK el 1 10=E at ho HO;rcases E with _|s
 ·obtain⟨rfl,rfl⟩:x=Pn∧none=O:=⟨ho,HO⟩
  exact⟨rfl,rfl,L4⟩
 obtain⟨v,rfl,rfl⟩:=ho
 try simp only[aw] at HO
 replace HO:=hid HO;refine hK _ _ T4 ?_;clear hK K
 refine ao 7 rfl (kks T4 ?_);refine ao 8 rfl (kks T4 ?_);have s2:=cval M4 2 Es;have z2:=aj M4 2;have t5:Lft [M] w4.heap.size w4 (w4.setCell ⟨M,2,none⟩ (.string ⟨s.toArray⟩)):=(Lft.refl w4).set _ _ _ (by simp);have M5:Hc (w4.setCell ⟨M,2,none⟩ (.string ⟨s.toArray⟩)) M (Mg.row {id:=id,op:=10,dn:=s}) 32:=cq (i:=2) (u:=.string ⟨s.toArray⟩) M4;have T5:Hc (w4.setCell ⟨M,2,none⟩ (.string ⟨s.toArray⟩)) w.heap.size #[.pointer (some ⟨M,0,none⟩)] 56∧Hc (w4.setCell ⟨M,2,none⟩ (.string ⟨s.toArray⟩)) (w.heap.size+1) #[.int .i64 el.cls,.int .i64 10,.bool el.cons,.string ⟨el.bytes.toArray⟩,.slice a el.kids.length c] 40∧(w4.setCell ⟨M,2,none⟩ (.string ⟨s.toArray⟩)).cell? ⟨M,1,none⟩=some (.int .i64 10):=⟨t5.at T4.1 (by simp;omega),t5.at T4.2.1 (by simp;omega),(aq M5 1).trans rfl⟩;have L5:Lft [M] w.heap.size w (w4.setCell ⟨M,2,none⟩ (.string ⟨s.toArray⟩)):=L4.set _ _ _ (by simp);refine ao 9 rfl (kks T5 ?_);refine xk (by kernel_rfl) ?_ _;simp only[Exit.then];refine‹∀(a:Act) (w:World),Code.wp _ _ _ a w→_› _ _ ?_;clear s2 z2;generalize w4.setCell ⟨M,2,none⟩ (.string ⟨s.toArray⟩)=w5 at M5 L5 T5⊢
 go_wp2_with fail
 have hO:=HO.out;subst hO;refine aH (v:=.tuple #[]) ?_ rfl ⟨⟨_,rfl,rfl,⟨_,M5,rfl,LsL.none _ _ {id:=id,op:=10,dn:=s},rfl⟩⟩,L5⟩
 simp[results,Tryz.f116]
theorem mw(P:Nat→Prop)(el:El)(u:Value)(id:Int)(M:Nat)(w:World)(hM:Hc w M (Mg.row {id:=id}) 32)(hk:bf P w u el.kids)(hs:SmE el)(hP:∀g,P g→g≠M)(hcn:ed el≤1000000000)(ht:el.tag=16):
  Calls Tryz.prog 116 #[.pointer (some ⟨M,0,none⟩),.agg (elA el u)] w fun e w'=>Out (oOp id el) (fun y v w'=>v=.tuple #[]∧MgO w.heap.size M y w') e w'∧Lft [M] w.heap.size w w':=by
 have hBl:=(gl hM);obtain⟨a,c,hf⟩:=hk.shape;subst hf;have b1:Bw w ((w.alloc (.cells #[.pointer (some ⟨M,0,none⟩)] 56)).alloc (.cells #[.int .i64 el.cls,.int .i64 16,.bool el.cons,.string ⟨el.bytes.toArray⟩,.slice a el.kids.length c] 40)):=((aA _ _).alloc (ah _) _).alloc (by simp) _;have p1:Hc ((w.alloc (.cells #[.pointer (some ⟨M,0,none⟩)] 56)).alloc (.cells #[.int .i64 el.cls,.int .i64 16,.bool el.cons,.string ⟨el.bytes.toArray⟩,.slice a el.kids.length c] 40)) w.heap.size #[.pointer (some ⟨M,0,none⟩)] 56:=(alloc_old _ _ _ (by simp)).trans (fb _ _ _ rfl);have r1:Hc ((w.alloc (.cells #[.pointer (some ⟨M,0,none⟩)] 56)).alloc (.cells #[.int .i64 el.cls,.int .i64 16,.bool el.cons,.string ⟨el.bytes.toArray⟩,.slice a el.kids.length c] 40)) (w.heap.size+1) #[.int .i64 el.cls,.int .i64 16,.bool el.cons,.string ⟨el.bytes.toArray⟩,.slice a el.kids.length c] 40:=fb _ _ _ (by simp);have m1:=(b1.block M hBl).trans hM;have k1:=hk.below b1;generalize hO:oOp id el=O;unfold oOp at hO;rw[if_neg (by omega),if_neg (by omega),if_pos ht] at hO;unfold fW at hO;have HO:=hid hO;unfold elA;rw[ht];clear hM hk hO
 go_enter Tryz.func116,Tryz.ntmps116
 refine wp_seq ?_;refine aQ ?_
 iterate 2 (refine aB rfl (kkn ?_))
 generalize((w.alloc (.cells #[.pointer (some ⟨M,0,none⟩)] 56)).alloc (.cells #[.int .i64 el.cls,.int .i64 16,.bool el.cons,.string ⟨el.bytes.toArray⟩,.slice a el.kids.length c] 40))=w1 at b1 p1 r1 m1 k1⊢;have qp:=cval p1 0 (.pointer (some ⟨M,0,none⟩));have qt:=cval r1 1 (.int .i64 16);have q1:=cval m1 1 I0;have z1:=aj m1 1;have m2:Hc (w1.setCell ⟨M,1,none⟩ (.int .i64 16)) M (Mg.row {id:=id,op:=16}) 32:=cq (i:=1) (u:=.int .i64 16) m1;have t2:Lft [M] w1.heap.size w1 (w1.setCell ⟨M,1,none⟩ (.int .i64 16)):=(Lft.refl w1).set _ _ _ (by simp);have p2:=t2.at p1 (by simp;omega);have r2:=t2.at r1 (by simp;omega);have k2:=k1.kept (Q:=fun _=>True) (w':=w1.setCell ⟨M,1,none⟩ (.int .i64 16)) (fun g hg hl=>⟨t2.old hl (by simpa using hP g hg),trivial⟩);have l2:Lft [M] w.heap.size w (w1.setCell ⟨M,1,none⟩ (.int .i64 16)):=(Lft.of b1).trans (t2.mono (ah _) fun _ _ h=>h) (ah _);have hs1:=b1.size;have hs2:w.heap.size+2≤(w1.setCell ⟨M,1,none⟩ (.int .i64 16)).heap.size:=by have:=(gl r1);simp;omega
 obtain⟨M2,P2,R2,L2,K2⟩:=Cj m2 p2 r2 l2 k2;clear p1 r1 m1 b1 m2 p2 r2 l2 k1 k2 t2 hP
 go_wp2_with fail
 clear qp qt q1 z1;generalize w1.setCell ⟨M,1,none⟩ (.int .i64 16)=w2 at M2 P2 R2 L2 K2 hs2⊢;refine aR (S:=fun w'=>Hc w' w.heap.size #[.pointer (some ⟨M,0,none⟩)] 56∧Hc w' (w.heap.size+1) #[.int .i64 el.cls,.int .i64 16,.bool el.cons,.string ⟨el.bytes.toArray⟩,.slice a el.kids.length c] 40∧w'.cell? ⟨M,1,none⟩=some (.int .i64 16)) (by kernel_rfl) ?_;have T3:Hc w2.drew w.heap.size #[.pointer (some ⟨M,0,none⟩)] 56∧Hc w2.drew (w.heap.size+1) #[.int .i64 el.cls,.int .i64 16,.bool el.cons,.string ⟨el.bytes.toArray⟩,.slice a el.kids.length c] 40∧w2.drew.cell? ⟨M,1,none⟩=some (.int .i64 16):=⟨P2.out,R2.out,(aq M2.out 1).trans rfl⟩;have M3:Hc w2.drew M (Mg.row {id:=id,op:=16}) 32:=M2.out;have L3:Lft [M] w.heap.size w w2.drew:=L2.out.drew;have K3:=K2.out.below (aA _ w2).drew;have hs3:w.heap.size+2≤w2.drew.heap.size:=hs2
 change wpAnyH _ _ _ _ _ _ _ _ w2.drew
 clear M2 P2 R2 L2 K2 hs2;generalize w2.drew=w3 at T3 M3 L3 K3 hs3⊢;refine tn 0 (.agg #[.int .i64 el.cls,.int .i64 16,.bool el.cons,.string ⟨el.bytes.toArray⟩,.slice a el.kids.length c]) rfl (fun w' hS=>by exact cU 40 (.tmp 3) rfl (w.heap.size+1) 40 _ (0,0) (by rfl) hS.2.1 _ Tryz.underlying40 rfl (by rfl)) T3 ?_;refine tn 1 (.pointer (some ⟨M,0,none⟩)) rfl (fun w' hS=>by have q:=(aq hS.1 0).trans (rfl:_=some (Value.pointer (some ⟨M,0,none⟩)));go_simp) T3 ?_;refine tp 2 ⟨M,0,none⟩ rfl T3 ?_;refine tp 3 ⟨M,1,none⟩ rfl T3 ?_;refine tn 4 (.int .i64 16) rfl (fun w' hS=>by have q:=hS.2.2;go_simp) T3 ?_;have hbl:el.bytes.length≤1000000000:=by
  cases el with
  |mk _ _ _ b ks=>exact hs.1
 have kc:=jY el _ 1 16 w3 K3 hbl;unfold elA at kc;rw[ht] at kc;obtain⟨G,hG⟩:=nmm (gA el 1 16);have hO:=HO.out;rw[hG] at kc hO;clear hG HO;refine ao 5 rfl (fun K hK=>?_);go_simp;go_wp2_with fail
 refine ag kc ?_;rintro x w4 ⟨rfl,hb⟩;have M4:=bk hb M3;have T4:Hc w4 w.heap.size #[.pointer (some ⟨M,0,none⟩)] 56∧Hc w4 (w.heap.size+1) #[.int .i64 el.cls,.int .i64 16,.bool el.cons,.string ⟨el.bytes.toArray⟩,.slice a el.kids.length c] 40∧w4.cell? ⟨M,1,none⟩=some (.int .i64 16):=⟨bk hb T3.1,bk hb T3.2.1,(aq M4 1).trans rfl⟩;have L4:Lft [M] w.heap.size w w4:=L3.trans (.of hb) (by have:=L3.size;omega);have hs4:=hb.size;clear kc hb M3 T3 L3 K3;refine hK _ _ T4 ?_;clear hK K
 refine ao 6 rfl (kks T4 ?_);refine tn 7 (.int .i64 G.1) rfl (fun w' hS=>by go_simp) T4 ?_;refine tn 8 (.int .i64 G.2) rfl (fun w' hS=>by go_simp) T4 ?_;refine tn 9 (.int .i64 G.1) rfl (fun w' hS=>by go_simp) T4 ?_;refine tn 10 (.int .i64 G.2) rfl (fun w' hS=>by go_simp) T4 ?_;refine xk (by kernel_rfl) ?_ _;simp only[Exit.then];refine‹∀(a:Act) (w:World),Code.wp _ _ _ a w→_› _ _ ?_;have HO:=hid hO;clear hO
 by_cases h0:G.2=0
 ·have hO:=HO.out
  rw[if_pos h0] at hO;simp only[aw] at hO;have qp:=cval T4.1 0 (.pointer (some ⟨M,0,none⟩));have s2:=cval M4 23 I0;have z2:=aj M4 23;have M5:Hc (w4.setCell ⟨M,23,none⟩ (.int .i64 G.1)) M (Mg.row {id:=id,op:=16,target:=G.1}) 32:=cq (i:=23) (u:=.int .i64 G.1) M4;have L5:Lft [M] w.heap.size w (w4.setCell ⟨M,23,none⟩ (.int .i64 G.1)):=L4.set _ _ _ (by simp);have i0:decide (G.2=0)=true:=aC h0;have kw:=cN true w4;clear T4 M4
  go_wp2_with fail
  refine ag kw ?_;rintro e wz ⟨⟨_,rfl,rfl⟩,hwz⟩;obtain rfl:=hwz.symm
  go_wp2_with fail
  subst hO;refine aH (v:=.tuple #[]) ?_ rfl ⟨⟨_,rfl,rfl,⟨_,M5,rfl,LsL.none _ _ {id:=id,op:=16,target:=G.1},rfl⟩⟩,L5⟩
  simp[results,Tryz.f116]
 ·have hO:=HO.out
  rw[if_neg h0] at hO;simp only[bn] at hO;have i0:(G.2==0)=false:=aE h0;have kw:=cN false w4;clear T4 M4
  go_wp2_with fail
  refine ag kw ?_;rintro e wz ⟨he,hwz⟩;obtain rfl:=hwz.symm;subst hO;have he2:e=Pn:=he;subst he2;exact⟨rfl,rfl,L4⟩
end Go.Proofs.YtfhghdcbofbceaaGreatDoor
