/- LnS, FrA, PlainRed, RdA, RdB, RdC, RdD. -/
import Derived.Test.YthjaiigijbjloaaGreatDoorW22
namespace Go.Proofs.YthjaiigijbjloaaGreatDoor
open Go.RowKit Go.Lib
set_option maxRecDepth 100000
set_option maxHeartbeats 16000000
theorem LnE.kp{B:Nat}{w w':World}{n:Mg}{l:Ls}(h:LnE B w n l)(k:Kp 28 w w'):LnE B w' n l:=
 ⟨h.S.kp k (by decide),h.A.kp k (by decide) (by decide),h.M.kp k (by decide) (by decide),h.F.kp k (by decide) (by decide),h.C.kp k (by decide)⟩
theorem LnE.below{B:Nat}{w w':World}{n:Mg}{l:Ls}(h:LnE B w n l)(hb:Below w.heap.size w w'):LnE B w' n l:=h.kp (Kp.below hb)
theorem zN{t:TypeId}{z B n g cap:Nat}{w:World}{l:List Value}(h:w.ownsRow B t z (.slice (some ⟨g,0,none⟩) (n+1) cap) (n+1) l):n+1≤cap:=by
 rcases id h.2 with⟨h1,_⟩|⟨g',cap',cur,hv,_,_,hc',_⟩
 ·cases h1
 ·cases hv;exact hc'
theorem StG.form{lent:Bool}{t:TypeId}{z s B:Nat}{w:World}{v:Value}{xs:List Rw}{mark:List Value}(hz:z=s+1)(hok:vr s xs)(h:StG true lent t z B w v xs mark):
  ∃g cap,v=.slice (some ⟨g,0,none⟩) xs.length cap∧xs.length+1≤cap∧(∀off y,mark[off]?=some y→w.cell? ⟨g,xs.length*z+off,none⟩=some y)∧
   ∀(k:Nat) (x:Rw),xs[k]?=some x→(∀i y,x.1[i]?=some y→w.cell? ⟨g,k*z+i,none⟩=some y)∧∃u,w.cell? ⟨g,k*z+s,none⟩=some u∧Ds lent B w u x.2:=by
 obtain⟨us,hul,hds,g,cap,hv,ho⟩:=h;have hfl:=p9 hz xs us hok hul;refine⟨g,cap,hv,zN ho,fun off y hy=>(cJ ho ?_).1,fun k x hx=>?_⟩
 ·rw[List.getElem?_append_right (by omega),hfl,Nat.add_sub_cancel_left];exact hy
 ·obtain⟨u,hu⟩:∃u,us[k]?=some u:=⟨_,bp (by rw[hul];exact(List.getElem?_eq_some_iff.1 hx).1)⟩
  obtain⟨g1,g2⟩:=wH hz xs us k x u hok hul hx hu;have hlt:=(List.getElem?_eq_some_iff.1 g2).1;refine⟨fun i y hy=>(cJ ho ?_).1,u,(cJ ho ?_).1,hds k x u hx hu⟩
  ·have hi:i<s:=by have h1:=(List.getElem?_eq_some_iff.1 hy).1;have h2:=(hok x (List.mem_of_getElem? hx)).1;omega
   rw[List.getElem?_append_left (by omega),g1 i hi];exact hy
  ·rw[List.getElem?_append_left hlt];exact g2
theorem StG.rwm{lent:Bool}{t:TypeId}{z s B:Nat}{w:World}{v:Value}{xs:List Rw}{mark:List Value}(hz:z=s+1)(hok:vr s xs)(h:StG true lent t z B w v xs mark):RwM z s w v xs:=by
 obtain⟨g,cap,hv,hc,_,hr⟩:=h.form hz hok;refine⟨some ⟨g,0,none⟩,cap,hv,by omega,fun _=>⟨g,0,rfl,fun j x hx=>?_⟩⟩;obtain⟨h1,u,h2,h3⟩:=hr j x hx;exact⟨fun i y hy=>by rw[Nat.zero_add];exact h1 i y hy,u,by rw[Nat.zero_add];exact h2,h3.strs⟩
theorem StC.form{t:TypeId}{z B n:Nat}{w:World}{v:Value}{l mark:List Value}(hl:l.length=n*z)(h:StC true t z B w v n l mark):
  ∃g cap,v=.slice (some ⟨g,0,none⟩) n cap∧n+1≤cap∧(∀off y,mark[off]?=some y→w.cell? ⟨g,n*z+off,none⟩=some y)∧∀i y,l[i]?=some y→w.cell? ⟨g,i,none⟩=some y:=by
 obtain⟨g,cap,hv,ho⟩:=h;refine⟨g,cap,hv,zN ho,fun off y hy=>(cJ ho ?_).1,fun i y hy=>(cJ ho ?_).1⟩
 ·rw[List.getElem?_append_right (by omega),hl,Nat.add_sub_cancel_left];exact hy
 ·rw[List.getElem?_append_left (List.getElem?_eq_some_iff.1 hy).1];exact hy
theorem BJ{w:World}{v:Value}{l:List (List UInt8×List (List UInt8))}(h:RwM 2 1 w v (l.map atR)):eG w v l:=by
 obtain⟨a,c,e,hc,hr⟩:=h;refine⟨a,c,by simpa using e,by simpa using hc,fun h0=>?_⟩;obtain⟨g,o,ha,hcell⟩:=hr (by simpa using h0);refine⟨g,o,ha,fun j x hj=>?_⟩;obtain⟨h1,u,h2,h3⟩:=hcell j (atR x) (by simp[hj]);exact⟨h1 0 _ rfl,u,h2,h3⟩
theorem BK{w:World}{v:Value}{l:List Md}(h:RwM 3 2 w v (l.map mdR)):eY w v l:=by
 obtain⟨a,c,e,hc,hr⟩:=h;refine⟨a,c,by simpa using e,by simpa using hc,fun h0=>?_⟩;obtain⟨g,o,ha,hcell⟩:=hr (by simpa using h0);refine⟨g,o,ha,fun j x hj=>?_⟩;obtain⟨h1,u,h2,h3⟩:=hcell j (mdR x) (by simp[hj]);exact⟨h1 0 _ rfl,h1 1 _ rfl,u,h2,h3⟩
theorem BL{w:World}{v:Value}{l:List Fl}(h:RwM 7 6 w v (l.map flR)):de w v l:=by
 obtain⟨a,c,e,hc,hr⟩:=h;refine⟨a,c,by simpa using e,by simpa using hc,fun h0=>?_⟩;obtain⟨g,o,ha,hcell⟩:=hr (by simpa using h0);refine⟨g,o,ha,fun j x hj=>?_⟩;obtain⟨h1,u,h2,h3⟩:=hcell j (flR x) (by simp[hj]);exact⟨h1 0 _ rfl,h1 1 _ rfl,h1 2 _ rfl,h1 3 _ rfl,h1 4 _ rfl,h1 5 _ rfl,u,h2,h3⟩
theorem LnE.mgm{B:Nat}{w:World}{n:Mg}{l:Ls}(h:LnE B w n l):MgM w n l:=by
 refine⟨BL (h.F.rwm rfl (zg _)),h.S.strs,BK (h.M.rwm rfl (zf _)),BJ (h.A.rwm rfl (Cm _)),?_⟩;obtain⟨g,cap,hv,hc,_,hr⟩:=StC.form (wS l.ctl) h.C;refine⟨some ⟨g,0,none⟩,cap,hv,by omega,fun _=>⟨g,0,rfl,fun j x hj=>?_⟩⟩;obtain⟨g0,g1,g2,g3⟩:=yD l.ctl j x hj;rw[Nat.zero_add];exact⟨hr _ _ g0,hr _ _ g1,hr _ _ g2,hr _ _ g3⟩
theorem AH{m n:Mg}(h:n={m with filt:=n.filt,sel:=n.sel,mods:=n.mods,attrs:=n.attrs,ctl:=n.ctl}):lB n m=true:=by
 rw[h];simp[lB]
def StT(b:Nat)(n m:Mg)(gA lA gM lM gF lF gC lC:Nat)(w:World):Prop:=
 w.heap[b]?=some (.cells n.row 28 (0,0))∧w.heap[b+1]?=some (.cells m.row 28 (0,0))∧w.cell? ⟨gA,lA*2,none⟩=some (.string ⟨#[109,97,114,107]⟩)∧w.cell? ⟨gM,lM*3+1,none⟩=some (.string ⟨#[109,97,114,107]⟩)∧w.cell? ⟨gF,lF*7+2,none⟩=some (.string ⟨#[109,97,114,107]⟩)∧w.cell? ⟨gC,lC*4,none⟩=some (.string ⟨#[109,97,114,107]⟩)
theorem StT.below{b:Nat}{n m:Mg}{gA lA gM lM gF lF gC lC:Nat}{w w':World}(h:StT b n m gA lA gM lM gF lF gC lC w)(hb:Below w.heap.size w w'):StT b n m gA lA gM lM gF lF gC lC w':=by
 obtain⟨h1,h2,h3,h4,h5,h6⟩:=h;exact⟨(bkk hb h1),(bkk hb h2),(hb.cell (bj h3)).trans h3,(hb.cell (bj h4)).trans h4,(hb.cell (bj h5)).trans h5,(hb.cell (bj h6)).trans h6⟩
theorem xK{f:FuncId}{u v:Value}{b:Bool}{w:World}(h:∀W,Below w.heap.size w W→Calls Tryz.prog f #[u,v] W fun e w'=>e=.returned (.bool b)∧∃m,w'=W.drewN m):wZ f u v b w:=
 fun W hW=>(h W hW).mono (fun e w' q=>⟨q.1,by obtain⟨m,rfl⟩:=q.2;exact fU (ar _ _) m⟩)
theorem zj(B:Nat)(n m:Mg)(l:Ls)(w:World)(hn:LnE B w n l)(hm:MgM w m l)(hk:LsOk m l)(hs:n={m with filt:=n.filt,sel:=n.sel,mods:=n.mods,attrs:=n.attrs,ctl:=n.ctl}):
  Cr 16 #[.agg n.row,.agg m.row] w (.bool true):=by
 obtain⟨LA,LM,LF,LC,LS,hAV,hMV,hFV⟩:l.attrs.length≤100000000∧l.mods.length≤100000000∧l.filt.length≤100000000∧l.ctl.length≤100000000∧l.sel.length≤100000000∧(∀x∈l.attrs,x.2.length≤1000000000)∧(∀x∈l.mods,x.2.2.length≤1000000000)∧(∀x∈l.filt,x.any.length≤1000000000):=
  ⟨hk.attrs.1,hk.mods,hk.filt.1,hk.ctl,hk.sel,fun x hx=>by have:=(hk.attrs.2 x hx).2.1;omega,fun x hx=>by have:=(hk.modss x hx).2.1;omega,fun x hx=>by have:=(zi hk).1 (flR x) (List.mem_map_of_mem hx);exact this⟩
 obtain⟨gF,capF,hfF,hcF,jF,_⟩:=StG.form (z:=7) (s:=6) rfl (zg _) hn.F;obtain⟨gM,capM,hfM,hcM,jM,_⟩:=StG.form (z:=3) (s:=2) rfl (zf _) hn.M;obtain⟨gA,capA,hfA,hcA,jA,_⟩:=StG.form (z:=2) (s:=1) rfl (Cm _) hn.A;obtain⟨gC,capC,hfC,hcC,jC,_⟩:=StC.form (wS l.ctl) hn.C;have jA:=jA 0 _ rfl;have jM:=jM 1 _ rfl;have jF:=jF 2 _ rfl;have jC:=jC 0 _ rfl;rw[List.length_map] at hfF hcF jF hfM hcM jM hfA hcA jA;rw[Nat.add_zero] at jA jC;obtain⟨gS,capS,hfS,_⟩:=id hn.S;obtain⟨aV,cV,hfV,_,_⟩:=id hm.attrs;obtain⟨aS,cS,hfW,_,_⟩:=id hm.sel;have b2:Below w.heap.size w ((w.alloc (.cells n.row 28)).alloc (.cells m.row 28)):=((ar _ _).alloc (ah _) _).alloc (by simp) _;have k1:((w.alloc (.cells n.row 28)).alloc (.cells m.row 28)).heap[w.heap.size]?=some (.cells n.row 28 (0,0)):=(alloc_old _ _ _ (by simp)).trans (bi _ _ _ rfl);have k2:((w.alloc (.cells n.row 28)).alloc (.cells m.row 28)).heap[w.heap.size+1]?=some (.cells m.row 28 (0,0)):=bi _ _ _ (by simp);have hnM:=hn.mgm;have KSM:=hid (fun W (hW:Below w.heap.size w W)=>(show Calls Tryz.prog 18 #[.agg n.row,.agg m.row] W fun e w'=>e=.returned (.bool true)∧Below W.heap.size W w' from by
  have h:=yX n m true true true true true W
   (fun W2 hb=>lU _ _ l.filt W2 ((hnM.filt.below hW).below hb) ((hm.filt.below hW).below hb) (by omega) (fun x hx=>by have:=hFV x hx;omega))
   (xK fun W2 hb=>by have:=jm n.sel m.sel l.sel l.sel W2 ((hnM.sel.below hW).below hb) ((hm.sel.below hW).below hb) (by omega) (by omega);simpa using this)
   (xK fun W2 hb=>by have:=mI n.mods m.mods l.mods l.mods W2 ((hnM.mods.below hW).below hb) ((hm.mods.below hW).below hb) (by omega) (by omega) (fun x hx=>by have:=hMV x hx;omega) (fun x hx=>by have:=hMV x hx;omega);simpa using this)
   (xK fun W2 hb=>by have:=lT n.attrs m.attrs l.attrs l.attrs W2 ((hnM.attrs.below hW).below hb) ((hm.attrs.below hW).below hb) (by omega) (by omega) (fun x hx=>by have:=hAV x hx;omega) (fun x hx=>by have:=hAV x hx;omega);simpa using this)
   (fun W2 hb=>kF _ _ l.ctl W2 ((hnM.ctl.below hW).below hb) ((hm.ctl.below hW).below hb) (by omega))
  rw[AH hs] at h;exact h))
 have T2:StT w.heap.size n m gA l.attrs.length gM l.mods.length gF l.filt.length gC l.ctl.length ((w.alloc (.cells n.row 28)).alloc (.cells m.row 28)):=
  ⟨k1,k2,(b2.cell (bj jA)).trans jA,(b2.cell (bj jM)).trans jM,(b2.cell (bj jF)).trans jF,(b2.cell (bj jC)).trans jC⟩
 obtain⟨HN,HM,HV,HFA,HFM,HFF,HFC,HFS,HFV,HFW⟩:=Cz (hn.below b2) (hm.below b2) hAV hfA hfM hfF hfC hfS hfV hfW;clear hn hm hAV hMV hFV hnM jA jM jF jC hk hs k1 k2 hfA hfM hfF hfC hfS hfV hfW
 go_enter Tryz.func16,Tryz.ntmps16
 go_upto_region 1 with fail
 generalize(w.alloc (.cells n.row 28)).alloc (.cells m.row 28)=w2 at b2 T2 HN HM⊢;obtain⟨B2,KT⟩:=Cg b2 T2;clear b2
 go_wp2_with fail
 go_loopw [5] (fun i wr=>∃k q:Nat,i=.int .i64 (k:Int)∧k≤l.attrs.length∧wr=w2.drewN q) (fun i _=>l.attrs.length -(RowKit.intOf i).toNat)
 case atStart=>exact⟨0,0,rfl,by omega,rfl⟩
 case round=>
  obtain⟨k,q,rfl,hk,rfl⟩:=hrel;have c14:w2.cell? ⟨w.heap.size,14,none⟩=some (.slice (some ⟨gA,0,none⟩) l.attrs.length capA):=(ap T2.1 14).trans (congrArg some HFA.out)
  by_cases hkl:k<l.attrs.length
  ·have d14:w2.cell? ⟨w.heap.size+1,14,none⟩=some (.slice aV l.attrs.length cV):=(ap T2.2.1 14).trans (congrArg some HFV.out)
   obtain⟨x,hx⟩:∃x,l.attrs[k]?=some x:=⟨l.attrs[k],bp hkl⟩;have hxl:=HV.out x (List.mem_of_getElem? hx);have hal0:l.attrs≠[]:=by intro e;rw[e] at hkl;simp at hkl
   obtain⟨g',cap',e',_,_,hcl⟩:=StG.form (z:=2) (s:=1) rfl (Cm _) HN.out.A;rw[List.length_map] at e';have hgg:g'=gA:=by have:=HFA.out;rw[e'] at this;cases this;rfl
   subst hgg;obtain⟨_,u,p2,hu⟩:=hcl k (atR x) (by simp[hx]);obtain⟨a4,cap4,e4,_,hcell4⟩:=HM.out.attrs;obtain⟨g4,o4,ha4,hcc⟩:=hcell4 hal0;have hga:aV=some ⟨g4,o4,none⟩:=by have:=HFV.out;rw[e4,ha4] at this;cases this;rfl
   subst hga;obtain⟨_,z,r2,hz⟩:=hcc k x hx;have hu':pp B w2 u x.2:=hu;clear hcl hcell4 hcc hx hal0 e' e4 ha4 hu;have i1:(k:Int)<(l.attrs.length:Int):=by omega
   have i3:decide ((k:Int)<(l.attrs.length:Int))=true:=aL i1;have ks:=fun a=>(xt B u z x.2 x.2 (w2.drewN (q+a)) (show pp B (w2.drewN (q+a)) u x.2 from hu') (show ct (w2.drewN (q+a)) z x.2 from hz) hxl (Nat.le_trans hxl (by decide))).mono (fun e w'' h=>(show e=.returned (.bool true)∧∃n,w''=w2.drewN (q+n) from⟨by simpa using h.1,h.2.elim fun n hn=>⟨a+n,by rw[hn,World.drewN_drewN,Nat.add_assoc]⟩⟩))
   obtain⟨g5,cap5,e5,_⟩:=hu';obtain⟨s6,d6,e6,_,_⟩:=hz;subst e5 e6;clear T2
   go_wp2
   go_quiet (exact ks _)
   go_wp2
   exact⟨⟨k+1,_,by go_num,by omega,rfl⟩,by simp[RowKit.intOf];omega⟩
  ·obtain rfl:k=l.attrs.length:=by omega
   have i3:decide ((l.attrs.length:Int)<(l.attrs.length:Int))=false:=an (by omega);have b3:Below w.heap.size w (w2.drewN q):=fU B2.out q;clear T2
   go_wp2_with fail
   refine aR (S:=StT w.heap.size n m gA l.attrs.length gM l.mods.length gF l.filt.length gC l.ctl.length) (by kernel_rfl) ?_;have m0:(w2.drewN q).drew=w2.drewN (q+1):=rfl;have b4:Below w.heap.size w (w2.drewN (q+1)):=fU B2.out _;have T4:StT w.heap.size n m gA l.attrs.length gM l.mods.length gF l.filt.length gC l.ctl.length (w2.drewN (q+1)):=KT.out;have S4:pp B (w2.drewN (q+1)) n.sel l.sel:=HN.out.S;have M4:ct (w2.drewN (q+1)) m.sel l.sel:=HM.out.sel;have ksm:=KSM.out _ b4
   change wpAnyH _ _ _ _ _ _ _ _ (w2.drewN (q+1))
   clear c14 m0 b3 HN HM HV B2 KT i3 hk hkl KSM;generalize w2.drewN (q+1)=w3 at ksm b4 T4 S4 M4⊢;refine tn 0 (.agg n.row) rfl (fun w' hS=>by exact cU 28 (.tmp 2) rfl w.heap.size 28 _ (0,0) (by rfl) hS.1 _ Tryz.underlying28 rfl (by rfl)) T4 ?_;refine tn 1 (.agg m.row) rfl (fun w' hS=>by exact cU 28 (.tmp 3) rfl (w.heap.size+1) 28 _ (0,0) (by rfl) hS.2.1 _ Tryz.underlying28 rfl (by rfl)) T4 ?_;refine ao 2 rfl (fun K hK=>?_);go_simp;go_wp2_with fail
   refine ag ksm ?_;rintro e w5 ⟨rfl,hb5⟩;have T5:=T4.below hb5;have kst:=xt B _ m.sel l.sel l.sel w5 (S4.kp (Kp.below (t:=28) hb5) (by decide)) (M4.below hb5) (by omega) (by omega);have hdt:decide (l.sel=l.sel)=true:=aL rfl;rw[hdt,HFS.out,HFW.out] at kst;have b5:=btt b4 hb5;clear T4 S4 M4 b4 hb5 ksm hdt;refine hK _ _ T5 ?_;clear hK K
   refine ao 3 rfl (kks T5 ?_);refine tp 4 ⟨w.heap.size,12,none⟩ rfl T5 ?_;refine tp 6 ⟨w.heap.size+1,12,none⟩ rfl T5 ?_;refine tn 5 (.slice (some ⟨gS,0,none⟩) l.sel.length capS) rfl (fun w' hS=>by have q:=(ap hS.1 12).trans (congrArg some HFS.out);go_simp) T5 ?_;refine tn 7 (.slice aS l.sel.length cS) rfl (fun w' hS=>by have q:=(ap hS.2.1 12).trans (congrArg some HFW.out);go_simp) T5 ?_;refine ao 8 rfl (fun K hK=>?_);go_simp;go_wp2_with fail
   refine ag kst ?_;rintro e w6 ⟨rfl,m6,rfl⟩;have T6:StT w.heap.size n m gA l.attrs.length gM l.mods.length gF l.filt.length gC l.ctl.length (w5.drewN m6):=T5;have b6:Below w.heap.size w (w5.drewN m6):=fU b5 _;generalize w5.drewN m6=w6 at T6 b6⊢;clear T5 b5 kst;refine hK _ _ T6 ?_;clear hK K
   refine ao 9 rfl (kks T6 ?_);refine ao 10 rfl (kks T6 ?_);refine tp 11 ⟨w.heap.size,14,none⟩ rfl T6 ?_;refine tp 13 ⟨w.heap.size,14,none⟩ rfl T6 ?_;refine tp 18 ⟨w.heap.size,14,none⟩ rfl T6 ?_;refine tn 12 (.slice (some ⟨gA,0,none⟩) l.attrs.length capA) rfl (fun w' hS=>by have q:=(ap hS.1 14).trans (congrArg some HFA.out);go_simp) T6 ?_;refine tn 14 (.slice (some ⟨gA,0,none⟩) l.attrs.length capA) rfl (fun w' hS=>by have q:=(ap hS.1 14).trans (congrArg some HFA.out);go_simp) T6 ?_;refine tn 19 (.slice (some ⟨gA,0,none⟩) l.attrs.length capA) rfl (fun w' hS=>by have q:=(ap hS.1 14).trans (congrArg some HFA.out);go_simp) T6 ?_;refine tn 15 (.int .i64 (l.attrs.length)) rfl (fun w' hS=>by go_simp) T6 ?_;refine tn 20 (.int .i64 (l.attrs.length)) rfl (fun w' hS=>by go_simp) T6 ?_;refine ao 16 rfl (kks T6 ?_);have hcl:l.attrs.length+1≤capA:=by omega
   have hw1:IntKind.i64.wrap ((l.attrs.length:Int)+1)=(l.attrs.length:Int)+1:=by rw[aK];omega
   have hw2:(0:Int)≤(l.attrs.length:Int)+1:=by omega
   have hw3:(l.attrs.length:Int)+1≤(capA:Int):=by omega
   have hw4:((l.attrs.length:Int)+1).toNat=l.attrs.length+1:=by omega
   have hw5:(l.attrs.length:Int)<(l.attrs.length:Int)+1:=by omega
   refine ao 17 rfl (kks T6 ?_);refine ao 21 rfl (kks T6 ?_);refine ao 22 rfl (kks T6 ?_);have sm:=T6.2.2.1;refine ao 23 rfl (kks T6 ?_);clear sm hcl hw1 hw2 hw3 hw4 hw5;refine ao 24 rfl (kks T6 ?_);refine ao 25 rfl (kks T6 ?_);refine ao 26 rfl (kks T6 ?_);refine tp 27 ⟨w.heap.size,13,none⟩ rfl T6 ?_;refine tp 29 ⟨w.heap.size,13,none⟩ rfl T6 ?_;refine tp 34 ⟨w.heap.size,13,none⟩ rfl T6 ?_;refine tn 28 (.slice (some ⟨gM,0,none⟩) l.mods.length capM) rfl (fun w' hS=>by have q:=(ap hS.1 13).trans (congrArg some HFM.out);go_simp) T6 ?_;refine tn 30 (.slice (some ⟨gM,0,none⟩) l.mods.length capM) rfl (fun w' hS=>by have q:=(ap hS.1 13).trans (congrArg some HFM.out);go_simp) T6 ?_;refine tn 35 (.slice (some ⟨gM,0,none⟩) l.mods.length capM) rfl (fun w' hS=>by have q:=(ap hS.1 13).trans (congrArg some HFM.out);go_simp) T6 ?_;refine tn 31 (.int .i64 (l.mods.length)) rfl (fun w' hS=>by go_simp) T6 ?_;refine tn 36 (.int .i64 (l.mods.length)) rfl (fun w' hS=>by go_simp) T6 ?_;refine ao 32 rfl (kks T6 ?_);have hcl:l.mods.length+1≤capM:=by omega
   have hw1:IntKind.i64.wrap ((l.mods.length:Int)+1)=(l.mods.length:Int)+1:=by rw[aK];omega
   have hw2:(0:Int)≤(l.mods.length:Int)+1:=by omega
   have hw3:(l.mods.length:Int)+1≤(capM:Int):=by omega
   have hw4:((l.mods.length:Int)+1).toNat=l.mods.length+1:=by omega
   have hw5:(l.mods.length:Int)<(l.mods.length:Int)+1:=by omega
   refine ao 33 rfl (kks T6 ?_);refine ao 37 rfl (kks T6 ?_);refine ao 38 rfl (kks T6 ?_);have sm:=T6.2.2.2.1;refine ao 39 rfl (kks T6 ?_);clear sm hcl hw1 hw2 hw3 hw4 hw5;refine ao 40 rfl (kks T6 ?_);refine ao 41 rfl (kks T6 ?_);refine ao 42 rfl (kks T6 ?_);refine tp 43 ⟨w.heap.size,11,none⟩ rfl T6 ?_;refine tp 45 ⟨w.heap.size,11,none⟩ rfl T6 ?_;refine tp 50 ⟨w.heap.size,11,none⟩ rfl T6 ?_;refine tn 44 (.slice (some ⟨gF,0,none⟩) l.filt.length capF) rfl (fun w' hS=>by have q:=(ap hS.1 11).trans (congrArg some HFF.out);go_simp) T6 ?_;refine tn 46 (.slice (some ⟨gF,0,none⟩) l.filt.length capF) rfl (fun w' hS=>by have q:=(ap hS.1 11).trans (congrArg some HFF.out);go_simp) T6 ?_;refine tn 51 (.slice (some ⟨gF,0,none⟩) l.filt.length capF) rfl (fun w' hS=>by have q:=(ap hS.1 11).trans (congrArg some HFF.out);go_simp) T6 ?_;refine tn 47 (.int .i64 (l.filt.length)) rfl (fun w' hS=>by go_simp) T6 ?_;refine tn 52 (.int .i64 (l.filt.length)) rfl (fun w' hS=>by go_simp) T6 ?_;refine ao 48 rfl (kks T6 ?_);have hcl:l.filt.length+1≤capF:=by omega
   have hw1:IntKind.i64.wrap ((l.filt.length:Int)+1)=(l.filt.length:Int)+1:=by rw[aK];omega
   have hw2:(0:Int)≤(l.filt.length:Int)+1:=by omega
   have hw3:(l.filt.length:Int)+1≤(capF:Int):=by omega
   have hw4:((l.filt.length:Int)+1).toNat=l.filt.length+1:=by omega
   have hw5:(l.filt.length:Int)<(l.filt.length:Int)+1:=by omega
   refine ao 49 rfl (kks T6 ?_);refine ao 53 rfl (kks T6 ?_);refine ao 54 rfl (kks T6 ?_);have sm:=T6.2.2.2.2.1;refine ao 55 rfl (kks T6 ?_);clear sm hcl hw1 hw2 hw3 hw4 hw5;refine ao 56 rfl (kks T6 ?_);refine ao 57 rfl (kks T6 ?_);refine ao 58 rfl (kks T6 ?_);refine tp 59 ⟨w.heap.size,27,none⟩ rfl T6 ?_;refine tp 61 ⟨w.heap.size,27,none⟩ rfl T6 ?_;refine tp 66 ⟨w.heap.size,27,none⟩ rfl T6 ?_;refine tn 60 (.slice (some ⟨gC,0,none⟩) l.ctl.length capC) rfl (fun w' hS=>by have q:=(ap hS.1 27).trans (congrArg some HFC.out);go_simp) T6 ?_;refine tn 62 (.slice (some ⟨gC,0,none⟩) l.ctl.length capC) rfl (fun w' hS=>by have q:=(ap hS.1 27).trans (congrArg some HFC.out);go_simp) T6 ?_;refine tn 67 (.slice (some ⟨gC,0,none⟩) l.ctl.length capC) rfl (fun w' hS=>by have q:=(ap hS.1 27).trans (congrArg some HFC.out);go_simp) T6 ?_;refine tn 63 (.int .i64 (l.ctl.length)) rfl (fun w' hS=>by go_simp) T6 ?_;refine tn 68 (.int .i64 (l.ctl.length)) rfl (fun w' hS=>by go_simp) T6 ?_;refine ao 64 rfl (kks T6 ?_);have hcl:l.ctl.length+1≤capC:=by omega
   have hw1:IntKind.i64.wrap ((l.ctl.length:Int)+1)=(l.ctl.length:Int)+1:=by rw[aK];omega
   have hw2:(0:Int)≤(l.ctl.length:Int)+1:=by omega
   have hw3:(l.ctl.length:Int)+1≤(capC:Int):=by omega
   have hw4:((l.ctl.length:Int)+1).toNat=l.ctl.length+1:=by omega
   have hw5:(l.ctl.length:Int)<(l.ctl.length:Int)+1:=by omega
   refine ao 65 rfl (kks T6 ?_);refine ao 69 rfl (kks T6 ?_);refine ao 70 rfl (kks T6 ?_);have sm:=T6.2.2.2.2.2;refine ao 71 rfl (kks T6 ?_);clear sm hcl hw1 hw2 hw3 hw4 hw5;refine ao 72 rfl (kks T6 ?_);refine ao 73 rfl (kks T6 ?_);refine ao 74 rfl (kks T6 ?_);refine bE (by kernel_rfl) ?_ _;simp only[Exit.then];refine‹∀(a:Act) (w:World),Code.wp _ _ _ a w→_› _ _ ?_
   go_wp2_with fail
   go_ret
   exact⟨rfl,b6⟩
def ej(l:Ls):Bool:=decide (l.filt.length≤150)&&decide (l.attrs.length≤200)&&decide (l.mods.length≤200)&&decide (l.ctl.length≤200)&&decide (l.sel.length≤500)
theorem yr(m:Mg)(l:Ls)(w:World)(hm:MgM w m l):
  Cr 9 #[.agg m.row] w (.bool (ej l)):=by
 obtain⟨a1,c1,e1⟩:=hm.filt.shape;obtain⟨a2,c2,e2,-,-⟩:=hm.sel;obtain⟨a3,c3,e3,-,-⟩:=hm.mods;obtain⟨a4,c4,e4,-,-⟩:=hm.attrs;obtain⟨a5,c5,e5,-,-⟩:=hm.ctl;generalize hR:ej l=R;unfold ej at hR;obtain⟨nF,hF⟩:=nmm l.filt.length;obtain⟨nS,hS⟩:=nmm l.sel.length;obtain⟨nM,hM⟩:=nmm l.mods.length;obtain⟨nA,hA⟩:=nmm l.attrs.length;obtain⟨nC,hC⟩:=nmm l.ctl.length;rw[hF] at e1 hR;rw[hS] at e2 hR;rw[hM] at e3 hR;rw[hA] at e4 hR;rw[hC] at e5 hR;clear hF hS hM hA hC;obtain⟨B,hB⟩:=nmm m.row;have g11:B[11]?=some (.slice a1 nF c1):=by rw[←hB];simp[Mg.row,e1]
 have g12:B[12]?=some (.slice a2 nS c2):=by rw[←hB];simp[Mg.row,e2]
 have g13:B[13]?=some (.slice a3 nM c3):=by rw[←hB];simp[Mg.row,e3]
 have g14:B[14]?=some (.slice a4 nA c4):=by rw[←hB];simp[Mg.row,e4]
 have g27:B[27]?=some (.slice a5 nC c5):=by rw[←hB];simp[Mg.row,e5]
 rw[hB];clear hB e1 e2 e3 e4 e5 hm;have b1:=alb w B 28;have r1:=alz w B 28
 go_enter Tryz.func9,Tryz.ntmps9
 go_upto_region 1 with fail
 generalize w.alloc (.cells B 28)=w1 at b1 r1⊢;have q11:=(ap r1 11).trans g11;have q12:=(ap r1 12).trans g12;have q13:=(ap r1 13).trans g13;have q14:=(ap r1 14).trans g14;have q27:=(ap r1 27).trans g27;clear r1 g11 g12 g13 g14 g27
 by_cases h0:nF≤150
 ·have d0:decide ((nF:Int)≤150)=true:=aL (by omega)
  have i0:(nF:Int)≤150:=by omega
  by_cases h1:nA≤200
  ·have d1:decide ((nA:Int)≤200)=true:=aL (by omega)
   have i1:(nA:Int)≤200:=by omega
   by_cases h2:nM≤200
   ·have d2:decide ((nM:Int)≤200)=true:=aL (by omega)
    have i2:(nM:Int)≤200:=by omega
    by_cases h3:nC≤200
    ·have d3:decide ((nC:Int)≤200)=true:=aL (by omega)
     have i3:(nC:Int)≤200:=by omega
     by_cases h4:nS≤500
     ·have d4:decide ((nS:Int)≤500)=true:=aL (by omega)
      have i4:(nS:Int)≤500:=by omega
      obtain rfl:R=true:=by rw[←hR];simp[h0,h1,h2,h3,h4]
      clear hR
      go_wp2_with fail
      go_ret
      exact⟨rfl,b1⟩
     ·have d4:decide ((nS:Int)≤500)=false:=an (by omega)
      have i4:¬((nS:Int)≤500):=by omega
      have j4:500<(nS:Int):=by omega
      obtain rfl:R=false:=by rw[←hR];simp[h0,h1,h2,h3,h4]
      clear hR
      go_wp2_with fail
      go_ret
      exact⟨rfl,b1⟩
    ·have d3:decide ((nC:Int)≤200)=false:=an (by omega)
     have i3:¬((nC:Int)≤200):=by omega
     have j3:200<(nC:Int):=by omega
     obtain rfl:R=false:=by rw[←hR];simp[h0,h1,h2,h3]
     clear hR
     go_wp2_with fail
     go_ret
     exact⟨rfl,b1⟩
   ·have d2:decide ((nM:Int)≤200)=false:=an (by omega)
    have i2:¬((nM:Int)≤200):=by omega
    have j2:200<(nM:Int):=by omega
    obtain rfl:R=false:=by rw[←hR];simp[h0,h1,h2]
    clear hR
    go_wp2_with fail
    go_ret
    exact⟨rfl,b1⟩
  ·have d1:decide ((nA:Int)≤200)=false:=an (by omega)
   have i1:¬((nA:Int)≤200):=by omega
   have j1:200<(nA:Int):=by omega
   obtain rfl:R=false:=by rw[←hR];simp[h0,h1]
   clear hR
   go_wp2_with fail
   go_ret
   exact⟨rfl,b1⟩
 ·have d0:decide ((nF:Int)≤150)=false:=an (by omega)
  have i0:¬((nF:Int)≤150):=by omega
  have j0:150<(nF:Int):=by omega
  obtain rfl:R=false:=by rw[←hR];simp[h0]
  clear hR
  go_wp2_with fail
  go_ret
  exact⟨rfl,b1⟩
def dW(l:List UInt8):Nat:=l.foldl (fun v b=>v*256+b.toNat) 0
def bt:List UInt8→Nat×Nat×Int
 |[]=>(0,0,20)
 |b0::r=>if 30<b0.toNat% 32 then(0,0,21) else match r with
  |[]=>(0,0,20)
  |b1::r2=>if b1.toNat<128 then(2,b1.toNat,0)
   else if b1.toNat -128<1∨4<b1.toNat -128 then(0,0,22)
   else if r2.length<b1.toNat -128 then(0,0,20)
   else if 65536<2+(b1.toNat -128)+dW (r2.take (b1.toNat -128)) then(0,0,2)
   else(2+(b1.toNat -128),dW (r2.take (b1.toNat -128)),0)
def ss(g:List UInt8→Except Int (El×List UInt8)):Nat→List UInt8→Except Int (List El)
 |_,[]=>.ok []
 |0,_::_=>.ok []
 |n+1,b::t=>match g (b::t) with
  | .error e=>.error e
  | .ok (k,c)=>match ss g n c with
   | .error e=>.error e
   | .ok ks=>.ok (k::ks)
def bP:Nat→List UInt8→Except Int (El×List UInt8)
 |0,b=>if(bt b).2.2=0 then .error 23 else .error (bt b).2.2
 |k+1,b=>if(bt b).2.2=0 then
   if b.length<(bt b).1+(bt b).2.1 then .error 20
   else if(b.headD 0).toNat/32% 2=0 then .ok (.mk (((b.headD 0).toNat/64:Nat):Int) (((b.headD 0).toNat% 32:Nat):Int) false ((b.drop (bt b).1).take (bt b).2.1) [],b.drop ((bt b).1+(bt b).2.1))
   else match ss (bP k) ((b.drop (bt b).1).take (bt b).2.1).length ((b.drop (bt b).1).take (bt b).2.1) with
    | .error e=>.error e
    | .ok ks=>.ok (.mk (((b.headD 0).toNat/64:Nat):Int) (((b.headD 0).toNat% 32:Nat):Int) true [] ks,b.drop ((bt b).1+(bt b).2.1))
  else .error (bt b).2.2
theorem mh(b:List UInt8)(h:(bt b).2.2=0):2≤(bt b).1:=by
 unfold bt at*
 split at h
 ·simp at h
 ·rename_i b0 r
  split at h
  ·simp at h
  ·rename_i h1
   simp only[h1,if_false];cases r with
   |nil=>simp at h
   |cons b1 r2=>
    simp only at h⊢
    split
    ·simp
    ·rename_i h2
     simp only[h2,if_false] at h
     split
     ·rename_i h3;rw[if_pos h3] at h;simp at h
     ·rename_i h3
      simp only[h3,if_false] at h
      split
      ·rename_i h4;rw[if_pos h4] at h;simp at h
      ·rename_i h4
       simp only[h4,if_false] at h
       split
       ·rename_i h5;rw[if_pos h5] at h;simp at h
       ·simp
theorem jL(b:List UInt8):(bt b).1+(bt b).2.1≤65536:=by
 unfold bt
 split
 ·simp
 ·split
  ·simp
  ·split
   ·simp
   ·rename_i b1 r2
    have:=UInt8.toNat_lt b1
    split
    ·simp only;omega
    ·split
     ·simp
     ·split
      ·simp
      ·split
       ·simp
       ·simp only;omega
theorem pW(b:List UInt8):(bt b).1≤6:=by
 unfold bt
 split
 ·simp
 ·split
  ·simp
  ·split
   ·simp
   ·split
    ·simp
    ·split
     ·simp
     ·rename_i h3
      split
      ·simp
      ·split
       ·simp
       ·simp only[not_or] at h3⊢;omega
theorem mi:∀(k:Nat) (b:List UInt8) (e:El) (r:List UInt8),bP k b=.ok (e,r)→r.length<b.length
 |0,b,e,r,h=>by
  unfold bP at h
  split at h<;>cases h
 |k+1,b,e,r,h=>by
  unfold bP at h
  by_cases h0:(bt b).2.2=0
  ·have h2:=mh b h0
   rw[if_pos h0] at h
   by_cases h1:b.length<(bt b).1+(bt b).2.1
   ·rw[if_pos h1] at h;cases h
   ·rw[if_neg h1] at h
    have:r=b.drop ((bt b).1+(bt b).2.1):=by
     split at h
     ·cases h;rfl
     ·split at h<;>cases h;rfl
    rw[this,List.length_drop]
    omega
  ·rw[if_neg h0] at h;cases h
theorem iD{g:List UInt8→Except Int (El×List UInt8)}(hg:∀b e r,g b=.ok (e,r)→r.length<b.length):∀(n:Nat) (c:List UInt8),c.length≤n→ss g n c=ss g c.length c
 |0,c,h=>by
  have:c=[]:=List.length_eq_zero_iff.1 (by omega);subst this;rfl
 |n+1,[],_=>by simp[ss]
 |n+1,b::t,h=>by
  simp only[aG] at h⊢;unfold ss;cases hr:g (b::t) with
  |error e=>rfl
  |ok p=>
   obtain⟨k,c⟩:=p;have h2:=hg _ _ _ hr;simp only[aG] at h2;simp only;rw[iD hg n c (by omega),iD hg t.length c (by omega)]
theorem oL{g:List UInt8→Except Int (El×List UInt8)}(hg:∀b e r,g b=.ok (e,r)→r.length<b.length)(b:UInt8)(t:List UInt8):
  ss g (b::t).length (b::t)=(match g (b::t) with| .error e=>.error e| .ok (k,c)=>match ss g c.length c with| .error e=>.error e| .ok ks=>.ok (k::ks)):=by
 simp only[aG,ss];cases hr:g (b::t) with
 |error e=>rfl
 |ok p=>
  obtain⟨k,c⟩:=p;have h2:=hg _ _ _ hr;simp only[aG] at h2;simp only;rw[iD hg t.length c (by omega)]
theorem vb(N b:Nat)(h2:N% 256=0)(hb:b<256):(N|||b)=N+b:=by
 have h:=Nat.shiftLeft_add_eq_or_of_lt (i:=8) (b:=b) hb (N/256);have h5:N/256*2^8=N:=Nat.div_mul_cancel (Nat.dvd_of_mod_eq_zero h2);rw[Nat.shiftLeft_eq,h5] at h;exact h.symm
theorem sw(x:Int)(b:Nat)(hx:x% 256=0)(hb:b<256):bits BinOp.or IntKind.i64 x (b:Int)=IntKind.i64.wrap (x+b):=by
 obtain⟨N,hN⟩:=nmm ((BitVec.ofInt 64 x).toNat);have h1:(N:Int)=x% 18446744073709551616:=by rw[←hN];simp;omega
 have h2:N% 256=0:=by omega
 have h3:=vb N b h2 hb;have h4:(BitVec.ofInt 64 (b:Int)).toNat=b:=by simp;omega
 show IntKind.i64.wrap (((BitVec.ofInt 64 x|||BitVec.ofInt 64 (b:Int)).toNat:Nat):Int)=_;rw[BitVec.toNat_or,hN,h4,h3];rw[aK,aK]
 omega
theorem dP(l:List UInt8)(k:Nat)(c:UInt8)(h:l[k]?=some c)(hk:k<(⟨l.toArray⟩:ByteArray).size):(⟨l.toArray⟩:ByteArray)[k]'hk=c:=by
 obtain⟨h1,h2⟩:=List.getElem?_eq_some_iff.1 h;show l.toArray[k]=c
 simpa using h2
theorem yK(l:List UInt8)(c:UInt8):dW (l++[c])=dW l*256+c.toNat:=by simp[dW]
theorem jx:∀(n:Nat) (l:List UInt8),l.length=n→dW l<256^n
 |0,l,h=>by
  have:l=[]:=List.length_eq_zero_iff.1 h;subst this;simp[dW]
 |n+1,l,h=>by
  rcases List.eq_nil_or_concat l with h0|⟨r,c,h0⟩
  ·subst h0;simp at h
  ·rw[List.concat_eq_append] at h0
   subst h0;have h1:=jx n r (by simpa using h);have h2:=UInt8.toNat_lt c;rw[yK,Nat.pow_succ]
   omega
def tJ(w:World)(l:List UInt8)(v i:Value)(wr:World):Prop:=∃k:Nat,i=.int .i64 (k:Int)∧k≤l.length∧v=.int .i64 ((dW (l.take k):Nat):Int)∧wr=w
theorem zO(l:List UInt8)(h1:1≤l.length)(h7:l.length≤6)(w:World):
  Calls Tryz.prog 106 #[.string ⟨l.toArray⟩] w fun e w'=>e=.returned (.tuple #[.int .i64 ((dW l:Nat):Int),I0])∧w'=w:=by
 have f1:decide ((l.length:Int)<1)=false:=an (by omega);have f2:decide ((7:Int)<(l.length:Int))=false:=an (by omega);have f3:decide ((l.length:Int)>7)=false:=an (by omega)
 go_enter Tryz.func106,Tryz.ntmps106
 go_wp2_with fail
 go_loopw [4,5,16] (fun v _ i wr=>tJ w l v i wr) (fun _ _ i _=>l.length -(RowKit.intOf i).toNat)
 case atStart=>exact⟨0,rfl,Nat.zero_le _,rfl,rfl⟩
 case round=>
  obtain⟨k,rfl,hk,rfl,hw⟩:=hrel;rw[hw];clear hw
  by_cases hkl:k<l.length
  ·obtain⟨c,hc⟩:∃c,l[k]?=some c:=⟨_,by simp[hkl];rfl⟩
   have e0:=dP l k c hc (by rw[Lib.size_mk];omega);have i1:decide ((k:Int)<(l.length:Int))=true:=aL (by omega);have i2:(k:Int)<(l.length:Int):=by omega
   have hts:dW (l.take (k+1))=dW (l.take k)*256+c.toNat:=by rw[List.take_add_one,hc];exact yK _ _
   have hlt:=jx k (l.take k) (by simp;omega);have hlt2:dW (l.take k)<256^5:=Nat.lt_of_lt_of_le hlt (Nat.pow_le_pow_right (by omega) (by omega));obtain⟨V,hV⟩:=nmm (dW (l.take k));rw[hV] at hts hlt2⊢;have hc8:=UInt8.toNat_lt c;have hw1:IntKind.i64.wrap ((V:Int)*256)=(V:Int)*256:=by rw[aK];omega
   have hor:bits BinOp.or IntKind.i64 ((V:Int)*256) (c.toNat:Int)=((V*256+c.toNat:Nat):Int):=by
    rw[sw _ _ (by omega) hc8,aK];omega
   have HTS:=hid hts;clear hts hc hlt hV
   go_wp2_with fail
   exact⟨⟨k+1,by go_num,by omega,by rw[HTS.out];exact congrArg _ (by omega),rfl⟩,by simp[RowKit.intOf];omega⟩
  ·obtain rfl:k=l.length:=by omega
   rw[List.take_of_length_le (ah _)]
   go_wp2_with fail
   go_ret2
   exact⟨rfl,rfl⟩
def BZ(w:World)(b:List UInt8)(e:Ending)(w':World):Prop:=
 e=.returned (.tuple #[.int .i64 ((bt b).1:Int),.int .i64 ((bt b).2.1:Int),.int .i64 (bt b).2.2])∧∃m,w'=w.drewN m
theorem BZ.of{w:World}{b:List UInt8}{n m:Nat}{c:Int}(h:bt b=(n,m,c))(k:Nat):BZ w b (.returned (.tuple #[.int .i64 (n:Int),.int .i64 (m:Int),.int .i64 c])) (w.drewN k):=by
 unfold BZ;rw[h];exact⟨rfl,k,rfl⟩
theorem rE(w:World):Calls Tryz.prog 54 #[.string ⟨([]:List UInt8).toArray⟩] w (BZ w ([])):=by
 have HEQ:=hid (show bt []=(0,0,20) from rfl)
 go_enter Tryz.func54,Tryz.ntmps54
 go_wp2_with fail
 refine aH (v:=.tuple #[.int .i64 (((0:Nat):Int)),.int .i64 (((0:Nat):Int)),.int .i64 20]) ?_ rfl (BZ.of HEQ.out 0)
 simp[results,Tryz.f54]
theorem rF(b0:UInt8)(r:List UInt8)(hl:r.length≤1000000000)(h0:30<b0.toNat% 32)(w:World):Calls Tryz.prog 54 #[.string ⟨(b0::r:List UInt8).toArray⟩] w (BZ w (b0::r)):=by
 have HEQ:=hid (show bt (b0::r)=(0,0,21) by simp[bt,h0]);have e0:=dP (b0::r) 0 b0 rfl (by rw[Lib.size_mk];simp);have ha:=wO b0;obtain⟨T,hT⟩:=nmm (b0.toNat% 32);rw[hT] at ha h0;have g1:decide ((30:Int)<(T:Int))=true:=aL (by omega);have g2:decide ((T:Int)>30)=true:=aL (by omega);have gp:(0:Int)<(r.length:Int)+1:=by omega
 clear hT
 go_enter Tryz.func54,Tryz.ntmps54
 go_wp2_with fail
 refine aH (v:=.tuple #[.int .i64 (((0:Nat):Int)),.int .i64 (((0:Nat):Int)),.int .i64 21]) ?_ rfl (BZ.of HEQ.out 0)
 simp[results,Tryz.f54]
theorem rG(b0:UInt8)(h0:b0.toNat% 32≤30)(w:World):Calls Tryz.prog 54 #[.string ⟨([b0]:List UInt8).toArray⟩] w (BZ w ([b0])):=by
 have HEQ:=hid (show bt [b0]=(0,0,20) by simp[bt,show ¬30<b0.toNat% 32 by omega]);have e0:=dP [b0] 0 b0 rfl (by rw[Lib.size_mk];simp);have ha:=wO b0;obtain⟨T,hT⟩:=nmm (b0.toNat% 32);rw[hT] at ha h0;have g1:decide ((30:Int)<(T:Int))=false:=an (by omega);have g2:decide ((T:Int)>30)=false:=an (by omega);clear hT
 go_enter Tryz.func54,Tryz.ntmps54
 go_wp2_with fail
 refine aH (v:=.tuple #[.int .i64 (((0:Nat):Int)),.int .i64 (((0:Nat):Int)),.int .i64 20]) ?_ rfl (BZ.of HEQ.out 0)
 simp[results,Tryz.f54]
theorem qg(b0 b1:UInt8)(r:List UInt8)(hl:r.length≤1000000000)(h0:b0.toNat% 32≤30)(_:128≤b1.toNat)(hn:b1.toNat=128)(w:World):Calls Tryz.prog 54 #[.string ⟨(b0::b1::r:List UInt8).toArray⟩] w (BZ w (b0::b1::r)):=by
 have HEQ0:bt (b0::b1::r)=(0,0,22):=by simp[bt,show ¬30<b0.toNat% 32 by omega, hn]
 have e0:=dP (b0::b1::r) 0 b0 rfl (by rw[Lib.size_mk];simp);have e1:=dP (b0::b1::r) 1 b1 rfl (by rw[Lib.size_mk];simp);have ha:=wO b0;obtain⟨T,hT⟩:=nmm (b0.toNat% 32);rw[hT] at ha h0;have g1:decide ((30:Int)<(T:Int))=false:=an (by omega);have g2:decide ((T:Int)>30)=false:=an (by omega);have g3:((r.length:Int)+1+1==1)=false:=by simp;omega
 have gp0:(0:Int)<(r.length:Int)+1+1:=by omega
 have gp1:(1:Int)<(r.length:Int)+1+1:=by omega
 have g4:decide ((b1.toNat:Int)<128)=false:=an (by omega);obtain⟨N,hN⟩:=nmm (b1.toNat -128);have hb1:(b1.toNat:Int)=(N:Int)+128:=by omega
 have hbl:=UInt8.toNat_lt b1;have hw0:IntKind.i64.wrap (b1.toNat:Int)=(b1.toNat:Int):=by rw[aK];omega
 have hw1:IntKind.i64.wrap ((b1.toNat:Int) -128)=(N:Int):=by rw[aK];omega
 have hw2:(b1.toNat:Int) -128=(N:Int):=by omega
 have HEQ:=hid HEQ0;have hN0:N=0:=by omega
 subst hN0;clear HEQ0 hT hN
 go_enter Tryz.func54,Tryz.ntmps54
 go_wp2_with fail
 refine aH (v:=.tuple #[.int .i64 (((0:Nat):Int)),.int .i64 (((0:Nat):Int)),.int .i64 22]) ?_ rfl (BZ.of HEQ.out 0)
 simp[results,Tryz.f54]
theorem qh(b0 b1:UInt8)(r:List UInt8)(hl:r.length≤1000000000)(h0:b0.toNat% 32≤30)(_:128≤b1.toNat)(hn:132<b1.toNat)(w:World):Calls Tryz.prog 54 #[.string ⟨(b0::b1::r:List UInt8).toArray⟩] w (BZ w (b0::b1::r)):=by
 have HEQ0:bt (b0::b1::r)=(0,0,22):=by simp[bt,show ¬30<b0.toNat% 32 by omega,show ¬b1.toNat<128 by omega,show 4<b1.toNat -128 by omega]
 have e0:=dP (b0::b1::r) 0 b0 rfl (by rw[Lib.size_mk];simp);have e1:=dP (b0::b1::r) 1 b1 rfl (by rw[Lib.size_mk];simp);have ha:=wO b0;obtain⟨T,hT⟩:=nmm (b0.toNat% 32);rw[hT] at ha h0;have g1:decide ((30:Int)<(T:Int))=false:=an (by omega);have g2:decide ((T:Int)>30)=false:=an (by omega);have g3:((r.length:Int)+1+1==1)=false:=by simp;omega
 have gp0:(0:Int)<(r.length:Int)+1+1:=by omega
 have gp1:(1:Int)<(r.length:Int)+1+1:=by omega
 have g4:decide ((b1.toNat:Int)<128)=false:=an (by omega);obtain⟨N,hN⟩:=nmm (b1.toNat -128);have hb1:(b1.toNat:Int)=(N:Int)+128:=by omega
 have hbl:=UInt8.toNat_lt b1;have hw0:IntKind.i64.wrap (b1.toNat:Int)=(b1.toNat:Int):=by rw[aK];omega
 have hw1:IntKind.i64.wrap ((b1.toNat:Int) -128)=(N:Int):=by rw[aK];omega
 have hw2:(b1.toNat:Int) -128=(N:Int):=by omega
 have HEQ:=hid HEQ0;have k1:decide ((N:Int)<1)=false:=an (by omega);have k2:decide ((N:Int)>4)=true:=aL (by omega);have k3:decide ((4:Int)<(N:Int))=true:=aL (by omega);clear HEQ0 hT hN
 go_enter Tryz.func54,Tryz.ntmps54
 go_wp2_with fail
 refine aH (v:=.tuple #[.int .i64 (((0:Nat):Int)),.int .i64 (((0:Nat):Int)),.int .i64 22]) ?_ rfl (BZ.of HEQ.out 0)
 simp[results,Tryz.f54]
theorem nt(b0 b1:UInt8)(r:List UInt8)(hl:r.length≤1000000000)(h0:b0.toNat% 32≤30)(_:128≤b1.toNat)(hn:128<b1.toNat)(hn4:b1.toNat≤132)(hs:r.length<b1.toNat -128)(w:World):Calls Tryz.prog 54 #[.string ⟨(b0::b1::r:List UInt8).toArray⟩] w (BZ w (b0::b1::r)):=by
 have HEQ0:bt (b0::b1::r)=(0,0,20):=by simp[bt,show ¬30<b0.toNat% 32 by omega,show ¬b1.toNat<128 by omega,show ¬(b1.toNat -128=0∨4<b1.toNat -128) by omega,hs]
 have e0:=dP (b0::b1::r) 0 b0 rfl (by rw[Lib.size_mk];simp);have e1:=dP (b0::b1::r) 1 b1 rfl (by rw[Lib.size_mk];simp);have ha:=wO b0;obtain⟨T,hT⟩:=nmm (b0.toNat% 32);rw[hT] at ha h0;have g1:decide ((30:Int)<(T:Int))=false:=an (by omega);have g2:decide ((T:Int)>30)=false:=an (by omega);have g3:((r.length:Int)+1+1==1)=false:=by simp;omega
 have gp0:(0:Int)<(r.length:Int)+1+1:=by omega
 have gp1:(1:Int)<(r.length:Int)+1+1:=by omega
 have g4:decide ((b1.toNat:Int)<128)=false:=an (by omega);obtain⟨N,hN⟩:=nmm (b1.toNat -128);have hb1:(b1.toNat:Int)=(N:Int)+128:=by omega
 have hbl:=UInt8.toNat_lt b1;have hw0:IntKind.i64.wrap (b1.toNat:Int)=(b1.toNat:Int):=by rw[aK];omega
 have hw1:IntKind.i64.wrap ((b1.toNat:Int) -128)=(N:Int):=by rw[aK];omega
 have hw2:(b1.toNat:Int) -128=(N:Int):=by omega
 have HEQ:=hid HEQ0;have k1:decide ((N:Int)<1)=false:=an (by omega);have k2:decide ((N:Int)>4)=false:=an (by omega);have k3:decide ((4:Int)<(N:Int))=false:=an (by omega);have hw3:IntKind.i64.wrap (2+(N:Int))=2+(N:Int):=by rw[aK];omega
 have k4:decide ((r.length:Int)+1+1<2+(N:Int))=true:=aL (by omega);clear HEQ0 hT hN
 go_enter Tryz.func54,Tryz.ntmps54
 go_wp2_with fail
 refine aH (v:=.tuple #[.int .i64 (((0:Nat):Int)),.int .i64 (((0:Nat):Int)),.int .i64 20]) ?_ rfl (BZ.of HEQ.out 0)
 simp[results,Tryz.f54]
theorem rH(b0 b1:UInt8)(r:List UInt8)(hl:r.length≤1000000000)(h0:b0.toNat% 32≤30)(_:128≤b1.toNat)(hn:128<b1.toNat)(hn4:b1.toNat≤132)(hs:b1.toNat -128≤r.length)(hs2:65536<2+(b1.toNat -128)+dW (r.take (b1.toNat -128)))(w:World):Calls Tryz.prog 54 #[.string ⟨(b0::b1::r:List UInt8).toArray⟩] w (BZ w (b0::b1::r)):=by
 have HEQ0:bt (b0::b1::r)=(0,0,2):=by simp[bt,show ¬30<b0.toNat% 32 by omega,show ¬b1.toNat<128 by omega,show ¬(b1.toNat -128=0∨4<b1.toNat -128) by omega,show ¬r.length<b1.toNat -128 by omega,hs2]
 have e0:=dP (b0::b1::r) 0 b0 rfl (by rw[Lib.size_mk];simp);have e1:=dP (b0::b1::r) 1 b1 rfl (by rw[Lib.size_mk];simp);have ha:=wO b0;obtain⟨T,hT⟩:=nmm (b0.toNat% 32);rw[hT] at ha h0;have g1:decide ((30:Int)<(T:Int))=false:=an (by omega);have g2:decide ((T:Int)>30)=false:=an (by omega);have g3:((r.length:Int)+1+1==1)=false:=by simp;omega
 have gp0:(0:Int)<(r.length:Int)+1+1:=by omega
 have gp1:(1:Int)<(r.length:Int)+1+1:=by omega
 have g4:decide ((b1.toNat:Int)<128)=false:=an (by omega);obtain⟨N,hN⟩:=nmm (b1.toNat -128);have hb1:(b1.toNat:Int)=(N:Int)+128:=by omega
 have hbl:=UInt8.toNat_lt b1;have hw0:IntKind.i64.wrap (b1.toNat:Int)=(b1.toNat:Int):=by rw[aK];omega
 have hw1:IntKind.i64.wrap ((b1.toNat:Int) -128)=(N:Int):=by rw[aK];omega
 have hw2:(b1.toNat:Int) -128=(N:Int):=by omega
 rw[hN] at hs2 hs;have k1:decide ((N:Int)<1)=false:=an (by omega);have k2:decide ((N:Int)>4)=false:=an (by omega);have k3:decide ((4:Int)<(N:Int))=false:=an (by omega);have hw3:IntKind.i64.wrap (2+(N:Int))=2+(N:Int):=by rw[aK];omega
 have k4:decide ((r.length:Int)+1+1<2+(N:Int))=false:=an (by omega);have ex1:(⟨(b0::b1::r).toArray⟩:ByteArray).extract 2 (2+N)=⟨(r.take N).toArray⟩:=by rw[Lib.extract_eq];simp
 have kg:=zO (r.take N) (by simp;omega) (by simp;omega) w;have hw4:(0:Int)≤2+(N:Int):=by omega
 have hw5:((2:Int)+(N:Int)).toNat=2+N:=by omega
 have hw6:(2:Int)+(N:Int)≤(r.length:Int)+1+1:=by omega
 have hv:=jx N (r.take N) (by simp;omega);have hv2:dW (r.take N)<256^4:=Nat.lt_of_lt_of_le hv (Nat.pow_le_pow_right (by omega) (by omega));obtain⟨V,hV⟩:=nmm (dW (r.take N));rw[hV] at kg hv2 hs2;have hw7:IntKind.i64.wrap (2+(N:Int)+(V:Int))=2+(N:Int)+(V:Int):=by rw[aK];omega
 have k5:decide (2+(N:Int)+(V:Int)>65536)=true:=aL (by omega);have k6:decide (65536<2+(N:Int)+(V:Int))=true:=aL (by omega);have HEQ:=hid HEQ0;clear HEQ0 hT hN hV hv
 go_enter Tryz.func54,Tryz.ntmps54
 go_wp2_with fail
 try rw[ex1]
 refine ag kg ?_;rintro e w1 ⟨rfl,hw1'⟩;rw[hw1'];clear hw1' kg
 go_wp2_with fail
 refine aH (v:=.tuple #[.int .i64 (((0:Nat):Int)),.int .i64 (((0:Nat):Int)),.int .i64 2]) ?_ rfl (BZ.of HEQ.out 0)
 simp[results,Tryz.f54]
theorem qi(b0 b1:UInt8)(r:List UInt8)(hl:r.length≤1000000000)(h0:b0.toNat% 32≤30)(_:128≤b1.toNat)(hn:128<b1.toNat)(hn4:b1.toNat≤132)(hs:b1.toNat -128≤r.length)(hs2:2+(b1.toNat -128)+dW (r.take (b1.toNat -128))≤65536)(w:World):Calls Tryz.prog 54 #[.string ⟨(b0::b1::r:List UInt8).toArray⟩] w (BZ w (b0::b1::r)):=by
 have HEQ0:bt (b0::b1::r)=(2+(b1.toNat -128),dW (r.take (b1.toNat -128)),0):=by simp[bt,show ¬30<b0.toNat% 32 by omega,show ¬b1.toNat<128 by omega,show ¬(b1.toNat -128=0∨4<b1.toNat -128) by omega,show ¬r.length<b1.toNat -128 by omega,show ¬65536<2+(b1.toNat -128)+dW (r.take (b1.toNat -128)) by omega]
 have e0:=dP (b0::b1::r) 0 b0 rfl (by rw[Lib.size_mk];simp);have e1:=dP (b0::b1::r) 1 b1 rfl (by rw[Lib.size_mk];simp);have ha:=wO b0;obtain⟨T,hT⟩:=nmm (b0.toNat% 32);rw[hT] at ha h0;have g1:decide ((30:Int)<(T:Int))=false:=an (by omega);have g2:decide ((T:Int)>30)=false:=an (by omega);have g3:((r.length:Int)+1+1==1)=false:=by simp;omega
 have gp0:(0:Int)<(r.length:Int)+1+1:=by omega
 have gp1:(1:Int)<(r.length:Int)+1+1:=by omega
 have g4:decide ((b1.toNat:Int)<128)=false:=an (by omega);obtain⟨N,hN⟩:=nmm (b1.toNat -128);have hb1:(b1.toNat:Int)=(N:Int)+128:=by omega
 have hbl:=UInt8.toNat_lt b1;have hw0:IntKind.i64.wrap (b1.toNat:Int)=(b1.toNat:Int):=by rw[aK];omega
 have hw1:IntKind.i64.wrap ((b1.toNat:Int) -128)=(N:Int):=by rw[aK];omega
 have hw2:(b1.toNat:Int) -128=(N:Int):=by omega
 rw[hN] at HEQ0 hs2 hs;have k1:decide ((N:Int)<1)=false:=an (by omega);have k2:decide ((N:Int)>4)=false:=an (by omega);have k3:decide ((4:Int)<(N:Int))=false:=an (by omega);have hw3:IntKind.i64.wrap (2+(N:Int))=2+(N:Int):=by rw[aK];omega
 have k4:decide ((r.length:Int)+1+1<2+(N:Int))=false:=an (by omega);have ex1:(⟨(b0::b1::r).toArray⟩:ByteArray).extract 2 (2+N)=⟨(r.take N).toArray⟩:=by rw[Lib.extract_eq];simp
 have kg:=zO (r.take N) (by simp;omega) (by simp;omega) w;have hw4:(0:Int)≤2+(N:Int):=by omega
 have hw5:((2:Int)+(N:Int)).toNat=2+N:=by omega
 have hw6:(2:Int)+(N:Int)≤(r.length:Int)+1+1:=by omega
 have hv:=jx N (r.take N) (by simp;omega);have hv2:dW (r.take N)<256^4:=Nat.lt_of_lt_of_le hv (Nat.pow_le_pow_right (by omega) (by omega));obtain⟨V,hV⟩:=nmm (dW (r.take N));rw[hV] at kg hv2 hs2 HEQ0;have hw7:IntKind.i64.wrap (2+(N:Int)+(V:Int))=2+(N:Int)+(V:Int):=by rw[aK];omega
 have k5:decide (2+(N:Int)+(V:Int)>65536)=false:=an (by omega);have k6:decide (65536<2+(N:Int)+(V:Int))=false:=an (by omega);have HEQ:=hid HEQ0;clear HEQ0 hT hN hV hv
 go_enter Tryz.func54,Tryz.ntmps54
 go_wp2_with fail
 try rw[ex1]
 refine ag kg ?_;rintro e w1 ⟨rfl,hw1'⟩;rw[hw1'];clear hw1' kg
 go_wp2_with fail
 refine aH (v:=.tuple #[.int .i64 (((2+N:Nat):Int)),.int .i64 ((V:Int)),I0]) ?_ rfl (BZ.of HEQ.out 0)
 simp[results,Tryz.f54]
theorem gG(b:List UInt8)(hl:b.length≤1000000000)(w:World):Calls Tryz.prog 54 #[.string ⟨b.toArray⟩] w (BZ w b):=by
 cases b with
 |nil=>exact rE w
 |cons b0 r=>
  simp only[aG] at hl
  by_cases h0:30<b0.toNat% 32
  ·exact rF b0 r (by omega) h0 w
  cases r with
  |nil=>exact rG b0 (by omega) w
  |cons b1 r=>
   simp only[aG] at hl
   by_cases h1:b1.toNat<128
   ·refine(ph b0 b1 r (by omega) h1 w).mono ?_
    rintro e w' ⟨rfl,m,rfl⟩;exact BZ.of (n:=2) (m:=b1.toNat) (c:=0) (by simp[bt,h0,h1]) m
   by_cases h2:b1.toNat=128
   ·exact qg b0 b1 r (by omega) (by omega) (by omega) h2 w
   by_cases h3:132<b1.toNat
   ·exact qh b0 b1 r (by omega) (by omega) (by omega) h3 w
   by_cases h4:r.length<b1.toNat -128
   ·exact nt b0 b1 r (by omega) (by omega) (by omega) (by omega) (by omega) h4 w
   by_cases h5:65536<2+(b1.toNat -128)+dW (r.take (b1.toNat -128))
   ·exact rH b0 b1 r (by omega) (by omega) (by omega) (by omega) (by omega) (by omega) h5 w
   ·exact qi b0 b1 r (by omega) (by omega) (by omega) (by omega) (by omega) (by omega) (by omega) w
theorem ol{n m:Nat}{b0:UInt8}{r0 c rest S:List UInt8}(hS:S=(b0::r0)++(c++rest))(hn:r0.length+1=n)(hm:c.length=m):(⟨S.toArray⟩:ByteArray).extract n (n+m)=⟨c.toArray⟩:=by
 subst hS hn hm;rw[Lib.extract_eq]
 simp
theorem om{n m:Nat}{b0:UInt8}{r0 c rest S:List UInt8}(hS:S=(b0::r0)++(c++rest))(hn:r0.length+1=n)(hm:c.length=m):(⟨S.toArray⟩:ByteArray).extract (n+m) (n+m+rest.length)=⟨rest.toArray⟩:=by
 subst hS hn hm;rw[Lib.extract_eq];have h:List.drop (r0.length+1+c.length) (b0::(r0++(c++rest)))=rest:=by
  rw[show r0.length+1+c.length=(r0.length+c.length)+1 by omega,List.drop_succ_cons,←List.append_assoc,List.drop_left' (by simp)]
 simp[h]
theorem nu(n m:Nat)(b0:UInt8)(r0 c rest S:List UInt8)(hS:S=(b0::r0)++(c++rest))(hn:r0.length+1=n)(hm:c.length=m)(hh:bt S=(n,m,0))(hn6:n≤6)(hm6:m≤65536)(hp:b0.toNat/32% 2=0)(hr:rest.length≤900000000)(d:Nat)(hd:d<20)(w:World):
  Cr 56 #[.string ⟨S.toArray⟩,.int .i64 (d:Int)] w (.tuple #[.agg (elA (.mk ((b0.toNat/64:Nat):Int) ((b0.toNat% 32:Nat):Int) false c []) (Sn)),.string ⟨rest.toArray⟩]):=by
 have b1w:=alb w Ze 45;have r1:=alz w Ze 45;have hSl:S.length=n+m+rest.length:=by rw[hS];simp;omega
 have kh:Calls Tryz.prog 54 #[.string ⟨S.toArray⟩] (w.alloc (.cells Ze 45)) fun e w'=>e=.returned (.tuple #[.int .i64 (n:Int),.int .i64 (m:Int),I0])∧∃m,w'=(w.alloc (.cells Ze 45)).drewN m:=by
  have h:=gG S (by omega) (w.alloc (.cells Ze 45));unfold BZ at h;rw[hh] at h;exact h
 have HSS:=hid hS;clear hh hS
 go_enter Tryz.func56,Tryz.ntmps56
 go_wp2_with fail
 refine ag kh ?_;rintro e w2 ⟨rfl,q,rfl⟩;have r2:((w.alloc (.cells Ze 45)).drewN q).heap[w.heap.size]?=some (.cells Ze 45 (0,0)):=r1;have b2:=fU b1w q;clear r1 b1w kh;generalize(w.alloc (.cells Ze 45)).drewN q=w2 at r2 b2⊢;have g1:decide ((20:Int)≤(d:Int))=false:=an (by omega);have g2:decide ((S.length:Int)<(n:Int)+(m:Int))=false:=an (by omega);have hwn:IntKind.i64.wrap ((n:Int)+(m:Int))=(n:Int)+(m:Int):=by rw[aK];omega
 go_wp2_with fail
 have e0:(⟨S.toArray⟩:ByteArray)[0]'(by simp[ByteArray.size];omega)=b0:=dP S 0 b0 (by rw[HSS.out];rfl) _;have ha:=wO b0;have hb:=sx b0;refine aR (S:=fun _=>True) (by kernel_rfl) ?_;have r3:w2.drew.heap[w.heap.size]?=some (.cells Ze 45 (0,0)):=r2;have b3:Below w.heap.size w w2.drew:=b2.drew
 change wpAnyH _ _ _ _ _ _ _ _ w2.drew
 clear r2 b2;generalize w2.drew=w3 at r3 b3⊢;refine tn 0 (.string ⟨S.toArray⟩) rfl (fun w' _=>by go_simp) trivial ?_;refine tn 4 (.string ⟨S.toArray⟩) rfl (fun w' _=>by go_simp) trivial ?_;refine tn 8 (.string ⟨S.toArray⟩) rfl (fun w' _=>by go_simp) trivial ?_;refine tn 1 (.int .u8 (b0.toNat:Int)) rfl (fun w' _=>by have hp0:¬((n:Int)+(m:Int)+(rest.length:Int)≤0):=(by omega);go_simp) trivial ?_;refine tn 5 (.int .u8 (b0.toNat:Int)) rfl (fun w' _=>by have hp0:¬((n:Int)+(m:Int)+(rest.length:Int)≤0):=(by omega);go_simp) trivial ?_;refine tn 9 (.int .u8 (b0.toNat:Int)) rfl (fun w' _=>by have hp0:¬((n:Int)+(m:Int)+(rest.length:Int)≤0):=(by omega);go_simp) trivial ?_;obtain⟨Q,hQ⟩:=nmm (b0.toNat/64);obtain⟨R,hR⟩:=nmm (b0.toNat% 32);refine tn 2 (.int .u8 (Q:Int)) rfl (fun w' _=>by have hq:(b0.toNat:Int)/64=(Q:Int):=(by omega);go_simp) trivial ?_;have hQ3:Q≤3:=by have:=UInt8.toNat_lt b0;omega
 have hqw:IntKind.i64.wrap (Q:Int)=(Q:Int):=by rw[aK];omega
 have hrw:IntKind.i64.wrap (R:Int)=(R:Int):=by rw[aK];omega
 rw[hR] at ha;rw[hp] at hb;refine tn 6 (.int .u8 (R:Int)) rfl (fun w' _=>by go_simp) trivial ?_;refine tn 10 (.int .u8 0) rfl (fun w' _=>by go_simp) trivial ?_;refine tn 3 (.int .i64 (Q:Int)) rfl (fun w' _=>by go_simp) trivial ?_;refine tn 7 (.int .i64 (R:Int)) rfl (fun w' _=>by go_simp) trivial ?_;refine tn 11 (Bf) rfl (fun w' _=>by go_simp) trivial ?_;refine tn 12 (.agg #[.int .i64 (Q:Int),.int .i64 (R:Int),Bf,Es,Sn]) rfl (fun w' _=>by go_simp) trivial ?_;refine ao 13 rfl (kks trivial ?_);refine ao 14 rfl (kks trivial ?_);refine bE (by kernel_rfl) ?_ _;simp only[Exit.then];refine‹∀(a:Act) (w:World),Code.wp _ _ _ a w→_› _ _ ?_;have hlt:=(gl r3);have m3:=alb w3 #[.int .i64 (Q:Int),.int .i64 (R:Int),Bf,Es,Sn] 45;have x4:=alz w3 #[.int .i64 (Q:Int),.int .i64 (R:Int),Bf,Es,Sn] 45;have r4:=(m3.block _ hlt).trans r3;have b4:=btt b3 m3;obtain⟨G,hG⟩:=nmm w3.heap.size;rw[hG] at x4 hlt m3;rw[hG];have hs4:=m3.size;generalize w3.alloc (.cells #[.int .i64 (Q:Int),.int .i64 (R:Int),Bf,Es,Sn] 45)=w4 at x4 r4 b4 hs4⊢;clear m3 hG r3 b3;have ex1:(⟨S.toArray⟩:ByteArray).extract n (n+m)=⟨c.toArray⟩:=by exact ol HSS.out hn hm
 have kc:=qC c w4 (by omega);have q2:=cval x4 2 Bf
 go_wp2_with fail
 try rw[ex1]
 refine ag kc ?_;rintro e w5 ⟨rfl,hb5⟩;have x5:=bkk hb5 x4;have r5:=bkk hb5 r4;have b5:=btt b4 hb5;have q3:=cval x5 3 Es;have z3:=aj x5 3;have x6:(w5.setCell ⟨G,3,none⟩ (.string ⟨c.toArray⟩)).heap[G]?=some (.cells #[.int .i64 (Q:Int),.int .i64 (R:Int),Bf,.string ⟨c.toArray⟩,Sn] 45 (0,0)):=bw (i:=3) (u:=.string ⟨c.toArray⟩) x5;have r6:=(aX w5 ⟨G,3,none⟩ (.string ⟨c.toArray⟩) w.heap.size (by show w.heap.size≠G;omega)).trans r5;have b6:=b5.setCell (p:=⟨G,3,none⟩) (Nat.le_of_lt hlt) (.string ⟨c.toArray⟩);clear kc x4 r4 b4 hb5 x5 r5 b5 ex1 q2
 go_wp2_with fail
 clear q3 z3;generalize w5.setCell ⟨G,3,none⟩ (.string ⟨c.toArray⟩)=w6 at x6 r6 b6⊢;refine aR (S:=fun w'=>w'.heap[G]?=some (.cells #[.int .i64 (Q:Int),.int .i64 (R:Int),Bf,.string ⟨c.toArray⟩,Sn] 45 (0,0))) (by kernel_rfl) ?_;have x7:w6.drew.heap[G]?=some (.cells #[.int .i64 (Q:Int),.int .i64 (R:Int),Bf,.string ⟨c.toArray⟩,Sn] 45 (0,0)):=x6;have r7:w6.drew.heap[w.heap.size]?=some (.cells Ze 45 (0,0)):=r6;have b7:Below w.heap.size w w6.drew:=b6.drew
 change wpAnyH _ _ _ _ _ _ _ _ w6.drew
 clear x6 r6 b6;generalize w6.drew=w7 at x7 r7 b7⊢;refine tn 0 (.agg #[.int .i64 (Q:Int),.int .i64 (R:Int),Bf,.string ⟨c.toArray⟩,Sn]) rfl (fun w' hS=>by exact cU 45 (.tmp 9) rfl G 45 _ (0,0) (by rfl) hS _ Tryz.underlying45 rfl (by rfl)) x7 ?_;refine tn 1 (.string ⟨S.toArray⟩) rfl (fun w' hS=>by go_simp) x7 ?_;refine tn 2 (.int .i64 (n:Int)) rfl (fun w' hS=>by go_simp) x7 ?_;refine tn 3 (.int .i64 (m:Int)) rfl (fun w' hS=>by go_simp) x7 ?_;have hw2:IntKind.i64.wrap ((n:Int)+(m:Int))=(n:Int)+(m:Int):=by rw[aK];omega
 refine tn 4 (.int .i64 ((n:Int)+(m:Int))) rfl (fun w' hS=>by go_simp) x7 ?_;have ex2:(⟨S.toArray⟩:ByteArray).extract (n+m) (n+m+rest.length)=⟨rest.toArray⟩:=by exact om HSS.out hn hm
 refine tn 5 (.string ⟨rest.toArray⟩) rfl (fun w' hS=>by have hw3:(0:Int)≤(n:Int)+(m:Int):=(by omega);have hw4:((n:Int)+(m:Int)).toNat=n+m:=(by omega);go_simp) x7 ?_;have hlt7:w.heap.size≠G:=by omega
 have k8:=setRow_heap w7 w.heap.size _ #[.int .i64 (Q:Int),.int .i64 (R:Int),Bf,.string ⟨c.toArray⟩,Sn] _ _ r7;have x8:=(setRow_other w7 w.heap.size G #[.int .i64 (Q:Int),.int .i64 (R:Int),Bf,.string ⟨c.toArray⟩,Sn] (by omega)).trans x7;have b8:=bm b7 (g:=w.heap.size) (ah _) #[.int .i64 (Q:Int),.int .i64 (R:Int),Bf,.string ⟨c.toArray⟩,Sn];refine ao 6 rfl (fun K hK=>?_);refine db 45 (.tmp 4) (.tmp 60) rfl w.heap.size 45 _ #[.int .i64 (Q:Int),.int .i64 (R:Int),Bf,.string ⟨c.toArray⟩,Sn] (by rfl) (by rfl) r7 (by rfl) (by rfl) (by simp[Value.oneCell']) ?_;refine hK _ _ x8 ?_;clear hK K
 refine ao 7 rfl (kks x8 ?_);refine bE (by kernel_rfl) ?_ _;simp only[Exit.then];refine‹∀(a:Act) (w:World),Code.wp _ _ _ a w→_› _ _ ?_
 go_wp2_with fail
 refine aH (v:=.tuple #[.agg #[.int .i64 (Q:Int),.int .i64 (R:Int),Bf,.string ⟨c.toArray⟩,Sn],.string ⟨rest.toArray⟩]) ?_ rfl ⟨?_,b8⟩
 ·have hr:=aJ (P:=Tryz.prog) (w7.setRow w.heap.size #[.int .i64 (Q:Int),.int .i64 (R:Int),Bf,.string ⟨c.toArray⟩,Sn]) w.heap.size 45 45 #[.int .i64 (Q:Int),.int .i64 (R:Int),Bf,.string ⟨c.toArray⟩,Sn] (0,0) _ k8 (show Tryz.prog.underlying 45=_ from Tryz.underlying45) (by rfl) (by rfl)
  simp[results,Tryz.f56,asAddr,hr,Result.andThen]
 ·subst hQ hR
  rfl
def fu(c:Int):Value:=.iface 32 (.int .i64 c)
abbrev Pn:Ending:=.panicked [{v:=fu 70,recovered:=false}]
def RdQ(w:World)(r:Except Int (El×List UInt8))(e:Ending)(w':World):Prop:=
 (match r with
  | .ok (el,rest)=>∃u,e=.returned (.tuple #[.agg (elA el u),.string ⟨rest.toArray⟩])∧bf (fun g=>w.heap.size≤g) w' u el.kids
  | .error c=>e=.panicked [{v:=fu c,recovered:=false}])∧Below w.heap.size w w'
def RdP(w:World)(k:Nat)(b:List UInt8):Ending→World→Prop:=RdQ w (bP k b)
def BV(w:World)(G Q R k:Nat)(c:List UInt8)(cv:Value)(wr:World):Prop:=
 ∃(done:List El) (us:List Value) (c2:List UInt8) (v:Value),cv=.string ⟨c2.toArray⟩∧ss (bP k) c.length c=(match ss (bP k) c2.length c2 with| .error e=>.error e| .ok rem=>.ok (done++rem))∧done.length+c2.length≤65536∧
  wr.heap[G]?=some (.cells #[.int .i64 (Q:Int),.int .i64 (R:Int),.bool true,Es,v] 45 (0,0))∧wr.heap[w.heap.size]?=some (.cells Ze 45 (0,0))∧
  wr.ownsRow (G+1) 45 5 v done.length (cx done us)∧us.length=done.length∧Below w.heap.size w wr∧
  ∀(j:Nat) (e:El) (u:Value),done[j]?=some e→us[j]?=some u→bf (fun g=>G<g∧v.ownBlock≠some g) wr u e.kids
theorem nw(k:Nat)(ih:∀(b:List UInt8) (w:World),b.length≤1000000→Calls Tryz.prog 56 #[.string ⟨b.toArray⟩,.int .i64 ((20 -k:Nat):Int)] w (RdP w k b))(hk20:k<20)
  (n m:Nat) (b0:UInt8) (r0 c rest S:List UInt8) (hS:S=(b0::r0)++(c++rest)) (hn:r0.length+1=n) (hm:c.length=m) (hh:bt S=(n,m,0)) (hn6:n≤6) (hm6:m≤65536) (hp:b0.toNat/32% 2=1) (hr:rest.length≤900000000) (w:World) (RES:Except Int (El×List UInt8))
  (hRES:RES=(match ss (bP k) c.length c with| .error e=>.error e| .ok ks=>.ok (.mk ((b0.toNat/64:Nat):Int) ((b0.toNat% 32:Nat):Int) true [] ks,rest))):
  Calls Tryz.prog 56 #[.string ⟨S.toArray⟩,.int .i64 ((19 -k:Nat):Int)] w (RdQ w RES):=by
 obtain⟨i0,hi0,hz0,hz1,hz2⟩:=info_parts Tryz.infoElement;have IH:=hid ih;clear ih;obtain⟨PR,hPR⟩:∃PR:Ending→World→Prop,PR=RdQ w RES:=⟨_,rfl⟩;rw[←hPR];obtain⟨HPR,HRES⟩:=Cg hPR hRES;clear hPR hRES;obtain⟨d,hd⟩:=nmm (19 -k);have hd20:20 -k=d+1:=by omega
 rw[hd];rw[hd20] at IH;have b1w:=alb w Ze 45;have r1:=alz w Ze 45;have hSl:S.length=n+m+rest.length:=by rw[hS];simp;omega
 have kh:Calls Tryz.prog 54 #[.string ⟨S.toArray⟩] (w.alloc (.cells Ze 45)) fun e w'=>e=.returned (.tuple #[.int .i64 (n:Int),.int .i64 (m:Int),I0])∧∃m,w'=(w.alloc (.cells Ze 45)).drewN m:=by
  have h:=gG S (by omega) (w.alloc (.cells Ze 45));unfold BZ at h;rw[hh] at h;exact h
 have HSS:=hid hS;clear hh hS
 go_enter Tryz.func56,Tryz.ntmps56
 go_wp2_with fail
 refine ag kh ?_;rintro e w2 ⟨rfl,q,rfl⟩;have r2:((w.alloc (.cells Ze 45)).drewN q).heap[w.heap.size]?=some (.cells Ze 45 (0,0)):=r1;have b2:=fU b1w q;clear r1 b1w kh;generalize(w.alloc (.cells Ze 45)).drewN q=w2 at r2 b2⊢;have g1:decide ((20:Int)≤(d:Int))=false:=an (by omega);have g2:decide ((S.length:Int)<(n:Int)+(m:Int))=false:=an (by omega);have hwn:IntKind.i64.wrap ((n:Int)+(m:Int))=(n:Int)+(m:Int):=by rw[aK];omega
 go_wp2_with fail
 have e0:(⟨S.toArray⟩:ByteArray)[0]'(by simp[ByteArray.size];omega)=b0:=dP S 0 b0 (by rw[HSS.out];rfl) _;have ha:=wO b0;have hb:=sx b0;refine aR (S:=fun _=>True) (by kernel_rfl) ?_;have r3:w2.drew.heap[w.heap.size]?=some (.cells Ze 45 (0,0)):=r2;have b3:Below w.heap.size w w2.drew:=b2.drew
 change wpAnyH _ _ _ _ _ _ _ _ w2.drew
 clear r2 b2;generalize w2.drew=w3 at r3 b3⊢;refine tn 0 (.string ⟨S.toArray⟩) rfl (fun w' _=>by go_simp) trivial ?_;refine tn 4 (.string ⟨S.toArray⟩) rfl (fun w' _=>by go_simp) trivial ?_;refine tn 8 (.string ⟨S.toArray⟩) rfl (fun w' _=>by go_simp) trivial ?_;refine tn 1 (.int .u8 (b0.toNat:Int)) rfl (fun w' _=>by have hp0:¬((n:Int)+(m:Int)+(rest.length:Int)≤0):=(by omega);go_simp) trivial ?_;refine tn 5 (.int .u8 (b0.toNat:Int)) rfl (fun w' _=>by have hp0:¬((n:Int)+(m:Int)+(rest.length:Int)≤0):=(by omega);go_simp) trivial ?_;refine tn 9 (.int .u8 (b0.toNat:Int)) rfl (fun w' _=>by have hp0:¬((n:Int)+(m:Int)+(rest.length:Int)≤0):=(by omega);go_simp) trivial ?_;obtain⟨Q,hQ⟩:=nmm (b0.toNat/64);obtain⟨R,hR⟩:=nmm (b0.toNat% 32);refine tn 2 (.int .u8 (Q:Int)) rfl (fun w' _=>by have hq:(b0.toNat:Int)/64=(Q:Int):=(by omega);go_simp) trivial ?_;have hQ3:Q≤3:=by have:=UInt8.toNat_lt b0;omega
 have hqw:IntKind.i64.wrap (Q:Int)=(Q:Int):=by rw[aK];omega
 have hrw:IntKind.i64.wrap (R:Int)=(R:Int):=by rw[aK];omega
 rw[hR] at ha;rw[hp] at hb;refine tn 6 (.int .u8 (R:Int)) rfl (fun w' _=>by go_simp) trivial ?_;refine tn 10 (.int .u8 32) rfl (fun w' _=>by go_simp) trivial ?_;refine tn 3 (.int .i64 (Q:Int)) rfl (fun w' _=>by go_simp) trivial ?_;refine tn 7 (.int .i64 (R:Int)) rfl (fun w' _=>by go_simp) trivial ?_;refine tn 11 (.bool true) rfl (fun w' _=>by go_simp) trivial ?_;refine tn 12 (.agg #[.int .i64 (Q:Int),.int .i64 (R:Int),.bool true,Es,Sn]) rfl (fun w' _=>by go_simp) trivial ?_;refine ao 13 rfl (kks trivial ?_);refine ao 14 rfl (kks trivial ?_);refine bE (by kernel_rfl) ?_ _;simp only[Exit.then];refine‹∀(a:Act) (w:World),Code.wp _ _ _ a w→_› _ _ ?_;have hlt:=(gl r3);have m3:=alb w3 #[.int .i64 (Q:Int),.int .i64 (R:Int),.bool true,Es,Sn] 45;have x4:=alz w3 #[.int .i64 (Q:Int),.int .i64 (R:Int),.bool true,Es,Sn] 45;have r4:=(m3.block _ hlt).trans r3;have b4:=btt b3 m3;obtain⟨G,hG⟩:=nmm w3.heap.size;rw[hG] at x4 hlt m3;rw[hG];have hs4:=m3.size;generalize w3.alloc (.cells #[.int .i64 (Q:Int),.int .i64 (R:Int),.bool true,Es,Sn] 45)=w4 at x4 r4 b4 hs4⊢;clear m3 hG r3 b3;have ex1:(⟨S.toArray⟩:ByteArray).extract n (n+m)=⟨c.toArray⟩:=by exact ol HSS.out hn hm
 have q2:=cval x4 2 (.bool true)
 go_wp2_with fail
 clear q2
 try rw[ex1]
 go_loopw [10] (fun cv wr=>BV w G Q R k c cv wr) (fun cv _=>vX cv)
 case atStart=>exact⟨[],[],c,Sn,by first|rfl|(rw[ex1]),by cases ss (bP k) c.length c<;>rfl,by simp;omega,x4,r4,World.ownsRow_nil _ _ _ _,rfl,b4,fun j e u h=>by simp at h⟩
 case round=>
  clear x4 r4 b4 hs4 ex1;obtain⟨dn,us,c2,v,rfl,hk2,hc2,hx,hrz,hown,hul,hbe,hkids⟩:=hrel;obtain⟨av,cv,hfv⟩:=gf hown;subst hfv;cases hcs:c2 with
  |nil=>
   rw[hcs] at hk2;have hAns:RES=.ok (.mk (Q:Int) (R:Int) true [] dn,rest):=by
    rw[HRES.out,hk2];simp only[ss,List.append_nil];rw[hQ,hR]
   have HANS:=hid hAns;clear hk2 hAns hc2;have hwG:w.heap.size<G:=by omega
   have res:=jI (P:=fun g=>G<g) hown hul (fun j e u q1 q2=>(hkids j e u q1 q2).mono (fun g hg _=>hg.1)) (fun g hg=>hg);have HR:=hid res;clear hown hkids res hul
   go_wp2_with fail
   refine aR (S:=fun w'=>w'.heap[G]?=some (.cells #[.int .i64 (Q:Int),.int .i64 (R:Int),.bool true,Es,.slice av dn.length cv] 45 (0,0))) (by kernel_rfl) ?_;have x7:wr.drew.heap[G]?=some (.cells #[.int .i64 (Q:Int),.int .i64 (R:Int),.bool true,Es,.slice av dn.length cv] 45 (0,0)):=hx;have r7:wr.drew.heap[w.heap.size]?=some (.cells Ze 45 (0,0)):=hrz;have b7:Below w.heap.size w wr.drew:=hbe.drew;have HR7:=hid (HR.out.kept (w':=wr.drew) (Q:=fun g=>G<g) (fun g hg _=>⟨rfl,hg⟩))
   change wpAnyH _ _ _ _ _ _ _ _ wr.drew
   clear hx hrz hbe HR;generalize wr.drew=w7 at x7 r7 b7 HR7⊢;refine tn 0 (.agg #[.int .i64 (Q:Int),.int .i64 (R:Int),.bool true,Es,.slice av dn.length cv]) rfl (fun w' hS=>by exact cU 45 (.tmp 9) rfl G 45 _ (0,0) (by rfl) hS _ Tryz.underlying45 rfl (by rfl)) x7 ?_;refine tn 1 (.string ⟨S.toArray⟩) rfl (fun w' hS=>by go_simp) x7 ?_;refine tn 2 (.int .i64 (n:Int)) rfl (fun w' hS=>by go_simp) x7 ?_;refine tn 3 (.int .i64 (m:Int)) rfl (fun w' hS=>by go_simp) x7 ?_;have hw2:IntKind.i64.wrap ((n:Int)+(m:Int))=(n:Int)+(m:Int):=by rw[aK];omega
   refine tn 4 (.int .i64 ((n:Int)+(m:Int))) rfl (fun w' hS=>by go_simp) x7 ?_;have ex2:(⟨S.toArray⟩:ByteArray).extract (n+m) (n+m+rest.length)=⟨rest.toArray⟩:=by exact om HSS.out hn hm
   refine tn 5 (.string ⟨rest.toArray⟩) rfl (fun w' hS=>by have hw3:(0:Int)≤(n:Int)+(m:Int):=(by omega);have hw4:((n:Int)+(m:Int)).toNat=n+m:=(by omega);go_simp) x7 ?_;have k8:=setRow_heap w7 w.heap.size _ #[.int .i64 (Q:Int),.int .i64 (R:Int),.bool true,Es,.slice av dn.length cv] _ _ r7;have x8:=(setRow_other w7 w.heap.size G #[.int .i64 (Q:Int),.int .i64 (R:Int),.bool true,Es,.slice av dn.length cv] (by omega)).trans x7;have b8:=bm b7 (g:=w.heap.size) (ah _) #[.int .i64 (Q:Int),.int .i64 (R:Int),.bool true,Es,.slice av dn.length cv];have K8:bf (fun g=>w.heap.size≤g) (w7.setRow w.heap.size #[.int .i64 (Q:Int),.int .i64 (R:Int),.bool true,Es,.slice av dn.length cv]) (.slice av dn.length cv) dn:=HR7.out.kept fun g hg _=>⟨setRow_other _ _ _ _ (by omega),by omega⟩
   refine ao 6 rfl (fun K hK=>?_);refine db 45 (.tmp 4) (.tmp 81) rfl w.heap.size 45 _ #[.int .i64 (Q:Int),.int .i64 (R:Int),.bool true,Es,.slice av dn.length cv] (by rfl) (by rfl) r7 (by rfl) (by rfl) (by simp[Value.oneCell']) ?_;refine hK _ _ x8 ?_;clear hK K
   refine ao 7 rfl (kks x8 ?_);refine bE (by kernel_rfl) ?_ _;simp only[Exit.then];refine‹∀(a:Act) (w:World),Code.wp _ _ _ a w→_› _ _ ?_
   go_wp2_with fail
   refine aH (v:=.tuple #[.agg #[.int .i64 (Q:Int),.int .i64 (R:Int),.bool true,Es,.slice av dn.length cv],.string ⟨rest.toArray⟩]) ?_ rfl (by rw[HPR.out];unfold RdQ;rw[HANS.out];exact⟨⟨.slice av dn.length cv,rfl,K8⟩,b8⟩)
   ·have hr:=aJ (P:=Tryz.prog) (w7.setRow w.heap.size #[.int .i64 (Q:Int),.int .i64 (R:Int),.bool true,Es,.slice av dn.length cv]) w.heap.size 45 45 #[.int .i64 (Q:Int),.int .i64 (R:Int),.bool true,Es,.slice av dn.length cv] (0,0) _ k8 (show Tryz.prog.underlying 45=_ from Tryz.underlying45) (by rfl) (by rfl)
    simp[results,Tryz.f56,asAddr,hr,Result.andThen]
  |cons x0 t0=>
   have hne:c2.isEmpty=false:=by rw[hcs];rfl
   have hst:=oL (mi k) x0 t0;rw[←hcs] at hst;rw[hst] at hk2;have hcl:c2.length≤65536:=by omega
   clear hst;rw[←hcs];have m1:=alb wr Ze 45;have rk:=alz wr Ze 45;have hlt:=hown.lt;have hGlt:=(gl hx);have hsz:=hbe.size;have kr:=IH.out c2 (wr.alloc (.cells Ze 45)) (by omega);unfold RdP RdQ at kr;have hdc:((d+1:Nat):Int)=(d:Int)+1:=by omega
   rw[hdc] at kr;obtain⟨HX,HZ,HO,HKD,HB,HLT⟩:=Cy ((m1.block _ hGlt).trans hx) ((bkk m1 hrz)) hown hkids (hbe.trans (m1.mono hsz)) hlt;have hsm:=m1.size;obtain⟨M1,RK⟩:=Cg m1 rk;clear hdc hx hrz hown hkids hbe hlt m1 rk hcs;cases hrr:bP k c2 with
   |error ec=>
    rw[hrr] at kr hk2;simp only at hk2;have hAns:RES=.error ec:=by rw[HRES.out,hk2]
    have HANS:=hid hAns;clear hAns hk2 hrr
    go_wp2_with fail
    refine ag kr ?_;rintro e w2 ⟨he,hb2⟩
    try simp only at he
    subst he;refine⟨rfl,?_⟩;rw[HPR.out];unfold RdQ;rw[HANS.out];exact⟨rfl,HB.out.trans (hb2.mono (by omega))⟩
   |ok pr=>
   obtain⟨k2,c3⟩:=pr;rw[hrr] at kr hk2;simp only at hk2;have hlen3:=mi k _ _ _ hrr;have HKS:=hid hk2;clear hk2 hrr
   go_wp2_with fail
   refine ag kr ?_;rintro e w2 ⟨he,hb2⟩
   try simp only at he
   obtain⟨u2,he1,hu2⟩:=he;subst he1;obtain⟨a2,cc2,hf2⟩:=hu2.shape;subst hf2;have hkb:=(hb2.block _ (gl RK.out)).trans RK.out;have hx2:=(hb2.block _ (gl HX.out)).trans HX.out;have hz2:=(hb2.block _ (gl HZ.out)).trans HZ.out;have ho2:=ge (ge HO.out M1.out) hb2;have hb3:=HB.out.trans (hb2.mono (by omega));have hs2:=hb2.size;have hBlt:wr.heap.size<(wr.alloc (.cells Ze 45)).heap.size:=(gl RK.out);have hold2:∀g,g<wr.heap.size→w2.heap[g]?=wr.heap[g]?:=fun g hg=>(hb2.block g (by omega)).trans (M1.out.block g hg)
   -- the kid is written into its block
   have x3:(w2.setRow wr.heap.size (elA k2 (.slice a2 k2.kids.length cc2))).heap[G]?=some (.cells #[.int .i64 (Q:Int),.int .i64 (R:Int),.bool true,Es,.slice av dn.length cv] 45 (0,0)):=(setRow_other w2 wr.heap.size G _ (by omega)).trans hx2;have rz3:=(setRow_other w2 wr.heap.size w.heap.size (elA k2 (.slice a2 k2.kids.length cc2)) (by omega)).trans hz2;have k3:(w2.setRow wr.heap.size (elA k2 (.slice a2 k2.kids.length cc2))).heap[wr.heap.size]?=some (.cells (Er k2 a2 cc2) 45 (0,0)):=setRow_heap w2 wr.heap.size _ _ _ _ hkb;have ho3:(w2.setRow wr.heap.size (elA k2 (.slice a2 k2.kids.length cc2))).ownsRow (G+1) 45 5 (.slice av dn.length cv) dn.length (cx dn us):=ho2.kept (pP w2 wr.heap.size _) (.inr (fun h=>by have:=(HLT.out _ h).2;omega));have b3:Below w.heap.size w (w2.setRow wr.heap.size (elA k2 (.slice a2 k2.kids.length cc2))):=bm hb3 (by omega) _;have hold3:∀g,g<wr.heap.size→(w2.setRow wr.heap.size (elA k2 (.slice a2 k2.kids.length cc2))).heap[g]?=wr.heap[g]?:=fun g hg=>(setRow_other w2 wr.heap.size g _ (by omega)).trans (hold2 g hg)
   have hnew3:∀g,wr.heap.size<g→(w2.setRow wr.heap.size (elA k2 (.slice a2 k2.kids.length cc2))).heap[g]?=w2.heap[g]?:=fun g hg=>setRow_other w2 wr.heap.size g _ (by omega)
   have hsz3:w2.heap.size≤(w2.setRow wr.heap.size (elA k2 (.slice a2 k2.kids.length cc2))).heap.size:=by simp[World.setRow]
   obtain⟨HU,HOLD,HNEW,HK2⟩:=Ci hu2 hold3 hnew3 hkb;clear hu2 hold2 hold3 hnew3 kr hb2 hx2 hz2 ho2 hb3 hkb HX HZ HO HB M1 RK;obtain⟨HO3,HX3,HZ3,HK3,HB3⟩:=Cj ho3 x3 rz3 k3 b3;clear ho3 x3 rz3 k3 b3
   go_wp2_with (first
    |(refine bh rfl 45 (.tmp 11) (.tmp 73) rfl wr.heap.size 45 _ (elA k2 (.slice a2 k2.kids.length cc2)) (by rfl) (by rfl) HK2.out (by rfl) (by rfl) (by simp[elA,Value.oneCell']) ?_;generalize w2.setRow wr.heap.size (elA k2 (.slice a2 k2.kids.length cc2))=w3 at HO3 HX3 HZ3 HK3 HB3 HOLD HNEW hsz3⊢;have q4:=cval HX3.out 4 (.slice av dn.length cv))
    |(refine bg rfl 45 (.tmp 11) rfl wr.heap.size 45 _ (0,0) (by rfl) HK3.out _ Tryz.underlying45 rfl (by rfl) ?_)
    |(at_builtin;refine wpList_append_lies _ rfl (.tmp 76) (.tmp 78) 43 rfl (G+1) 45 i0 _ 5 64 Tryz.underlying43 hi0 hz0 hz1 hz2 rfl (by decide) (.slice av dn.length cv) dn.length (cx dn us) rfl (HO3.out.alloc _) ⟨w3.heap.size,0,none⟩ 1 1 [.int .i64 k2.cls,.int .i64 k2.tag,.bool k2.cons,.string ⟨k2.bytes.toArray⟩,.slice a2 k2.kids.length cc2] rfl rfl (World.news_of_block (bi _ _ _ rfl)) (by simp[Value.oneCell']) (by decide) (by unfold maxLen;omega) (by omega) (by simp;omega) (w3.heap.size+1) (by simp) ?_;intro g5 cap5 w5 ho5 hg5 hat5 hlt5;clear q4;have x5:=(hg5.block G (by simp;omega) (fun h=>by have:=(HLT.out G h.symm).1;omega)).trans ((alloc_old _ _ _ (by omega)).trans HX3.out);have q5:=cval x5 4 (.slice av dn.length cv);have z5:=aj x5 4))
   have hl5:=ho5.lt;have x6:(w5.setCell ⟨G,4,none⟩ (.slice (some ⟨g5,0,none⟩) (dn.length+1) cap5)).heap[G]?=some (.cells #[.int .i64 (Q:Int),.int .i64 (R:Int),.bool true,Es,(.slice (some ⟨g5,0,none⟩) (dn.length+1) cap5)] 45 (0,0)):=bw (i:=4) (u:=(.slice (some ⟨g5,0,none⟩) (dn.length+1) cap5)) x5;have hgG:G<g5:=by have:=(hl5 g5 rfl).1;omega
   have hG3:G<w3.heap.size:=(gl HX3.out);have rz5:w5.heap[w.heap.size]?=some (.cells Ze 45 (0,0)):=(hg5.block w.heap.size (by simp;omega) (fun h=>by have:=(HLT.out _ h.symm).1;omega)).trans ((alloc_old _ _ _ (by omega)).trans HZ3.out);have rz6:=(aX w5 ⟨G,4,none⟩ (.slice (some ⟨g5,0,none⟩) (dn.length+1) cap5) w.heap.size (by show w.heap.size≠G;omega)).trans rz5;have b6:=(((HB3.out.alloc (by omega) (.cells #[.int .i64 k2.cls,.int .i64 k2.tag,.bool k2.cons,.string ⟨k2.bytes.toArray⟩,(.slice a2 k2.kids.length cc2)] 45)).grown hg5 (by simp;omega) (fun b hb=>by have:=(HLT.out b hb).1;omega))).setCell (p:=⟨G,4,none⟩) (by show w.heap.size≤G;omega) (.slice (some ⟨g5,0,none⟩) (dn.length+1) cap5);have own6:(w5.setCell ⟨G,4,none⟩ (.slice (some ⟨g5,0,none⟩) (dn.length+1) cap5)).ownsRow (G+1) 45 5 (.slice (some ⟨g5,0,none⟩) (dn.length+1) cap5) (dn++[k2]).length (cx (dn++[k2]) (us++[(.slice a2 k2.kids.length cc2)])):=by
    rw[wt _ _ _ _ hul,bd];exact ho5.kept (kW w5 G 4 _) (.inr (fun h=>by have:=(hl5 _ h).1;omega))
   have hoth:∀g',g'≠G→g'<w3.heap.size→(.slice av dn.length cv:Value).ownBlock≠some g'→(w5.setCell ⟨G,4,none⟩ (.slice (some ⟨g5,0,none⟩) (dn.length+1) cap5)).heap[g']?=w3.heap[g']?∧((.slice (some ⟨g5,0,none⟩) (dn.length+1) cap5):Value).ownBlock≠some g':=by
    intro g' hne hg' hno;refine⟨(aX w5 ⟨G,4,none⟩ (.slice (some ⟨g5,0,none⟩) (dn.length+1) cap5) g' hne).trans ((hg5.block g' (by simp;omega) (fun h=>hno h.symm)).trans (alloc_old _ _ _ hg')),fun h=>?_⟩;rcases hat5 with h5|h5
    ·have:g5=g':=by simpa[Value.ownBlock] using h
     subst this;exact hno h5
    ·have:g5=g':=by simpa[Value.ownBlock] using h
     omega
   refine⟨⟨dn++[k2],us++[(.slice a2 k2.kids.length cc2)],c3,(.slice (some ⟨g5,0,none⟩) (dn.length+1) cap5),rfl,by rw[HKS.out];cases ss (bP k) c3.length c3<;>simp,by simp;omega,x6,rz6,own6,by simp[hul],b6,fun j e' u' q1 q2=>?_⟩,?_⟩
   ·by_cases hjk:j<dn.length
    ·rw[List.getElem?_append_left hjk] at q1
     rw[List.getElem?_append_left (by rw[hul];exact hjk)] at q2;refine(HKD.out j e' u' q1 q2).kept fun g' hg' hlt'=>?_
     obtain⟨r1,r2⟩:=hoth g' (by omega) (by omega) hg'.2;exact⟨r1.trans (HOLD.out g' hlt'),hg'.1,r2⟩
    ·have hj:j=dn.length:=by
      have:=(List.getElem?_eq_some_iff.1 q2).1
      simp[hul] at this
      omega
     subst hj;rw[List.getElem?_append_right (ah _),Nat.sub_self] at q1;rw[List.getElem?_append_right (by rw[hul];exact ah _),hul,Nat.sub_self] at q2;cases q1;cases q2;refine HU.out.kept fun g' hg' hlt'=>?_
     obtain⟨r1,r2⟩:=hoth g' (by omega) (by omega) (fun h=>by have:=(HLT.out g' h).2;omega);exact⟨r1.trans (HNEW.out g' (by omega)),by omega,r2⟩
   ·show(⟨c3.toArray⟩:ByteArray).size<(⟨c2.toArray⟩:ByteArray).size
    rw[Lib.size_mk,Lib.size_mk];exact hlen3
end Go.Proofs.YthjaiigijbjloaaGreatDoor
