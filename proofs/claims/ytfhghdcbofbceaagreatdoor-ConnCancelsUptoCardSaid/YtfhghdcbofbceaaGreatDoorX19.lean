/- ReP, CoP, MsV, CoA. -/
import Derived.Test.YtfhghdcbofbceaaGreatDoorX18
namespace Go.Proofs.YtfhghdcbofbceaaGreatDoor
open Go.RowKit Go.Lib
set_option maxRecDepth 100000
set_option maxHeartbeats 16000000
mutual
theorem jy:∀e:El,ed e≤cW e
 | .mk c t k b ks=>by
  have:=mH ks;simp only[ed,cW]
  omega
theorem mH:∀l:List El,dL l≤bD l
 |[]=>by simp[dL]
 |e::r=>by
  have:=jy e;have:=mH r;simp only[dL,bD]
  omega
end
def dy(b:List UInt8):Except Int (Mg×Ls):=match fO b with
 | .error c=>.error c
 | .ok e=>match dU e with
  |none=>.error 70
  |some y=>if bH y.1 y.2 then .ok y else .error 70
theorem LsL.mgm{B:Nat}{w:World}{m:Mg}{l:Ls}(h:LsL B w m l):MgM w m l:=⟨h.filt.flts,h.sel.strs,h.mods.mods,h.attrs.attrs,h.ctl.ctls⟩
theorem lD(b:List UInt8)(c:Int)(hc:c≠0)(kb:∀w,Calls Tryz.prog 96 #[.string ⟨b.toArray⟩] w fun e w'=>e=.returned (.tuple #[.agg Ze,.int .i64 c])∧Bw w w')(w:World):
  Cr 58 #[.string ⟨b.toArray⟩] w (.tuple #[.agg Zm,.int .i64 c]):=by
 have hmf:∀(fn:Fn) (first cap:Array Value) (w:World),(Instr.makeFunc fn first cap).run Tryz.prog w=.ok (.func fn first cap) w:=fun _ _ _ _=>rfl
 have t1:Hc (w.alloc (.cells Zm 32)) w.heap.size (Mg.row {}) 32:=fb _ _ _ rfl;have b1:=alb w Zm 32;have kr:=kb (w.alloc (.cells Zm 32));have i0:(c==0)=false:=aE hc;clear kb
 go_enter Tryz.func58,Tryz.ntmps58
 go_wp2_with fail
 generalize(w.alloc (.cells Zm 32))=w1 at t1 b1 kr⊢;refine ag kr ?_;rintro e w2 ⟨rfl,hb2⟩;have t2:=bk hb2 t1;have b2:=btt b1 hb2;clear kr hb2 t1 b1;obtain⟨E,hE⟩:=nmm (Ze:Array Value);have hE1:E.all (·.oneCell')=true:=by rw[←hE];simp[Value.oneCell']
 have hE2:E.size=5:=by rw[←hE];rfl
 rw[hE];obtain⟨HE1,HE2⟩:=Cg hE1 hE2;clear hE hE1 hE2;have x3:=alz w2 Ze 40;have g3:Bw w2 ((w2.alloc (.cells Ze 40)).setRow w2.heap.size E):=xo ((aA _ _).alloc (ah _) _) (ah _) E;obtain⟨t3,b3,X3⟩:=Ch (bk g3 t2) ((btt b2 g3)) x3;clear t2 b2 x3 g3
 go_upto_region 2 with(refine stE (.tmp 4) (.tmp 10) E X3.out HE2.out HE1.out ?_)
 have t3:=t3.out;have b3:=b3.out;generalize(w2.alloc (.cells Ze 40)).setRow w2.heap.size E=w3 at t3 b3⊢;clear X3;obtain⟨b9,t9⟩:=Cg (xo b3 (g:=w.heap.size) (ah _) Zm) (setRow_heap w3 w.heap.size _ Zm _ _ t3)
 go_wp2_with (refine stM (.tmp 2) (.tmp 14) Zm t3 rfl (by simp[Value.oneCell']) ?_)
 have b9:=b9.out;have t9:=t9.out;generalize w3.setRow w.heap.size Zm=w9 at b9 t9⊢;refine aH (v:=.tuple #[.agg Zm,.int .i64 c]) ?_ rfl ⟨rfl,b9⟩;have hr:=rlM t9 rfl
 simp[results,Tryz.f58]
 show((Sem.run Tryz.prog (loadVar 32 ⟨w.heap.size,0,none⟩) w9).andThen fun a w'=>Result.ok (Value.tuple #[a,.int .i64 c]) w')=_;rw[hr]
 simp
theorem se(b:List UInt8)(el:El)(hr:bP 20 b=.ok (el,[]))(hl:b.length≤1000000)(hT:dU el=none)(w:World):
  Cr 58 #[.string ⟨b.toArray⟩] w (.tuple #[.agg Zm,.int .i64 70]):=by
 have hmf:∀(fn:Fn) (first cap:Array Value) (w:World),(Instr.makeFunc fn first cap).run Tryz.prog w=.ok (.func fn first cap) w:=fun _ _ _ _=>rfl
 have t1:Hc (w.alloc (.cells Zm 32)) w.heap.size (Mg.row {}) 32:=fb _ _ _ rfl;have b1:=alb w Zm 32;have kr:=kP b el hr hl (w.alloc (.cells Zm 32));have hraw:=(fL 20 b el [] hr).2;have hsm:=kC el (by omega);have hcn:ed el≤1000000000:=by have:=jy el;omega
 clear hr hl
 go_enter Tryz.func58,Tryz.ntmps58
 go_wp2_with fail
 generalize(w.alloc (.cells Zm 32))=w1 at t1 b1 kr⊢;refine ag kr ?_;rintro e w2 ⟨⟨u,rfl,hu⟩,hb2⟩;have t2:=bk hb2 t1;have b2:=btt b1 hb2;have hs1:=b1.size;have hs2:=b2.size;clear kr hb2 t1 b1;obtain⟨a,c,hsl⟩:=hu.shape;subst hsl;obtain⟨E,hE⟩:=nmm (elA el (.slice a el.kids.length c));have hE1:E.all (·.oneCell')=true:=by rw[←hE];simp[elA,Value.oneCell']
 have hE2:E.size=5:=by rw[←hE];rfl
 rw[hE];obtain⟨HE,HE1,HE2⟩:=Ch hE hE1 hE2;clear hE hE1 hE2;have x3:=alz w2 Ze 40;have g3:Bw w2 ((w2.alloc (.cells Ze 40)).setRow w2.heap.size E):=xo ((aA _ _).alloc (ah _) _) (ah _) E;obtain⟨e3,u3,t3,b3,X3⟩:=Cj (setRow_heap (w2.alloc (.cells Ze 40)) w2.heap.size _ E _ _ x3) (hu.below g3) (bk g3 t2) ((btt b2 g3)) x3;have ht:=(gl t2);clear t2 b2 x3 g3 hu;have hsz3:((w2.alloc (.cells Ze 40)).setRow w2.heap.size E).heap.size=w2.heap.size+1:=by simp[World.setRow]
 go_upto_region 4 with(refine stE (.tmp 4) (.tmp 10) E X3.out HE2.out HE1.out ?_)
 generalize(w2.alloc (.cells Ze 40)).setRow w2.heap.size E=w3 at e3 u3 t3 b3 hsz3⊢;clear X3;have m4:Hc (w3.alloc (.cells Zm 32)) w3.heap.size (Mg.row {}) 32:=fb _ _ _ rfl;have g4:=alb w3 Zm 32;have e4:=bk g4 e3.out;have t4:=bk g4 t3.out;have u4:=u3.out.below g4;have b4:=b3.out.trans (g4.mono b3.out.size);clear e3 t3 u3 b3 g4
 go_upto_region 5 with fail
 rw[hsz3] at m4;generalize w3.alloc (.cells Zm 32)=w4 at m4 e4 t4 u4 b4⊢;rw[←HE.out] at e4;have kk:=qN el (.slice a el.kids.length c) w2.heap.size (w2.heap.size+1) w4 e4 m4 (u4.kept fun g hg hl=>⟨rfl,trivial⟩) hsm hcn hT;clear hT hsm hcn
 go_wp2_with fail
 refine ag kk ?_;rintro e w5 ⟨rfl,hR5⟩;have t5:=hR5.at t4 (by simp;omega);have b5:=b4.trans (hR5.below1 (B:=w.heap.size) (by omega) b4.size);clear kk m4 b4 e4 t4 u4 hR5;obtain⟨b9,t9⟩:=Cg (xo b5 (g:=w.heap.size) (ah _) Zm) (setRow_heap w5 w.heap.size _ Zm _ _ t5)
 go_wp2_with (refine stM (.tmp 2) (.tmp 24) Zm t5 rfl (by simp[Value.oneCell']) ?_)
 have b9:=b9.out;have t9:=t9.out;generalize w5.setRow w.heap.size Zm=w9 at b9 t9⊢;refine aH (v:=.tuple #[.agg Zm,.int .i64 70]) ?_ rfl ⟨rfl,b9⟩;have hr:=rlM t9 rfl
 simp[results,Tryz.f58]
 show((Sem.run Tryz.prog (loadVar 32 ⟨w.heap.size,0,none⟩) w9).andThen fun a w'=>Result.ok (Value.tuple #[a,.int .i64 70]) w')=_;rw[hr]
 simp
theorem qO(b:List UInt8)(el:El)(hr:bP 20 b=.ok (el,[]))(hl:b.length≤1000000)(y:Mg×Ls)(hT:dU el=some y)(hV:bH y.1 y.2=false)(w:World)(hE:Env w):
  Cr 58 #[.string ⟨b.toArray⟩] w (.tuple #[.agg Zm,.int .i64 70]):=by
 have hmf:∀(fn:Fn) (first cap:Array Value) (w:World),(Instr.makeFunc fn first cap).run Tryz.prog w=.ok (.func fn first cap) w:=fun _ _ _ _=>rfl
 have t1:Hc (w.alloc (.cells Zm 32)) w.heap.size (Mg.row {}) 32:=fb _ _ _ rfl;have b1:=alb w Zm 32;have kr:=kP b el hr hl (w.alloc (.cells Zm 32));have hraw:=(fL 20 b el [] hr).2;have hsm:=kC el (by omega);have hcn:ed el≤1000000000:=by have:=jy el;omega
 clear hr hl
 go_enter Tryz.func58,Tryz.ntmps58
 go_wp2_with fail
 generalize(w.alloc (.cells Zm 32))=w1 at t1 b1 kr⊢;refine ag kr ?_;rintro e w2 ⟨⟨u,rfl,hu⟩,hb2⟩;have t2:=bk hb2 t1;have b2:=btt b1 hb2;have hs1:=b1.size;have hs2:=b2.size;clear kr hb2 t1 b1;obtain⟨a,c,hsl⟩:=hu.shape;subst hsl;obtain⟨E,hE⟩:=nmm (elA el (.slice a el.kids.length c));have hE1:E.all (·.oneCell')=true:=by rw[←hE];simp[elA,Value.oneCell']
 have hE2:E.size=5:=by rw[←hE];rfl
 rw[hE];obtain⟨HE,HE1,HE2⟩:=Ch hE hE1 hE2;clear hE hE1 hE2;have x3:=alz w2 Ze 40;have g3:Bw w2 ((w2.alloc (.cells Ze 40)).setRow w2.heap.size E):=xo ((aA _ _).alloc (ah _) _) (ah _) E;obtain⟨e3,u3,t3,b3,X3⟩:=Cj (setRow_heap (w2.alloc (.cells Ze 40)) w2.heap.size _ E _ _ x3) (hu.below g3) (bk g3 t2) ((btt b2 g3)) x3;have ht:=(gl t2);clear t2 b2 x3 g3 hu;have hsz3:((w2.alloc (.cells Ze 40)).setRow w2.heap.size E).heap.size=w2.heap.size+1:=by simp[World.setRow]
 go_upto_region 4 with(refine stE (.tmp 4) (.tmp 10) E X3.out HE2.out HE1.out ?_)
 generalize(w2.alloc (.cells Ze 40)).setRow w2.heap.size E=w3 at e3 u3 t3 b3 hsz3⊢;clear X3;have m4:Hc (w3.alloc (.cells Zm 32)) w3.heap.size (Mg.row {}) 32:=fb _ _ _ rfl;have g4:=alb w3 Zm 32;have e4:=bk g4 e3.out;have t4:=bk g4 t3.out;have u4:=u3.out.below g4;have b4:=b3.out.trans (g4.mono b3.out.size);clear e3 t3 u3 b3 g4
 go_upto_region 5 with fail
 rw[hsz3] at m4;generalize w3.alloc (.cells Zm 32)=w4 at m4 e4 t4 u4 b4⊢;rw[←HE.out] at e4;have kk:=rx el (.slice a el.kids.length c) w2.heap.size (w2.heap.size+1) w4 e4 m4 (u4.kept fun g hg hl=>⟨rfl,trivial⟩) hsm hcn y hT;have hlk:=kQ (m:=y.1) (l:=y.2) hT (by omega);clear hT hsm hcn
 go_wp2_with fail
 refine ag kk ?_;rintro e w5 ⟨⟨rfl,m,m5,hpl,hls⟩,hR5⟩;have t5:=hR5.at t4 (by simp;omega);have b5:=b4.trans (hR5.below1 (B:=w.heap.size) (by omega) b4.size);have hok:LsOk m y.2:=LsOk.pl (by rw[hpl];exact hlk);have kv:Calls Tryz.prog 22 #[.agg m.row] w5 fun e w2=>e=.returned (.bool (bH y.1 y.2))∧Bw w5 w2:=by
  rw[←hpl,fM];exact gR m y.2 w5 hls.mgm (by have:=hok.mods;omega) (by have:=hok.ctl;omega) (fun _ w2 hb2=>gu y.2.filt m.filt w2 (hls.mgm.filt.below hb2) hok.filt ((hE.below b5).below hb2))
 rw[hV] at kv;have hs4:=b4.size;have ht4:=(gl t4);obtain⟨F,hF⟩:=nmm m.row;have hF1:F.all (·.oneCell')=true:=by rw[←hF];exact Mg.one _ (LsL.one hls)
 have hF2:F.size=28:=by rw[←hF];rfl
 rw[hF] at m5 kv;obtain⟨HF,HF1,HF2,HLS,m5⟩:=Cj hF hF1 hF2 hls m5;clear hF hF1 hF2 kk m4 b4 e4 t4 u4 hR5 hok hlk hls
 go_wp2_with (refine bQ (by rfl) 32 (.tmp 6) rfl (w2.heap.size+1) 32 _ (0,0) (by rfl) m5.out _ Tryz.underlying32 rfl (by rw[HF2.out];rfl) ?_)
 refine ag kv ?_;rintro e w6 ⟨rfl,hb6⟩;have t6:=bk hb6 t5;have m6:=hid (bk hb6 m5.out);have b6:=btt b5 hb6;have L6:=hid (HLS.out.keep (fun g _ hl=>hb6.block g hl));clear kv hb6 t5 m5 b5 HLS;obtain⟨b9,t9⟩:=Cg (xo b6 (g:=w.heap.size) (ah _) Zm) (setRow_heap w6 w.heap.size _ Zm _ _ t6)
 go_wp2_with (refine stM (.tmp 2) (.tmp 24) Zm t6 rfl (by simp[Value.oneCell']) ?_)
 have b9:=b9.out;have t9:=t9.out;generalize w6.setRow w.heap.size Zm=w9 at b9 t9⊢;refine aH (v:=.tuple #[.agg Zm,.int .i64 70]) ?_ rfl ⟨rfl,b9⟩;have hr:=rlM t9 rfl
 simp[results,Tryz.f58]
 show((Sem.run Tryz.prog (loadVar 32 ⟨w.heap.size,0,none⟩) w9).andThen fun a w'=>Result.ok (Value.tuple #[a,.int .i64 70]) w')=_;rw[hr]
 simp
theorem A5(b:List UInt8)(el:El)(hr:bP 20 b=.ok (el,[]))(hl:b.length≤1000000)(y:Mg×Ls)(hT:dU el=some y)(hV:bH y.1 y.2=true)(w:World)(hE:Env w):
  Calls Tryz.prog 58 #[.string ⟨b.toArray⟩] w fun e w'=>(∃m:Mg,e=.returned (.tuple #[.agg m.row,I0])∧m.pl=y.1∧LsL w.heap.size w' m y.2)∧Bw w w':=by
 have hmf:∀(fn:Fn) (first cap:Array Value) (w:World),(Instr.makeFunc fn first cap).run Tryz.prog w=.ok (.func fn first cap) w:=fun _ _ _ _=>rfl
 have t1:Hc (w.alloc (.cells Zm 32)) w.heap.size (Mg.row {}) 32:=fb _ _ _ rfl;have b1:=alb w Zm 32;have kr:=kP b el hr hl (w.alloc (.cells Zm 32));have hraw:=(fL 20 b el [] hr).2;have hsm:=kC el (by omega);have hcn:ed el≤1000000000:=by have:=jy el;omega
 clear hr hl
 go_enter Tryz.func58,Tryz.ntmps58
 go_wp2_with fail
 generalize(w.alloc (.cells Zm 32))=w1 at t1 b1 kr⊢;refine ag kr ?_;rintro e w2 ⟨⟨u,rfl,hu⟩,hb2⟩;have t2:=bk hb2 t1;have b2:=btt b1 hb2;have hs1:=b1.size;have hs2:=b2.size;clear kr hb2 t1 b1;obtain⟨a,c,hsl⟩:=hu.shape;subst hsl;obtain⟨E,hE⟩:=nmm (elA el (.slice a el.kids.length c));have hE1:E.all (·.oneCell')=true:=by rw[←hE];simp[elA,Value.oneCell']
 have hE2:E.size=5:=by rw[←hE];rfl
 rw[hE];obtain⟨HE,HE1,HE2⟩:=Ch hE hE1 hE2;clear hE hE1 hE2;have x3:=alz w2 Ze 40;have g3:Bw w2 ((w2.alloc (.cells Ze 40)).setRow w2.heap.size E):=xo ((aA _ _).alloc (ah _) _) (ah _) E;obtain⟨e3,u3,t3,b3,X3⟩:=Cj (setRow_heap (w2.alloc (.cells Ze 40)) w2.heap.size _ E _ _ x3) (hu.below g3) (bk g3 t2) ((btt b2 g3)) x3;have ht:=(gl t2);clear t2 b2 x3 g3 hu;have hsz3:((w2.alloc (.cells Ze 40)).setRow w2.heap.size E).heap.size=w2.heap.size+1:=by simp[World.setRow]
 go_upto_region 4 with(refine stE (.tmp 4) (.tmp 10) E X3.out HE2.out HE1.out ?_)
 generalize(w2.alloc (.cells Ze 40)).setRow w2.heap.size E=w3 at e3 u3 t3 b3 hsz3⊢;clear X3;have m4:Hc (w3.alloc (.cells Zm 32)) w3.heap.size (Mg.row {}) 32:=fb _ _ _ rfl;have g4:=alb w3 Zm 32;have e4:=bk g4 e3.out;have t4:=bk g4 t3.out;have u4:=u3.out.below g4;have b4:=b3.out.trans (g4.mono b3.out.size);clear e3 t3 u3 b3 g4
 go_upto_region 5 with fail
 rw[hsz3] at m4;generalize w3.alloc (.cells Zm 32)=w4 at m4 e4 t4 u4 b4⊢;rw[←HE.out] at e4;have kk:=rx el (.slice a el.kids.length c) w2.heap.size (w2.heap.size+1) w4 e4 m4 (u4.kept fun g hg hl=>⟨rfl,trivial⟩) hsm hcn y hT;have hlk:=kQ (m:=y.1) (l:=y.2) hT (by omega);clear hT hsm hcn
 go_wp2_with fail
 refine ag kk ?_;rintro e w5 ⟨⟨rfl,m,m5,hpl,hls⟩,hR5⟩;have t5:=hR5.at t4 (by simp;omega);have b5:=b4.trans (hR5.below1 (B:=w.heap.size) (by omega) b4.size);have hok:LsOk m y.2:=LsOk.pl (by rw[hpl];exact hlk);have kv:Calls Tryz.prog 22 #[.agg m.row] w5 fun e w2=>e=.returned (.bool (bH y.1 y.2))∧Bw w5 w2:=by
  rw[←hpl,fM];exact gR m y.2 w5 hls.mgm (by have:=hok.mods;omega) (by have:=hok.ctl;omega) (fun _ w2 hb2=>gu y.2.filt m.filt w2 (hls.mgm.filt.below hb2) hok.filt ((hE.below b5).below hb2))
 rw[hV] at kv;have hs4:=b4.size;have ht4:=(gl t4);obtain⟨F,hF⟩:=nmm m.row;have hF1:F.all (·.oneCell')=true:=by rw[←hF];exact Mg.one _ (LsL.one hls)
 have hF2:F.size=28:=by rw[←hF];rfl
 rw[hF] at m5 kv;obtain⟨HF,HF1,HF2,HLS,m5⟩:=Cj hF hF1 hF2 hls m5;clear hF hF1 hF2 kk m4 b4 e4 t4 u4 hR5 hok hlk hls
 go_wp2_with (refine bQ (by rfl) 32 (.tmp 6) rfl (w2.heap.size+1) 32 _ (0,0) (by rfl) m5.out _ Tryz.underlying32 rfl (by rw[HF2.out];rfl) ?_)
 refine ag kv ?_;rintro e w6 ⟨rfl,hb6⟩;have t6:=bk hb6 t5;have m6:=hid (bk hb6 m5.out);have b6:=btt b5 hb6;have L6:=hid (HLS.out.keep (fun g _ hl=>hb6.block g hl));clear kv hb6 t5 m5 b5 HLS;obtain⟨b7,t7,L7⟩:=Ch (xo b6 (g:=w.heap.size) (ah _) F) (setRow_heap w6 w.heap.size _ F _ _ t6) ((L6.out.keep (w':=w6.setRow w.heap.size F) (fun g hg hl=>setRow_other _ _ g F (by omega))).mono (B':=w.heap.size) (by omega));clear L6
 go_wp2_with (first
  |(refine ldM (.tmp 6) m6.out HF2.out ?_)
  |(refine stM (.tmp 2) (.tmp 25) F t6 HF2.out HF1.out ?_))
 have b7:=b7.out;have t7:=t7.out;have L7:=L7.out;generalize w6.setRow w.heap.size F=w7 at b7 t7 L7⊢;refine aH (v:=.tuple #[.agg F,I0]) ?_ rfl ⟨⟨m,by rw[HF.out],hpl,L7⟩,b7⟩;have hr:=rlM t7 HF2.out
 simp[results,Tryz.f58]
 show((Sem.run Tryz.prog (loadVar 32 ⟨w.heap.size,0,none⟩) w7).andThen fun a w'=>Result.ok (Value.tuple #[a,I0]) w')=_;rw[hr]
 simp
def MrP(b:List UInt8)(w:World)(e:Ending)(w':World):Prop:=
 (match dy b with
  | .error c=>e=.returned (.tuple #[.agg (Mg.row {}),.int .i64 c])
  | .ok y=>∃m:Mg,e=.returned (.tuple #[.agg m.row,I0])∧m.pl=y.1∧LsL w.heap.size w' m y.2)∧Bw w w'
theorem MrP.error{b:List UInt8}{c:Int}{w w':World}{e:Ending}(h:dy b=.error c)(k:e=.returned (.tuple #[.agg Zm,.int .i64 c])∧Bw w w'):MrP b w e w':=by
 unfold MrP;rw[h];exact k
theorem qP{b:List UInt8}{c:Int}(h:bP 20 b=.error c):dy b=.error c:=by
 unfold dy fO;rw[h]
theorem lE(b:List UInt8)(k:Nat)(c:Int)(h:bP k b=.error c):c≠0:=by
 rintro rfl;have key:∀(g:List UInt8→Except Int (El×List UInt8)),(∀b,g b≠.error 0)→∀(n:Nat) (c:List UInt8),dC g n c≠.error 0:=by
  intro g hg n
  induction n with
  |zero=>intro c;cases c<;>simp[dC]
  |succ n ih=>
   intro c;cases c with
   |nil=>simp[dC]
   |cons x t=>
    unfold dC;cases hx:g (x::t) with
    |error e=>intro he;exact hg _ (by rw[hx];injection he with he;rw[he])
    |ok p=>
     obtain⟨k1,c1⟩:=p;simp only;cases hk:dC g n c1 with
     |error e=>intro he;exact ih c1 (by rw[hk];injection he with he;rw[he])
     |ok ks=>intro he;cases he
 have:∀(k:Nat) (b:List UInt8),bP k b≠.error 0:=by
  intro k
  induction k with
  |zero=>
   intro b;unfold bP
   split
   ·intro he;cases he
   ·rename_i h0;intro he;injection he with he;exact h0 he
  |succ k ih=>
   intro b;unfold bP
   split
   ·split
    ·intro he;cases he
    ·split
     ·intro he;cases he
     ·cases hk:dC (bP k) ((b.drop (bt b).1).take (bt b).2.1).length ((b.drop (bt b).1).take (bt b).2.1) with
      |error e=>intro he;exact key _ ih _ _ (by rw[hk];injection he with he;rw[he])
      |ok ks=>intro he;cases he
   ·rename_i h0;intro he;injection he with he;exact h0 he
 exact this k b h
theorem lG(b:List UInt8)(hl:b.length≤1000000)(w:World)(hE:Env w):Calls Tryz.prog 58 #[.string ⟨b.toArray⟩] w (MrP b w):=by
 cases hr:bP 20 b with
 |error c=>exact(lD b c (lE b 20 c hr) (nB b c hr hl) w).mono fun e w' h=>MrP.error (qP hr) h
 |ok p=>
  obtain⟨el,r⟩:=p;cases r with
  |cons x r=>
   have h25:dy b=.error 25:=by unfold dy fO;rw[hr]
   exact(lD b 25 (by decide) (qM b el x r hr hl) w).mono fun e w' h=>MrP.error h25 h
  |nil=>
   have hR:fO b=.ok el:=by unfold fO;rw[hr]
   cases hT:dU el with
   |none=>
    have h70:dy b=.error 70:=by unfold dy;rw[hR];simp only[hT]
    exact(se b el hr hl hT w).mono fun e w' h=>MrP.error h70 h
   |some y=>
    cases hV:bH y.1 y.2 with
    |false=>
     have h70:dy b=.error 70:=by unfold dy;rw[hR];simp only[hT,hV,aW,if_false]
     exact(qO b el hr hl y hT hV w hE).mono fun e w' h=>MrP.error h70 h
    |true=>
     have hok:dy b=.ok y:=by unfold dy;rw[hR];simp only[hT,hV,if_true]
     refine(A5 b el hr hl y hT hV w hE).mono fun e w' h=>?_
     unfold MrP;rw[hok];exact h
theorem iC{m:Mg}{l:Ls}(h:(cR m l).2=0):bH m l=true∧bP 20 (cR m l).1=.ok (EY m l,[])∧eA (cR m l).1=((cR m l).1.length,0)∧(cR m l).1.length≤65536:=by
 unfold cR at h⊢;cases hv:bH m l with
 |false=>rw[hv] at h;simp at h
 |true=>
  rw[hv] at h;simp only[if_true] at h⊢;obtain⟨h1,h2,h3,h4,_⟩:=ng _ h;have hf:=AF _ h;refine⟨trivial,?_,hf,by rw[h2,h3];exact h4⟩;unfold fO at h1
  split at h1
  ·cases h1
  ·rename_i e0 q;cases h1;exact q
  ·cases h1
theorem fo{m:Mg}{l:Ls}(h:(cR m l).2=0):dy (cR m l).1=.ok (m.pl,l):=by
 obtain⟨hv,hr,_,_⟩:=iC h;unfold dy fO;rw[hr];simp only[qF hv,fM,hv,if_true]
theorem lI{b:List UInt8}{c:Int}(h:dy b=.error c):c≠0:=by
 unfold dy fO at h;cases hr:bP 20 b with
 |error c'=>
  rw[hr] at h;simp only[Except.error.injEq] at h;rw[←h];exact lE b 20 c' hr
 |ok p=>
  obtain⟨el,r⟩:=p;rw[hr] at h;cases r with
  |cons x r=>simp only[Except.error.injEq] at h;omega
  |nil=>
   simp only at h;cases hT:dU el with
   |none=>rw[hT] at h;simp only[Except.error.injEq] at h;omega
   |some z=>
    rw[hT] at h;simp only at h
    split at h
    ·cases h
    ·simp only[Except.error.injEq] at h;omega
theorem LsOk.to{m n:Mg}{l:Ls}(h:LsOk m l)(hp:n.pl=m.pl):LsOk n l:=LsOk.pl (by rw[hp];exact⟨h.dn,h.secret,h.newRdn,h.newSup,h.typ,h.value,h.oid,h.matched,h.text,h.filt,h.sel,h.sels,h.mods,h.modss,h.attrs,h.ctl,h.ctls⟩)
theorem Fb{b:List UInt8}{y:Mg×Ls}(h:dy b=.ok y):bH y.1 y.2=true∧LsOk y.1 y.2:=by
 unfold dy fO at h;cases hr:bP 20 b with
 |error c=>rw[hr] at h;cases h
 |ok p=>
  obtain⟨el,r⟩:=p;rw[hr] at h;cases r with
  |cons x r=>cases h
  |nil=>
   simp only at h;cases hT:dU el with
   |none=>rw[hT] at h;cases h
   |some z=>
    rw[hT] at h;simp only at h
    split at h
    ·rename_i hv
     cases h;have hraw:=(fL 20 b el [] hr).2;exact⟨hv,kQ (m:=y.1) (l:=y.2) hT (by omega)⟩
    ·cases h
theorem row_one(m:Mg)(h:m.filt=Sn∧m.sel=Sn∧m.mods=Sn∧m.attrs=Sn∧m.ctl=Sn):m.row.all (·.oneCell')=true:=by
 obtain⟨h1,h2,h3,h4,h5⟩:=h
 simp[Mg.row,h1,h2,h3,h4,h5,Value.oneCell']
theorem oC(id op code:Int)(matched text:List UInt8)(w:World):
  Cr 12 #[.int .i64 id,.int .i64 op,.int .i64 code,.string ⟨matched.toArray⟩,.string ⟨text.toArray⟩] w (.agg (Mg.row {id:=id,op:=op,code:=code,matched:=matched,text:=text})):=by
 have x3:=alz w Zm 32;have X3:=hid x3;obtain⟨D,hD⟩:=nmm (Mg.row {id:=id,op:=op,code:=code,matched:=matched,text:=text});have hD0:(#[.int .i64 id,.int .i64 op,Es,I0,Bf,Es,I0,I0,I0,I0,Bf,Sn,Sn,Sn,Sn,Es,Es,Bf,Bf,Es,Es,Es,Bf,I0,.int .i64 code,.string ⟨matched.toArray⟩,.string ⟨text.toArray⟩,Sn]:Array Value)=D:=hD;have hD1:D.all (·.oneCell')=true:=by rw[←hD];exact row_one _ ⟨rfl,rfl,rfl,rfl,rfl⟩
 have hD2:D.size=28:=by rw[←hD];rfl
 have b3:Bw w ((w.alloc (.cells Zm 32)).setRow w.heap.size D):=xo ((aA _ _).alloc (ah _) _) (ah _) D;have e3:=setRow_heap (w.alloc (.cells Zm 32)) w.heap.size _ D _ _ x3;obtain⟨E3,B3⟩:=Cg e3 b3;rw[hD];obtain⟨HD0,HD1,HD2⟩:=Ch hD0 hD1 hD2;clear hD hD0 hD1 hD2 x3 e3 b3
 go_enter Tryz.func12,Tryz.ntmps12
 go_wp2_with (refine bh rfl 32 (.tmp 10) (.tmp 16) rfl w.heap.size 32 Zm D (by rfl) (by show Act.eval _ (.tmp 16)=.agg D;rw[←HD0.out];rfl) X3.out (by rw[HD2.out];rfl) (by rw[HD2.out];rfl) HD1.out ?_;have e3:=E3.out;generalize((w.alloc (.cells Zm 32)).setRow w.heap.size D)=w4 at e3 B3⊢;have E4:=hid e3;clear e3 E3 X3)
 refine aH (v:=.agg D) ?_ rfl ⟨rfl,B3.out⟩;have hr:=rlM E4.out HD2.out
 simp[results,Tryz.f12]
 exact hr
def DP:List UInt8:=[49,46,51,46,54,46,49,46,52,46,49,46,49,52,54,54,46,50,48,48,51,54]
theorem A6(code:Int)(text:List UInt8)(w:World):
    Cr 94 #[.int .i64 code,.string ⟨text.toArray⟩] w (.agg (Mg.row {op:=24,code:=code,text:=text,oid:=DP})):=by
  obtain⟨D,hD⟩:=nmm (Mg.row {id:=0,op:=24,code:=code,matched:=[],text:=text});have hD1:D.all (·.oneCell')=true:=by rw[←hD];exact row_one _ ⟨rfl,rfl,rfl,rfl,rfl⟩
  have hD2:D.size=28:=by rw[←hD];rfl
  obtain⟨F,hF⟩:=nmm (Mg.row {op:=24,code:=code,text:=text,oid:=DP});have hF0:D.setIfInBounds 21 (.string ⟨#[49,46,51,46,54,46,49,46,52,46,49,46,49,52,54,54,46,50,48,48,51,54]⟩)=F:=by rw[←hD,←hF];rfl
  have hF1:F.all (·.oneCell')=true:=by rw[←hF];exact row_one _ ⟨rfl,rfl,rfl,rfl,rfl⟩
  have hF2:F.size=28:=by rw[←hF];rfl
  have HDD:Hid (D[21]?=some (.string ⟨#[]⟩)):=hid (by rw[←hD];rfl);rw[hF];have x1:=alz w Zm 32;have b1:=alb w Zm 32;have kr:=oC 0 24 code [] text (w.alloc (.cells Zm 32));rw[hD] at kr;obtain⟨HD1,HD2,HF0,HF1,HF2⟩:=Cj hD1 hD2 hF0 hF1 hF2;clear hD hD1 hD2 hF hF0 hF1 hF2
  go_enter Tryz.func94,Tryz.ntmps94
  go_wp2_with fail
  generalize w.alloc (.cells Zm 32)=w1 at x1 b1 kr⊢;refine ag kr ?_;rintro e w2 ⟨rfl,hb⟩;have x2:=bkk hb x1;have b2:=btt b1 hb;have hs2:=(gl x2);clear kr hb x1 b1;have y3:=alz w2 Zm 32;have b3:Bw w ((w2.alloc (.cells Zm 32)).setRow w2.heap.size D):=xo (b2.alloc b2.size _) b2.size D;have e3:=setRow_heap (w2.alloc (.cells Zm 32)) w2.heap.size _ D _ _ y3;have x3:Hc ((w2.alloc (.cells Zm 32)).setRow w2.heap.size D) w.heap.size Zm 32:=(setRow_other _ w2.heap.size w.heap.size D (by omega)).trans ((Below.heap_alloc w2 _ w.heap.size hs2).trans x2);have hbs:=b2.size;have hd21:D[21]?=some (.string ⟨#[]⟩):=HDD.out;obtain⟨HD21,Y3,E3,X3,B3⟩:=Cj hd21 y3 e3 x3 b3;clear y3 e3 x3 b3 x2 b2 hd21
  go_wp2_with (first
    |(refine stM (.tmp 5) (.tmp 8) D Y3.out HD2.out HD1.out ?_
      generalize((w2.alloc (.cells Zm 32)).setRow w2.heap.size D)=w3 at E3 X3 B3⊢;have q21:=frozen_of_heap E3.out 21;have p21:=(aq E3.out 21).trans HD21.out;have e4:=cq (i:=21) (u:=(.string ⟨#[49,46,51,46,54,46,49,46,52,46,49,46,49,52,54,54,46,50,48,48,51,54]⟩)) E3.out;rw[HF0.out] at e4;have E4:=hid e4;clear e4;obtain⟨X4,B4⟩:=Cg ((heap_setCell_other w3 ⟨w2.heap.size,21,none⟩ w.heap.size (.string ⟨#[49,46,51,46,54,46,49,46,52,46,49,46,49,52,54,54,46,50,48,48,51,54]⟩) (by show w.heap.size≠w2.heap.size;omega)).trans X3.out) (B3.out.setCell (p:=⟨w2.heap.size,21,none⟩) hbs (.string ⟨#[49,46,51,46,54,46,49,46,52,46,49,46,49,52,54,54,46,50,48,48,51,54]⟩));clear Y3 E3 X3 B3)
    |(refine ldM (.tmp 5) E4.out HF2.out ?_
      clear q21 p21;generalize w3.setCell ⟨w2.heap.size,21,none⟩ (.string ⟨#[49,46,51,46,54,46,49,46,52,46,49,46,49,52,54,54,46,50,48,48,51,54]⟩)=w4 at E4 X4 B4⊢;have B5:=hid (xo B4.out (ah _) F);have T5:=hid (setRow_heap w4 w.heap.size _ F _ _ X4.out))
    |(refine stM (.tmp 4) (.tmp 10) F X4.out HF2.out HF1.out ?_))
  refine aH (v:=.agg F) ?_ ?_ ?_
  ·have hr:=rlM T5.out HF2.out
   simp[results,Act.put,Tryz.f94]
   exact hr
  ·rfl
  ·exact⟨rfl,B5.out⟩
theorem FD(op:Int)(w:World):Calls Tryz.prog 39 #[.int .i64 op] w fun e w'=>e=.returned (.int .i64 (gk op))∧w'=w:=by
 rcases Bool.eq_false_or_eq_true (fC.contains op) with hc|hc
 ·have hm:op∈fC:=by simpa using hc
  simp only[fC,aY,aZ,or_false] at hm;rcases hm with rfl|rfl|rfl|rfl|rfl|rfl|rfl|rfl|rfl|rfl
  all_goals
   go_enter Tryz.func39,Tryz.ntmps39
   go_wp2_with fail
   go_ret
   exact⟨rfl,rfl⟩
 ·have hr:gk op=-1:=by unfold gk;rw[hc];rfl
  rw[hr];have hm:¬op∈fC:=by simpa using hc
  simp only[fC,aY,aZ,or_false,not_or] at hm;obtain⟨n0,n2,n3,n6,n8,n10,n12,n14,n16,n23⟩:=hm;have g0:(op==0)=false:=by simpa using n0
  have g3:(op==3)=false:=by simpa using n3
  have g6:(op==6)=false:=by simpa using n6
  have g8:(op==8)=false:=by simpa using n8
  have g10:(op==10)=false:=by simpa using n10
  have g12:(op==12)=false:=by simpa using n12
  have g14:(op==14)=false:=by simpa using n14
  have g23:(op==23)=false:=by simpa using n23
  clear hc hr n0 n2 n3 n6 n8 n10 n12 n14 n16 n23
  go_enter Tryz.func39,Tryz.ntmps39
  go_wp2_with fail
  go_ret
  exact⟨rfl,rfl⟩
theorem FP(op:Int):fC.contains op=(decide (0≤gk op)||op==2||op==16):=by
 rcases Bool.eq_false_or_eq_true (fC.contains op) with hc|hc
 ·have hm:op∈fC:=by simpa using hc
  simp only[fC,aY,aZ,or_false] at hm;rcases hm with rfl|rfl|rfl|rfl|rfl|rfl|rfl|rfl|rfl|rfl<;>decide
 ·have hr:gk op=-1:=by unfold gk;rw[hc];rfl
  rw[hr,hc];have hm:¬op∈fC:=by simpa using hc
  simp only[fC,aY,aZ,or_false,not_or] at hm;obtain⟨n0,n2,n3,n6,n8,n10,n12,n14,n16,n23⟩:=hm
  simp[n2,n16]
theorem FF(op:Int)(w:World):Calls Tryz.prog 16 #[.int .i64 op] w fun e w'=>e=.returned (.bool (fC.contains op))∧w'=w:=by
 have kr:=FD op w;have he:=FP op;rcases Bool.eq_false_or_eq_true (fC.contains op) with hc|hc
 ·have hm:op∈fC:=by simpa using hc
  rw[hc];clear he;simp only[fC,aY,aZ,or_false] at hm;rcases hm with rfl|rfl|rfl|rfl|rfl|rfl|rfl|rfl|rfl|rfl
  all_goals
   go_enter Tryz.func16,Tryz.ntmps16
   go_wp2_with fail
   refine ag kr ?_;rintro e w2 ⟨rfl,rfl⟩
   go_wp2_with fail
   go_ret
   exact⟨rfl,rfl⟩
 ·have hr:gk op=-1:=by unfold gk;rw[hc];rfl
  rw[hr] at kr;rw[hc];have hm:¬op∈fC:=by simpa using hc
  simp only[fC,aY,aZ,or_false,not_or] at hm;obtain⟨n0,n2,n3,n6,n8,n10,n12,n14,n16,n23⟩:=hm;have g2:(op==2)=false:=by simpa using n2
  have g16:(op==16)=false:=by simpa using n16
  clear hc hr n0 n2 n3 n6 n8 n10 n12 n14 n16 n23 he
  go_enter Tryz.func16,Tryz.ntmps16
  go_wp2_with fail
  refine ag kr ?_;rintro e w2 ⟨rfl,rfl⟩
  go_wp2_with fail
  go_ret
  exact⟨rfl,rfl⟩
/-! Memory: all blocks but some stay. -/
structure Kb (X:Nat→Prop) (w w':World):Prop where
 os:w'.os=w.os
 tape:w'.tape=w.tape
 output:w'.output=w.output
 size:w.heap.size≤w'.heap.size
 block:∀j,j<w.heap.size→¬X j→w'.heap[j]?=w.heap[j]?
theorem Kb.of{X:Nat→Prop}{w w':World}(h:Bw w w'):Kb X w w':=⟨h.os,h.tape,h.output,h.size,fun j hj _=>h.block j hj⟩
theorem Kb.refl(X:Nat→Prop)(w:World):Kb X w w:=⟨rfl,rfl,rfl,ah _,fun _ _ _=>rfl⟩
theorem Kb.step{X Y:Nat→Prop}{a b c:World}(h:Kb X a b)(k:Kb Y b c)(hy:∀j,j<a.heap.size→Y j→X j):Kb X a c:=
 ⟨k.os.trans h.os,k.tape.trans h.tape,k.output.trans h.output,Nat.le_trans h.size k.size,fun j hj hp=>(k.block j (Nat.lt_of_lt_of_le hj h.size) fun hn=>hp (hy j hj hn)).trans (h.block j hj hp)⟩
theorem Kb.trans{X:Nat→Prop}{a b c:World}(h:Kb X a b)(k:Kb X b c):Kb X a c:=h.step k fun _ _ q=>q
theorem Kb.bel{X:Nat→Prop}{a b c:World}(h:Kb X a b)(k:Bw b c):Kb X a c:=h.trans (.of k)
theorem Kb.set{X:Nat→Prop}{a w:World}(h:Kb X a w){g i:Nat}(hp:X g∨a.heap.size≤g)(u:Value):Kb X a (w.setCell ⟨g,i,none⟩ u):=
 ⟨h.os,h.tape,h.output,by simpa[World.setCell] using h.size,fun j hj hn=>(aX w ⟨g,i,none⟩ u j (by rcases hp with q|q;exact(fun e=>hn (by rw[e];exact q));show j≠g;omega)).trans (h.block j hj hn)⟩
theorem Kb.row{X:Nat→Prop}{a w:World}(h:Kb X a w){g:Nat}(hp:X g∨a.heap.size≤g)(cs:Array Value):Kb X a (w.setRow g cs):=
 ⟨h.os,h.tape,h.output,by simpa[World.setRow] using h.size,fun j hj hn=>(setRow_other w g j cs (by rcases hp with q|q;exact(fun e=>hn (by rw[e];exact q));omega)).trans (h.block j hj hn)⟩
theorem Kb.alloc{X:Nat→Prop}{a w:World}(h:Kb X a w)(o:Obj):Kb X a (w.alloc o):=h.trans (Kb.of ((aA _ _).alloc (ah _) o))
theorem Kb.at{X:Nat→Prop}{w w':World}{g:Nat}{x:Obj}(h:Kb X w w')(hx:w.heap[g]?=some x)(hX:¬X g):w'.heap[g]?=some x:=(h.block g (gl hx) hX).trans hx
theorem Kb.grown{X:Nat→Prop}{a w w':World}{v:Value}(h:Kb X a w)(hg:w.grownBy w' v.ownBlock)(hv:∀g,v.ownBlock=some g→X g∨a.heap.size≤g):Kb X a w':=
 ⟨hg.os.trans h.os,hg.tape.trans h.tape,hg.output.trans h.output,Nat.le_trans h.size hg.size,fun j hj hn=>(hg.block j (Nat.lt_of_lt_of_le hj h.size) fun e=>by
  rcases hv j e.symm with q|q
  ·exact hn q
  ·omega).trans (h.block j hj hn)⟩
theorem Kb.below{X:Nat→Prop}{w w':World}(h:Kb X w w'){B:Nat}(hB:B≤w.heap.size)(hX:∀j,j<B→¬X j):Below B w w':=⟨h.os,h.tape,h.output,h.size,fun j hj=>h.block j (by omega) (hX j hj)⟩
theorem gM{w w':World}{B:Nat}{e:TypeId}{k n:Nat}{v:Value}{xs:List Value}(h:w.ownsRow B e k v n xs)(hg:∀g,v.ownBlock=some g→w'.heap[g]?=w.heap[g]?):w'.ownsRow B e k v n xs:=by
 refine⟨h.1,?_⟩;rcases h.2 with hn|⟨g,cap,cur,rfl,hb,hgg,rest⟩
 ·exact .inl hn
 ·exact .inr ⟨g,cap,cur,rfl,hb,(hg g rfl).trans hgg,rest⟩
structure LsP (P:Nat→Prop) (w:World) (m:Mg) (l:Ls):Prop where
 filt:bM kdF P w m.filt l.filt
 sel:bM kdS P w m.sel l.sel
 mods:bM kdM P w m.mods l.mods
 attrs:bM kdA P w m.attrs l.attrs
 ctl:bM kdC P w m.ctl l.ctl
theorem LsP.kept{P Q:Nat→Prop}{w w':World}{m:Mg}{l:Ls}(h:LsP P w m l)(hk:∀g,P g→g<w.heap.size→w'.heap[g]?=w.heap[g]?∧Q g):LsP Q w' m l:=
 ⟨h.filt.kept hk (by decide),h.sel.kept hk (by decide),h.mods.kept hk (by decide),h.attrs.kept hk (by decide),h.ctl.kept hk (by decide)⟩
theorem LsL.lsp{B:Nat}{w:World}{m:Mg}{l:Ls}(h:LsL B w m l):LsP (fun g=>B≤g) w m l:=⟨h.filt,h.sel,h.mods,h.attrs,h.ctl⟩
theorem LsP.mgm{P:Nat→Prop}{w:World}{m:Mg}{l:Ls}(h:LsP P w m l):MgM w m l:=⟨h.filt.flts,h.sel.strs,h.mods.mods,h.attrs.attrs,h.ctl.ctls⟩
theorem LsP.one{P:Nat→Prop}{w:World}{m:Mg}{l:Ls}(h:LsP P w m l):m.row.all (·.oneCell')=true:=by
 obtain⟨a1,c1,e1⟩:=h.filt.shape;obtain⟨a2,c2,e2⟩:=h.sel.shape;obtain⟨a3,c3,e3⟩:=h.mods.shape;obtain⟨a4,c4,e4⟩:=h.attrs.shape;obtain⟨a5,c5,e5⟩:=h.ctl.shape
 simp[Mg.row,e1,e2,e3,e4,e5,Value.oneCell']
def eq(P:Nat→Prop)(w:World):List Mg→List (Mg×Ls)→Prop
 |[],[]=>True
 |m::ms,y::ys=>(m.pl=y.1∧LsP P w m y.2)∧eq P w ms ys
 |_,_=>False
theorem eq.kept{P Q:Nat→Prop}{w w':World}(hk:∀g,P g→g<w.heap.size→w'.heap[g]?=w.heap[g]?∧Q g):∀{ms:List Mg} {ys:List (Mg×Ls)},eq P w ms ys→eq Q w' ms ys
 |[],[],_=>trivial
 |_::_,_::_,h=>⟨⟨h.1.1,h.1.2.kept hk⟩,eq.kept hk h.2⟩
 |[],_::_,h=>h.elim
 |_::_,[],h=>h.elim
theorem eq.length{P:Nat→Prop}{w:World}:∀{ms:List Mg} {ys:List (Mg×Ls)},eq P w ms ys→ms.length=ys.length
 |[],[],_=>rfl
 |_::_,_::_,h=>by simp[eq.length h.2]
 |[],_::_,h=>h.elim
 |_::_,[],h=>h.elim
theorem eq.app{P:Nat→Prop}{w:World}:∀{ms ns:List Mg} {ys zs:List (Mg×Ls)},eq P w ms ys→eq P w ns zs→eq P w (ms++ns) (ys++zs)
 |[],_,[],_,_,k=>k
 |_::_,_,_::_,_,h,k=>⟨h.1,eq.app h.2 k⟩
 |[],_,_::_,_,h,_=>h.elim
 |_::_,_,[],_,h,_=>h.elim
theorem eq.erase{P:Nat→Prop}{w:World}:∀{ms:List Mg} {ys:List (Mg×Ls)} (i:Nat),eq P w ms ys→eq P w (ms.eraseIdx i) (ys.eraseIdx i)
 |[],[],i,_=>by simp[eq]
 |_::_,_::_,0,h=>h.2
 |_::_,_::_,i+1,h=>⟨h.1,eq.erase i h.2⟩
 |[],_::_,_,h=>h.elim
 |_::_,[],_,h=>h.elim
theorem eq.get{P:Nat→Prop}{w:World}:∀{ms:List Mg} {ys:List (Mg×Ls)} {i:Nat} {y:Mg×Ls},eq P w ms ys→ys[i]?=some y→∃m,ms[i]?=some m∧m.pl=y.1∧LsP P w m y.2
 |[],[],i,_,_,hy=>by simp at hy
 |m::_,_::_,0,_,h,hy=>by simp at hy;subst hy;exact⟨m,rfl,h.1⟩
 |_::_,_::_,i+1,_,h,hy=>by simpa using eq.get (i:=i) h.2 (by simpa using hy)
 |[],_::_,_,_,h,_=>h.elim
 |_::_,[],_,_,h,_=>h.elim
def cC(ms:List Mg):List Value:=(ms.map fun m=>m.row.toList).flatten
theorem A8(a b:List Mg):cC (a++b)=cC a++cC b:=by simp[cC]
theorem A9(ms:List Mg):(cC ms).length=ms.length*28:=by
 induction ms with
 |nil=>rfl
 |cons m r ih=>
  have:cC (m::r)=m.row.toList++cC r:=rfl;rw[this,xn,ih,aG];have:m.row.toList.length=28:=rfl
  omega
def jC(w:World)(v:Value)(ids:List Int):Prop:=
 (v=.map none∧ids=[])∨∃r es c,v=.map (some r)∧w.heap[r]?=some (.map es c)∧es.toList.map (fun e=>(e.key,e.val))=ids.map (fun k=>(Value.int .i64 k,Value.agg #[]))
def fv:Value→Option Nat
 | .map r=>r
 |_=>none
theorem jC.kept{w w':World}{v:Value}{ids:List Int}(h:jC w v ids)(hk:∀r,fv v=some r→w'.heap[r]?=w.heap[r]?):jC w' v ids:=by
 rcases h with h|⟨r,es,c,rfl,hr,he⟩
 ·exact .inl h
 ·exact .inr ⟨r,es,c,rfl,(hk r rfl).trans hr,he⟩
def oF(P:Nat→Prop)(w:World)(v:Value):Option (Int×Int)→Prop
 |none=>v=.pointer none
 |some c=>∃F D,v=.pointer (some ⟨F,0,none⟩)∧P F∧Hc w F D 32∧D[0]?=some (.int .i64 c.1)∧D[1]?=some (.int .i64 c.2)
theorem oF.kept{P Q:Nat→Prop}{w w':World}{v:Value}{c:Option (Int×Int)}(h:oF P w v c)(hk:∀g,P g→g<w.heap.size→w'.heap[g]?=w.heap[g]?∧Q g):oF Q w' v c:=by
 cases c with
 |none=>exact h
 |some c=>
  obtain⟨F,D,h1,h2,h3,h4⟩:=h;have k:=hk F h2 (gl h3);exact⟨F,D,h1,k.2,k.1.trans h3,h4⟩
structure Cs where
 inn:List UInt8:=[]
 ms:List (Mg×Ls):=[]
 cur:Option (Int×Int):=none
 out:List UInt8:=[]
 cl:Bool:=false
def Cs.ids(s:Cs):List Int:=s.ms.map (·.1.id)
def lC(inn:List UInt8)(wv iv cv bp bv:Value)(cl:Bool):Array Value:=#[.string ⟨inn.toArray⟩,wv,iv,cv,bp,bv,Es,I0,.bool cl]
structure CnB (P X:Nat→Prop) (C:Nat) (ms:List (Mg×Ls)) (ids:List Int) (cur:Option (Int×Int)) (out:List UInt8) (wv iv cv bp bv:Value) (Ms:List Mg) (w:World):Prop where
 own:w.ownsRow 0 32 28 wv ms.length (cC Ms)
 msg:eq (fun g=>P g∧¬X g) w Ms ms
 im:jC w iv ids
 nd:ids.Nodup
 cu:oF (fun g=>P g∧¬X g) w cv cur
 bq:bp=.pointer none∨bp=.pointer (some ⟨C,4,none⟩)
 bw:w.ownsRow 0 5 1 bv out.length (bV out)
 xw:∀g,wv.ownBlock=some g→X g
 xi:∀g,fv iv=some g→X g
 xb:∀g,bv.ownBlock=some g→X g
 xC:X C
 xP:∀g,X g→P g
 xl:∀g,X g→g<w.heap.size
theorem CnB.wNe{P X:Nat→Prop}{C:Nat}{ms:List (Mg×Ls)}{ids:List Int}{cur:Option (Int×Int)}{out:List UInt8}{wv iv cv bp bv:Value}{Ms:List Mg}{w:World}(h:CnB P X C ms ids cur out wv iv cv bp bv Ms w){g:Nat}(hg:wv.ownBlock=some g):∃x,w.heap[g]?=some (.cells x 32 (0,0)):=by
 rcases h.own.2 with⟨hv,_⟩|⟨g',cap,x,hv,_,hh,_⟩
 ·rw[hv] at hg;cases hg
 ·rw[hv] at hg;cases hg;exact⟨x,hh⟩
theorem CnB.bNe{P X:Nat→Prop}{C:Nat}{ms:List (Mg×Ls)}{ids:List Int}{cur:Option (Int×Int)}{out:List UInt8}{wv iv cv bp bv:Value}{Ms:List Mg}{w:World}(h:CnB P X C ms ids cur out wv iv cv bp bv Ms w){g:Nat}(hg:bv.ownBlock=some g):∃x,w.heap[g]?=some (.cells x 5 (0,0)):=by
 rcases h.bw.2 with⟨hv,_⟩|⟨g',cap,x,hv,_,hh,_⟩
 ·rw[hv] at hg;cases hg
 ·rw[hv] at hg;cases hg;exact⟨x,hh⟩
theorem CnB.iNe{P X:Nat→Prop}{C:Nat}{ms:List (Mg×Ls)}{ids:List Int}{cur:Option (Int×Int)}{out:List UInt8}{wv iv cv bp bv:Value}{Ms:List Mg}{w:World}(h:CnB P X C ms ids cur out wv iv cv bp bv Ms w){g:Nat}(hg:fv iv=some g):∃es c,w.heap[g]?=some (.map es c):=by
 rcases h.im with⟨hv,_⟩|⟨r,es,c,hv,hh,_⟩
 ·rw[hv] at hg;cases hg
 ·rw[hv] at hg;cases hg;exact⟨es,c,hh⟩
theorem CnB.lt{P X:Nat→Prop}{C:Nat}{ms:List (Mg×Ls)}{ids:List Int}{cur:Option (Int×Int)}{out:List UInt8}{wv iv cv bp bv:Value}{Ms:List Mg}{w:World}(h:CnB P X C ms ids cur out wv iv cv bp bv Ms w){g:Nat}(hg:wv.ownBlock=some g∨bv.ownBlock=some g∨fv iv=some g):g<w.heap.size:=by
 rcases hg with hg|hg|hg
 ·obtain⟨x,hx⟩:=h.wNe hg;exact(gl hx)
 ·obtain⟨x,hx⟩:=h.bNe hg;exact(gl hx)
 ·obtain⟨x,c,hx⟩:=h.iNe hg;exact(gl hx)
theorem CnB.wb{P X:Nat→Prop}{C:Nat}{ms:List (Mg×Ls)}{ids:List Int}{cur:Option (Int×Int)}{out:List UInt8}{wv iv cv bp bv:Value}{Ms:List Mg}{w:World}(h:CnB P X C ms ids cur out wv iv cv bp bv Ms w){g:Nat}(h1:wv.ownBlock=some g)(h2:bv.ownBlock=some g):False:=by
 obtain⟨x,hx⟩:=h.wNe h1;obtain⟨y,hy⟩:=h.bNe h2;rw[hx] at hy;simp only[Option.some.injEq,Obj.cells.injEq] at hy;exact absurd hy.2.1 (by decide)
theorem CnB.wi{P X:Nat→Prop}{C:Nat}{ms:List (Mg×Ls)}{ids:List Int}{cur:Option (Int×Int)}{out:List UInt8}{wv iv cv bp bv:Value}{Ms:List Mg}{w:World}(h:CnB P X C ms ids cur out wv iv cv bp bv Ms w){g:Nat}(h1:wv.ownBlock=some g)(h2:fv iv=some g):False:=by
 obtain⟨x,hx⟩:=h.wNe h1;obtain⟨y,c,hy⟩:=h.iNe h2;rw[hx] at hy;cases hy
theorem CnB.bi{P X:Nat→Prop}{C:Nat}{ms:List (Mg×Ls)}{ids:List Int}{cur:Option (Int×Int)}{out:List UInt8}{wv iv cv bp bv:Value}{Ms:List Mg}{w:World}(h:CnB P X C ms ids cur out wv iv cv bp bv Ms w){g:Nat}(h1:bv.ownBlock=some g)(h2:fv iv=some g):False:=by
 obtain⟨x,hx⟩:=h.bNe h1;obtain⟨y,c,hy⟩:=h.iNe h2;rw[hx] at hy;cases hy
theorem CnB.neC{P X:Nat→Prop}{C:Nat}{ms:List (Mg×Ls)}{ids:List Int}{cur:Option (Int×Int)}{out:List UInt8}{wv iv cv bp bv:Value}{Ms:List Mg}{w:World}(h:CnB P X C ms ids cur out wv iv cv bp bv Ms w)
  {R:Array Value} (hC:w.heap[C]?=some (.cells R 62 (0,0))) {g:Nat} (hg:wv.ownBlock=some g∨bv.ownBlock=some g∨fv iv=some g):g≠C:=by
 rintro rfl;rcases hg with hg|hg|hg
 ·obtain⟨x,q⟩:=h.wNe hg;rw[hC] at q;simp only[Option.some.injEq,Obj.cells.injEq] at q;exact absurd q.2.1 (by decide)
 ·obtain⟨x,q⟩:=h.bNe hg;rw[hC] at q;simp only[Option.some.injEq,Obj.cells.injEq] at q;exact absurd q.2.1 (by decide)
 ·obtain⟨x,c,q⟩:=h.iNe hg;rw[hC] at q;cases q
structure CnK (Y X' P':Nat→Prop) (ms:List (Mg×Ls)) (ids:List Int) (cur:Option (Int×Int)) (out:List UInt8) (wv iv cv bv:Value) (Ms:List Mg) (w':World):Prop where
 own:(∀g,wv.ownBlock=some g→¬Y g)→w'.ownsRow 0 32 28 wv ms.length (cC Ms)∧∀g,wv.ownBlock=some g→X' g
 im:(∀g,fv iv=some g→¬Y g)→jC w' iv ids∧∀g,fv iv=some g→X' g
 bw:(∀g,bv.ownBlock=some g→¬Y g)→w'.ownsRow 0 5 1 bv out.length (bV out)∧∀g,bv.ownBlock=some g→X' g
 msg:eq (fun g=>P' g∧¬X' g) w' Ms ms
 cu:oF (fun g=>P' g∧¬X' g) w' cv cur
theorem CnB.parts{P X P' X' Y:Nat→Prop}{C:Nat}{ms:List (Mg×Ls)}{ids:List Int}{cur:Option (Int×Int)}{out:List UInt8}{wv iv cv bp bv:Value}{Ms:List Mg}{w w':World}(h:CnB P X C ms ids cur out wv iv cv bp bv Ms w)
  {R:Array Value} (hC:Hc w C R 62) (hk:∀g,g≠C→¬Y g→P g→g<w.heap.size→w'.heap[g]?=w.heap[g]?∧P' g∧(X g↔X' g)) (hY:∀g,Y g→X g):CnK Y X' P' ms ids cur out wv iv cv bv Ms w':=by
 have hX:∀g,(wv.ownBlock=some g∨bv.ownBlock=some g∨fv iv=some g)→X g→¬Y g→w'.heap[g]?=w.heap[g]?∧X' g:=fun g hg hx' hy=>by
  have k:=hk g (h.neC hC hg) hy (h.xP g hx') (h.lt hg);exact⟨k.1,k.2.2.1 hx'⟩
 have hP:∀g,P g∧¬X g→g<w.heap.size→w'.heap[g]?=w.heap[g]?∧P' g∧¬X' g:=fun g hg hl=>by
  have k:=hk g (fun e=>hg.2 (e▸h.xC)) (fun q=>hg.2 (hY g q)) hg.1 hl;exact⟨k.1,k.2.1,fun q=>hg.2 (k.2.2.2 q)⟩
 exact⟨fun q=>⟨gM h.own fun g hg=>(hX g (.inl hg) (h.xw g hg) (q g hg)).1,fun g hg=>(hX g (.inl hg) (h.xw g hg) (q g hg)).2⟩,
  fun q=>⟨h.im.kept fun g hg=>(hX g (.inr (.inr hg)) (h.xi g hg) (q g hg)).1,fun g hg=>(hX g (.inr (.inr hg)) (h.xi g hg) (q g hg)).2⟩,
  fun q=>⟨gM h.bw fun g hg=>(hX g (.inr (.inl hg)) (h.xb g hg) (q g hg)).1,fun g hg=>(hX g (.inr (.inl hg)) (h.xb g hg) (q g hg)).2⟩,h.msg.kept hP,h.cu.kept hP⟩
theorem CnB.kept{P X P' X':Nat→Prop}{C:Nat}{ms:List (Mg×Ls)}{ids:List Int}{cur:Option (Int×Int)}{out:List UInt8}{wv iv cv bp bv:Value}{Ms:List Mg}{w w':World}(h:CnB P X C ms ids cur out wv iv cv bp bv Ms w)
  {R:Array Value} (hC:Hc w C R 62) (hk:∀g,g≠C→P g→g<w.heap.size→w'.heap[g]?=w.heap[g]?∧P' g∧(X g↔X' g)) (hxC:X' C) (hx:∀g,X' g→P' g) (hl:∀g,X' g→g<w'.heap.size):CnB P' X' C ms ids cur out wv iv cv bp bv Ms w':=by
 have k:=h.parts (Y:=fun _=>False) hC (fun g h1 _=>hk g h1) (fun _ q=>q.elim);exact⟨(k.own fun _ _ q=>q).1,k.msg,(k.im fun _ _ q=>q).1,h.nd,k.cu,h.bq,(k.bw fun _ _ q=>q).1,(k.own fun _ _ q=>q).2,(k.im fun _ _ q=>q).2,(k.bw fun _ _ q=>q).2,hxC,hx,hl⟩
theorem CnB.app{P X:Nat→Prop}{C:Nat}{ms:List (Mg×Ls)}{ids:List Int}{cur:Option (Int×Int)}{out:List UInt8}{wv iv cv bp bv:Value}{Ms:List Mg}{w w4:World}(h:CnB P X C ms ids cur out wv iv cv bp bv Ms w)
  {R R':Array Value} (hC:Hc w C R 62) (_:Hc w4 C R' 62) {m:Mg} {y:Mg×Ls} (hm:m.pl=y.1) (hl:LsP (fun g=>P g∧¬X g) w m y.2) {g cap:Nat}
  (hown:w4.ownsRow 0 32 28 (.slice (some ⟨g,0,none⟩) (ms.length+1) cap) (ms.length+1) (cC (Ms++[m])))
  (hk:∀j,j≠C→wv.ownBlock≠some j→j<w.heap.size→w4.heap[j]?=w.heap[j]?) (hat:wv.ownBlock=some g∨w.heap.size≤g) (hs:w.heap.size≤w4.heap.size):
  CnB (fun j=>P j∨j=g) (fun j=>X j∨j=g) C (ms++[y]) ids cur out (.slice (some ⟨g,0,none⟩) (ms.length+1) cap) iv cv bp bv (Ms++[m]) w4:=by
 have hX:∀j,j<w.heap.size→wv.ownBlock≠some j→((X j∨j=g)↔X j):=fun j hj hn=>⟨fun q=>by
  rcases q with q|q
  ·exact q
  ·subst q
   rcases hat with k|k
   ·exact absurd k hn
   ·omega,.inl⟩
 have K:=h.parts (P':=fun j=>P j∨j=g) (X':=fun j=>X j∨j=g) (Y:=fun j=>wv.ownBlock=some j) (w':=w4) hC (fun j h1 h2 h3 h4=>⟨hk j h1 h2 h4,.inl h3,(hX j h4 h2).symm⟩) h.xw;have k2:=K.im fun j hj q=>h.wi q hj
 have k3:=K.bw fun j hj q=>h.wb q hj
 have hg4:g<w4.heap.size:=(hown.lt g rfl).2;refine⟨by rw[xn];exact hown,K.msg.app ⟨⟨hm,hl.kept fun j hj hlj=>?_⟩,trivial⟩,k2.1,h.nd,K.cu,h.bq,k3.1,fun j hj=>.inr (by cases hj;rfl),k2.2,k3.2,.inl h.xC,fun j q=>q.imp (h.xP j) id,fun j q=>?_⟩
 ·have hnw:wv.ownBlock≠some j:=fun e=>hj.2 (h.xw j e)
  exact⟨hk j (fun e=>hj.2 (e▸h.xC)) hnw hlj,.inl hj.1,fun q=>hj.2 ((hX j hlj hnw).1 q)⟩
 ·rcases q with q|q
  ·exact Nat.lt_of_lt_of_le (h.xl j q) hs
  ·rw[q];exact hg4
theorem CnB.lay{P X:Nat→Prop}{C:Nat}{ms:List (Mg×Ls)}{ids:List Int}{cur:Option (Int×Int)}{out:List UInt8}{wv cv bp bv:Value}{Ms:List Mg}{w w4:World}{r:Nat}(h:CnB P X C ms ids cur out wv (.map (some r)) cv bp bv Ms w)
  {R:Array Value} (hC:Hc w C R 62) {ids':List Int} (hids:jC w4 (.map (some r)) ids') (hnd:ids'.Nodup) (hk:∀j,j≠r→w4.heap[j]?=w.heap[j]?) (hs:w4.heap.size=w.heap.size):
  CnB P X C ms ids' cur out wv (.map (some r)) cv bp bv Ms w4:=by
 have K:=h.parts (P':=P) (X':=X) (Y:=fun j=>r=j) (w':=w4) hC (fun j _ h2 h3 _=>⟨hk j (fun e=>h2 e.symm),h3,Iff.rfl⟩) (fun j q=>h.xi j (by rw[←q];rfl));have k1:=K.own fun j hj q=>h.wi hj (by rw[←q];rfl)
 have k3:=K.bw fun j hj q=>h.bi hj (by rw[←q];rfl)
 exact⟨k1.1,K.msg,hids,hnd,K.cu,h.bq,k3.1,h.xw,h.xi,h.xb,h.xC,h.xP,fun j q=>by rw[hs];exact h.xl j q⟩
theorem CnB.newMap{P X:Nat→Prop}{C:Nat}{ms:List (Mg×Ls)}{cur:Option (Int×Int)}{out:List UInt8}{wv iv cv bp bv:Value}{Ms:List Mg}{w w4:World}(h:CnB P X C ms [] cur out wv iv cv bp bv Ms w)
  {R:Array Value} (hC:Hc w C R 62) {r:Nat} (hr:w.heap.size=r) (hr4:∃c,w4.heap[r]?=some (.map #[] c)) (hk:∀j,j≠C→j<w.heap.size→w4.heap[j]?=w.heap[j]?) (hs:w.heap.size<w4.heap.size):
  CnB (fun j=>P j∨j=r) (fun j=>X j∨j=r) C ms [] cur out wv (.map (some r)) cv bp bv Ms w4:=by
 have hX:∀j,j<w.heap.size→((X j∨j=r)↔X j):=fun j hj=>⟨fun q=>by
  rcases q with q|q
  ·exact q
  ·omega,.inl⟩
 have K:=h.kept (P':=fun j=>P j∨j=r) (X':=fun j=>X j∨j=r) (w':=w4) hC (fun j h1 h3 h4=>⟨hk j h1 h4,.inl h3,(hX j h4).symm⟩) (.inl h.xC) (fun j q=>q.imp (h.xP j) id) (fun j q=>by
  rcases q with q|q
  ·have:=h.xl j q;omega
  ·omega)
 obtain⟨c,hc⟩:=hr4;exact⟨K.own,K.msg,.inr ⟨r,#[],c,rfl,hc,rfl⟩,List.nodup_nil,K.cu,h.bq,K.bw,K.xw,fun j hj=>.inr (by cases hj;rfl),K.xb,K.xC,K.xP,K.xl⟩
structure CnO (P X:Nat→Prop) (C:Nat) (s:Cs) (wv iv cv bp bv:Value) (Ms:List Mg) (w:World):Prop where
 row:Hc w C (lC s.inn wv iv cv bp bv s.cl) 62
 b:CnB P X C s.ms s.ids s.cur s.out wv iv cv bp bv Ms w
def dc(P X:Nat→Prop)(C:Nat)(s:Cs)(w:World):Prop:=∃wv iv cv bp bv Ms,CnO P X C s wv iv cv bp bv Ms w
theorem CnO.at{P X:Nat→Prop}{C:Nat}{s:Cs}{wv iv cv bp bv:Value}{Ms:List Mg}{w:World}(h:CnO P X C s wv iv cv bp bv Ms w):dc P X C s w:=⟨_,_,_,_,_,_,h⟩
theorem CnO.kept{P X P' X':Nat→Prop}{C:Nat}{s:Cs}{wv iv cv bp bv:Value}{Ms:List Mg}{w w':World}(h:CnO P X C s wv iv cv bp bv Ms w)(hk:∀g,P g→g<w.heap.size→w'.heap[g]?=w.heap[g]?∧P' g∧(X g↔X' g))(hx:∀g,X' g→P' g)(hl:∀g,X' g→g<w'.heap.size):CnO P' X' C s wv iv cv bp bv Ms w':=by
 have k:=hk C (h.b.xP C h.b.xC) (gl h.row);exact⟨k.1.trans h.row,h.b.kept h.row (fun g _=>hk g) (k.2.2.1 h.b.xC) hx hl⟩
theorem CnO.bel{P X:Nat→Prop}{C:Nat}{s:Cs}{wv iv cv bp bv:Value}{Ms:List Mg}{w w':World}(h:CnO P X C s wv iv cv bp bv Ms w)(k:Bw w w'):CnO P X C s wv iv cv bp bv Ms w':=
 h.kept (fun g hg hl=>⟨k.block g hl,hg,Iff.rfl⟩) h.b.xP (fun g hg=>Nat.lt_of_lt_of_le (h.b.xl g hg) k.size)
theorem CnB.put{P X:Nat→Prop}{C:Nat}{ms:List (Mg×Ls)}{ids:List Int}{cur:Option (Int×Int)}{out:List UInt8}{wv iv cv bp bv:Value}{Ms:List Mg}{w:World}(h:CnB P X C ms ids cur out wv iv cv bp bv Ms w)
  {R:Array Value} (hC:Hc w C R 62) (i:Nat) (u:Value):CnB P X C ms ids cur out wv iv cv bp bv Ms (w.setCell ⟨C,i,none⟩ u):=
 h.kept hC (fun g hg hp _=>⟨aX w ⟨C,i,none⟩ u g hg,hp,Iff.rfl⟩) h.xC h.xP (fun g hg=>by simpa[World.setCell] using h.xl g hg)
theorem CnO.more{P X P':Nat→Prop}{C:Nat}{s:Cs}{wv iv cv bp bv:Value}{Ms:List Mg}{w:World}(h:CnO P X C s wv iv cv bp bv Ms w)(k:∀g,P g→P' g):CnO P' X C s wv iv cv bp bv Ms w:=
 h.kept (fun g hg _=>⟨rfl,k g hg,Iff.rfl⟩) (fun g hg=>k g (h.b.xP g hg)) h.b.xl
theorem dc.other{P X Z:Nat→Prop}{C:Nat}{s:Cs}{w w':World}(h:dc P X C s w)(k:Kb Z w w')(hz:∀g,g<w.heap.size→P g→¬Z g):dc (fun g=>P g∧g<w.heap.size) (fun g=>X g∧g<w.heap.size) C s w':=by
 obtain⟨wv,iv,cv,bp,bv,Ms,h⟩:=h;exact⟨wv,iv,cv,bp,bv,Ms,h.kept (fun g hg hl=>⟨k.block g hl (hz g hl hg),⟨hg,hl⟩,⟨fun q=>⟨q,hl⟩,fun q=>q.1⟩⟩) (fun g hg=>⟨h.b.xP g hg.1,hg.2⟩) (fun g hg=>Nat.lt_of_lt_of_le hg.2 k.size)⟩
theorem dc.bel{P X:Nat→Prop}{C:Nat}{s:Cs}{w w':World}(h:dc P X C s w)(k:Bw w w'):dc P X C s w':=by
 obtain⟨wv,iv,cv,bp,bv,Ms,h⟩:=h;exact(h.bel k).at
structure Nx (P X:Nat→Prop) (w:World) (P' X':Nat→Prop) (w':World):Prop where
 kb:Kb X w w'
 xs:∀j,j<w.heap.size→X' j→X j
 ps:∀j,j<w.heap.size→P' j→P j
theorem Nx.refl(P X:Nat→Prop)(w:World):Nx P X w P X w:=⟨Kb.refl _ _,fun _ _ q=>q,fun _ _ q=>q⟩
theorem Nx.trans{P X P1 X1 P2 X2:Nat→Prop}{a b c:World}(h:Nx P X a P1 X1 b)(k:Nx P1 X1 b P2 X2 c):Nx P X a P2 X2 c:=
 ⟨h.kb.step k.kb h.xs,fun j hj q=>h.xs j hj (k.xs j (Nat.lt_of_lt_of_le hj h.kb.size) q),fun j hj q=>h.ps j hj (k.ps j (Nat.lt_of_lt_of_le hj h.kb.size) q)⟩
theorem Nx.bel{P X P1 X1:Nat→Prop}{a b c:World}(h:Nx P X a P1 X1 b)(k:Bw b c):Nx P X a P1 X1 c:=h.trans ⟨.of k,fun _ _ q=>q,fun _ _ q=>q⟩
def em(P X:Nat→Prop)(C:Nat)(w:World)(s:Cs)(w':World):Prop:=∃P' X',dc P' X' C s w'∧Nx P X w P' X' w'
theorem em.trans{P X P1 X1:Nat→Prop}{C:Nat}{a b c:World}{s:Cs}(h:Nx P X a P1 X1 b)(k:em P1 X1 C b s c):em P X C a s c:=by
 obtain⟨P',X',k1,k2⟩:=k;exact⟨P',X',k1,h.trans k2⟩
theorem em.bel{P X:Nat→Prop}{C:Nat}{a b c:World}{s:Cs}(h:em P X C a s b)(k:Bw b c):em P X C a s c:=by
 obtain⟨P',X',k1,k2⟩:=h;exact⟨P',X',k1.bel k,k2.bel k⟩
structure Hm (w0:World) (X:Nat→Prop) (w:World):Prop where
 env:Env w0
 bel:Bw w0 w
 xs:∀g,X g→w0.heap.size≤g
theorem Hm.now{w0 w:World}{X:Nat→Prop}(h:Hm w0 X w):Env w:=h.env.below h.bel
theorem Hm.to{w0 w w':World}{P X P' X':Nat→Prop}(h:Hm w0 X w)(k:Nx P X w P' X' w'):Hm w0 X' w':=
 ⟨h.env,h.bel.trans (k.kb.below h.bel.size fun j hj q=>by have:=h.xs j q;omega),fun g hg=>by
  rcases Nat.lt_or_ge g w.heap.size with q|q
  ·exact h.xs g (k.xs g q hg)
  ·exact Nat.le_trans h.bel.size q⟩
theorem Hm.bels{w0 w w':World}{X:Nat→Prop}(h:Hm w0 X w)(k:Bw w w'):Hm w0 X w':=⟨h.env,h.bel.trans (k.mono h.bel.size),h.xs⟩
end Go.Proofs.YtfhghdcbofbceaaGreatDoor
