/- BerG, OcA, OcB, R1S, R1T, BerH, BerI, BerJ. -/
import Derived.OwnWalk
import Derived.Laws.OwnMore
import Derived.Defers
import Derived.Recover
import Derived.Laws.Pointers
import Derived.Test.YthjaiigijbjloaaGreatDoorW2
namespace Go.Proofs.YthjaiigijbjloaaGreatDoor
open Go.RowKit Go.Lib
set_option maxRecDepth 100000
set_option maxHeartbeats 16000000
theorem gZ(v:Nat)(hv:v≤127)(w:World):
  Cr 113 #[.int .i64 (v:Int)] w (.string ⟨#[UInt8.ofNat v]⟩):=by
 obtain⟨i0,hi0,hz0,hz1,hz2⟩:=info_parts Tryz.infoByte;have hnb:(UInt8.ofNat v).toNat=v:=by simp[UInt8.toNat_ofNat'];omega
 have HNB:=hid hnb;clear hnb
 go_enter Tryz.func113,Tryz.ntmps113
 go_wp2_with fail
 go_loopw [3] (fun n wr=>n=.int .i64 1∧wr=w) (fun _ _=>0)
 case atStart=>exact⟨rfl,rfl⟩
 case round=>
  obtain⟨rfl,hwr⟩:=hrel;have hwr':=hwr.symm;subst hwr';clear hwr
  go_wp2_with (refine wpList_make_full _ rfl (.tmp 23) (.tmp 23) 39 rfl w.heap.size 5 i0 (.int .u8 0) 1 Tryz.underlying39 hi0 hz0 hz1 .i64 .i64 1 1 1 rfl rfl rfl rfl (by rw[hz2];omega) (by unfold maxLen;omega) (ah _) ?_;intro w2 ho2 hg2)
  have hmc:(madeCells (Value.int .u8 0).cells (1*1)).toList=[.int .u8 0]:=by simp[madeCells,Value.cells]
  rw[hmc] at ho2;clear hmc;have hb2:Below w.heap.size w w2:=(ar w.heap.size w).grown hg2 (ah _) (fun b hb=>by cases hb);obtain⟨c0,z0⟩:=cJ (i:=0) (x:=.int .u8 0) ho2 rfl;have hset:=dH (i:=0) (x:=.int .u8 (v:Int)) ho2 (by decide);have HO:=hid hset;clear ho2 hg2 hset
  go_loopw [5,27] (fun _ c wx=>(c=.int .i64 0∧wx=w2)∨(c=.int .i64 1∧wx=w2.setCell ⟨w.heap.size,0,none⟩ (.int .u8 (v:Int)))) (fun _ c _=>1 -(RowKit.intOf c).toNat)
  case atStart=>exact .inl ⟨rfl,rfl⟩
  case round=>
   rcases hrel with⟨rfl,hwr⟩|⟨rfl,hwr⟩
   ·have hwr':=hwr.symm
    subst hwr';clear hwr;have hw1:(v:Int)% 18446744073709551616=(v:Int):=by omega
    have hw2:(v:Int)% 256=(v:Int):=by omega
    go_wp2_with fail
    exact⟨by simp,by simp[RowKit.intOf]⟩
   ·have hwr':=hwr.symm
    have hcv:=eI (P:=Tryz.prog) _ 39 9 5 w.heap.size _ [UInt8.ofNat v] Tryz.underlying39 Tryz.underlying5 Tryz.underlying9 (by rw[show bV [UInt8.ofNat v]=[.int .u8 (v:Int)] by simp[bV,HNB.out]];exact HO.out);rw[←hwr'] at*
    go_wp2_with fail
    go_ret
    exact⟨rfl,hb2.setCell (p:=⟨w.heap.size,0,none⟩) (ah _) _⟩
theorem ln(t:Int)(v:Nat)(hv:v≤127)(w:World):
  Cr 72 #[.int .i64 t,.int .i64 (v:Int)] w (.agg (elA (.mk 0 t false [UInt8.ofNat v] []) (.slice none 0 0))):=by
 have hb:=alb w Ze 45;have hr:=alz w Ze 45;have k:=gZ v hv (w.alloc (.cells Ze 45))
 go_enter Tryz.func72,Tryz.ntmps72
 go_wp2_with fail
 refine ag k ?_;rintro e w1 ⟨rfl,hb1⟩;have hr1:=bkk hb1 hr;have hbb:=btt hb hb1;have k2:=im t [UInt8.ofNat v] w1;clear k hr hb hb1
 go_wp2_with fail
 refine ag k2 ?_;rintro e w2 ⟨rfl,hb2⟩;have hr2:=bkk hb2 hr1;have hb3:=btt hbb hb2;clear hr1 hb2 hbb k2;have hq:=setRow_heap w2 w.heap.size _ #[I0,.int .i64 t,Bf,.string ⟨#[UInt8.ofNat v]⟩,.slice none 0 0] _ _ hr2;have hb4:=bm hb3 (g:=w.heap.size) (ah _) #[I0,.int .i64 t,Bf,.string ⟨#[UInt8.ofNat v]⟩,.slice none 0 0]
 go_wp2_with (refine bh rfl 45 (.tmp 4) (.tmp 8) rfl w.heap.size 45 _ #[I0,.int .i64 t,Bf,.string ⟨#[UInt8.ofNat v]⟩,.slice none 0 0] (by rfl) (by rfl) hr2 (by rfl) (by rfl) (by simp[Value.oneCell']) ?_)
 all_goals refine aH (v:=.agg #[I0,.int .i64 t,Bf,.string ⟨#[UInt8.ofNat v]⟩,.slice none 0 0]) ?_ rfl ⟨rfl,hb4⟩
 all_goals have hr:=aJ (P:=Tryz.prog) (w2.setRow w.heap.size #[I0,.int .i64 t,Bf,.string ⟨#[UInt8.ofNat v]⟩,.slice none 0 0]) (w.heap.size) 45 45 #[I0,.int .i64 t,Bf,.string ⟨#[UInt8.ofNat v]⟩,.slice none 0 0] (0,0) _ hq (show Tryz.prog.underlying 45=_ from Tryz.underlying45) (by rfl) (by rfl)
 all_goals simp[results,Tryz.f72]
 all_goals exact hr
theorem zo(v:Nat)(hv:v≤127)(w:World):
  Calls Tryz.prog 57 #[.string ⟨#[UInt8.ofNat v]⟩] w fun e w'=>e=.returned (.tuple #[.int .i64 (v:Int),I0])∧w'=w:=by
 have hnb:(UInt8.ofNat v).toNat=v:=by simp[UInt8.toNat_ofNat'];omega
 obtain⟨c,hc⟩:=nmm (UInt8.ofNat v);rw[hc] at hnb⊢
 go_enter Tryz.func57,Tryz.ntmps57
 go_wp2_with fail
 go_loopw [4,5] (fun x i wr=>i=.int .i64 1∧x=.int .i64 (v:Int)∧wr=w) (fun _ _ _=>0)
 case atStart=>
  refine⟨rfl,?_,rfl⟩;show Value.int .i64 (wrap64 (IntKind.i8.wrap (c.toNat:Int)))=_;have h1:IntKind.i8.wrap (v:Int)=(v:Int):=by simp[IntKind.wrap,IntKind.bits,IntKind.signed];omega
  rw[hnb,h1,IntWalk.wrap64_in _ (by omega)]
 case round=>
  obtain⟨rfl,rfl,rfl⟩:=hrel
  go_wp2_with fail
  go_ret2
  exact⟨rfl,rfl⟩
def isE(el:El)(c t:Int)(k:Bool):Bool:=decide (el.cls=c)&&decide (el.tag=t)&&(el.cons==k)
theorem kz(el:El)(u:Value)(cl t:Int)(k:Bool)(w:World)(h:bf (fun _=>True) w u el.kids):
  Cr 58 #[.agg (elA el u),.int .i64 cl,.int .i64 t,.bool k] w (.bool (isE el cl t k)):=by
 obtain⟨a,c,hf⟩:=h.shape;subst hf;clear h;have hb:=alb w #[.int .i64 el.cls,.int .i64 el.tag,.bool el.cons,.string ⟨el.bytes.toArray⟩,.slice a el.kids.length c] 45;unfold elA
 by_cases h1:el.cls=cl
 ·by_cases h2:el.tag=t
  ·obtain⟨b,h3⟩:∃b,el.cons=b:=⟨_,rfl⟩
   have hr:isE el cl t k=(b==k):=by simp[isE,h1,h2,h3]
   rw[hr];rw[h1,h2,h3] at hb;rw[h1,h2,h3];clear hr h1 h2 h3
   go_enter Tryz.func58,Tryz.ntmps58
   go_wp2_with fail
   go_ret
   exact⟨rfl,hb⟩
  ·have hr:isE el cl t k=false:=by simp[isE,h2]
   have g2:(el.tag==t)=false:=by simpa using h2
   rw[hr];rw[h1] at hb;rw[h1];clear hr h1 h2
   go_enter Tryz.func58,Tryz.ntmps58
   go_wp2_with fail
   go_ret
   exact⟨rfl,hb⟩
 ·have hr:isE el cl t k=false:=by simp[isE,h1]
  have g1:(el.cls==cl)=false:=by simpa using h1
  rw[hr];clear hr h1
  go_enter Tryz.func58,Tryz.ntmps58
  go_wp2_with fail
  go_ret
  exact⟨rfl,hb⟩
theorem pg(el:El)(u:Value)(cl t:Int)(w:World)(h:bf (fun _=>True) w u el.kids):
  Cr 166 #[.agg (elA el u),.int .i64 cl,.int .i64 t] w (if isE el cl t false then .tuple #[.string ⟨el.bytes.toArray⟩,I0] else .tuple #[Es,.int .i64 24]):=by
 obtain⟨a,c,hf⟩:=h.shape;subst hf;have b1:=alb w (Er el a c) 45;have r1:=alz w (Er el a c) 45;have k:=kz el _ cl t false _ (h.below b1);obtain⟨R,hR⟩:=nmm (isE el cl t false);rw[hR] at k⊢;unfold elA at k⊢;clear h hR;cases R
 all_goals
  simp only[if_true,aW,if_false]
  go_enter Tryz.func166,Tryz.ntmps166
  refine wp_seq ?_;refine aQ ?_;refine aB rfl (kkn ?_);generalize w.alloc (.cells (Er el a c) 45)=w1 at b1 r1 k⊢
  go_wp2_with (refine bg rfl 45 (.tmp 3) rfl w.heap.size 45 _ (0,0) (by rfl) r1 _ Tryz.underlying45 rfl (by rfl) ?_)
  refine ag k ?_;rintro e w2 ⟨rfl,hb2⟩;have r2:=bkk hb2 r1;have q3:=cval r2 3 (.string ⟨el.bytes.toArray⟩);have b2:=btt b1 hb2;clear k r1 r2 hb2 b1
  go_wp2_with fail
  go_ret2
  exact⟨rfl,b2⟩
theorem nH(el:El)(u:Value)(cl t:Int)(w:World)(h:bf (fun _=>True) w u el.kids)(hs:SmE el):
  Calls Tryz.prog 135 #[.agg (elA el u),.int .i64 cl,.int .i64 t] w fun e w'=>(∃v,e=.returned (.tuple #[v,.int .i64 (if isE el cl t true then 0 else 24)])∧bf (fun g=>w.heap.size≤g) w' v (if isE el cl t true then el.kids else[]))∧Below w.heap.size w w':=by
 obtain⟨_,sl,sk⟩:=dV hs;obtain⟨a,c,hf⟩:=h.shape;subst hf;have b1:=alb w (Er el a c) 45;have r1:=alz w (Er el a c) 45;have k:=kz el _ cl t true _ (h.below b1);obtain⟨H1,SK⟩:=Cg (h.below b1) sk;obtain⟨R,hR⟩:=nmm (isE el cl t true);rw[hR] at k⊢;unfold elA at k⊢;clear h hR sk hs;cases R
 all_goals
  simp only[if_true,aW,if_false]
  go_enter Tryz.func135,Tryz.ntmps135
  refine wp_seq ?_;refine aQ ?_;refine aB rfl (kkn ?_);generalize w.alloc (.cells (Er el a c) 45)=w1 at b1 r1 k H1⊢
  go_wp2_with (refine bg rfl 45 (.tmp 3) rfl w.heap.size 45 _ (0,0) (by rfl) r1 _ Tryz.underlying45 rfl (by rfl) ?_)
  refine ag k ?_;rintro e w2 ⟨rfl,hb2⟩;have r2:=bkk hb2 r1;have q4:=cval r2 4 (.slice a el.kids.length c);have b2:=btt b1 hb2;have kc:=xx (fT el.kids) el.kids (ah _) SK.out sl _ w2 (H1.out.below hb2);clear k r1 r2 hb2 b1 H1
 ·go_wp2_with fail
  go_ret2
  exact⟨⟨_,rfl,bf.nil _ _⟩,b2⟩
 ·go_wp2_with fail
  refine ag kc ?_;rintro e w3 ⟨⟨v,rfl,hv⟩,hb3⟩;have b3:=btt b2 hb3;have hs2:=b2.size;have HV:=hid (hv.mono (Q:=fun g=>w.heap.size≤g) (fun g hg _=>by omega));clear kc hv hb3
  go_wp2_with fail
  go_ret2
  exact⟨⟨_,rfl,HV.out⟩,b3⟩
theorem AL(c t:Int)(v:Nat)(hv:v≤127)(na:Option Addr)(nc:Nat)(w:World):
  Cr 21 #[.agg (elA (.mk c t false [UInt8.ofNat v] []) (.slice na 0 nc)),.int .i64 c,.int .i64 t] w (.tuple #[.int .i64 (v:Int),I0]):=by
 have b1:=alb w #[.int .i64 c,.int .i64 t,Bf,.string ⟨#[UInt8.ofNat v]⟩,.slice na 0 nc] 45;have r1:=alz w #[.int .i64 c,.int .i64 t,Bf,.string ⟨#[UInt8.ofNat v]⟩,.slice na 0 nc] 45;have ks:=zo v hv (w.alloc (.cells #[.int .i64 c,.int .i64 t,Bf,.string ⟨#[UInt8.ofNat v]⟩,.slice na 0 nc] 45));have k:=kz (.mk c t false [UInt8.ofNat v] []) (.slice na 0 nc) c t false (w.alloc (.cells #[.int .i64 c,.int .i64 t,Bf,.string ⟨#[UInt8.ofNat v]⟩,.slice na 0 nc] 45)) ⟨na,nc,rfl,Nat.zero_le _,fun h=>absurd rfl h⟩;have hi:isE (.mk c t false [UInt8.ofNat v] []) c t false=true:=by simp[isE,El.cls,El.tag,El.cons]
 rw[hi] at k;unfold elA at k⊢;simp only[El.cls,El.tag,El.cons,El.bytes] at k⊢;clear hi
 go_enter Tryz.func21,Tryz.ntmps21
 refine wp_seq ?_;refine aQ ?_;refine aB rfl (kkn ?_);generalize w.alloc (.cells #[.int .i64 c,.int .i64 t,Bf,.string ⟨#[UInt8.ofNat v]⟩,.slice na 0 nc] 45)=w1 at b1 r1 k ks⊢;have q3:=cval r1 3 (.string ⟨#[UInt8.ofNat v]⟩)
 go_wp2_with fail
 refine ag ks ?_;rintro e w2 ⟨rfl,rfl⟩;clear q3 ks
 go_wp2_with (refine bg rfl 45 (.tmp 3) rfl w.heap.size 45 _ (0,0) (by rfl) r1 _ Tryz.underlying45 rfl (by rfl) ?_)
 refine ag k ?_;rintro e w3 ⟨rfl,hb3⟩;have b3:=btt b1 hb3;clear k hb3 r1 b1
 go_wp2_with fail
 go_ret2
 exact⟨rfl,b3⟩
theorem vF(v:Nat)(hv:v<256)(w:World):
  Cr 159 #[.int .i64 (v:Int),.int .i64 1] w (.tuple #[.string ⟨#[UInt8.ofNat v]⟩,I0]):=by
 obtain⟨i0,hi0,hz0,hz1,hz2⟩:=info_parts Tryz.infoByte;have g0:decide ((v:Int)<0)=false:=an (by omega);have g0':(v:Int)/256=0:=by omega
 have g1:((v:Int)/256 !=0)=false:=by rw[g0'];rfl
 clear g0' hv;have g2:(v:Int)>>>(8:Nat)=(v:Int)/256:=by rw[Int.shiftRight_eq_div_pow];rfl
 go_enter Tryz.func159,Tryz.ntmps159
 go_wp2_with (refine wpList_make_full _ rfl (.tmp 25) (.tmp 25) 39 rfl w.heap.size 5 i0 (.int .u8 0) 1 Tryz.underlying39 hi0 hz0 hz1 .i64 .i64 1 1 1 rfl rfl rfl rfl (by rw[hz2];omega) (by unfold maxLen;omega) (ah _) ?_;intro w2 ho2 hg2)
 have hmc:(madeCells (Value.int .u8 0).cells (1*1)).toList=[.int .u8 0]:=by kernel_rfl
 rw[hmc] at ho2;clear hmc;have hb2:Below w.heap.size w w2:=(ar w.heap.size w).grown hg2 (ah _) (fun b hb=>by cases hb);obtain⟨c0,z0⟩:=cJ (i:=0) (x:=.int .u8 0) ho2 rfl;have ho3:=dH (i:=0) (x:=.int .u8 ((v:Int)% 256)) ho2 (by simp);have hcv:=eI (P:=Tryz.prog) _ 39 9 5 w.heap.size _ [UInt8.ofNat v] Tryz.underlying39 Tryz.underlying5 Tryz.underlying9 (by rw[show bV [UInt8.ofNat v]=[.int .u8 ((v:Int)% 256)] by simp[bV,UInt8.toNat_ofNat']];exact ho3);clear ho2 ho3 hg2 hi0 hz0 hz1 hz2;refine wp_loop_rounds 2 ?_;rw[rounds_succ]
 go_wp2_with fail
 rw[rounds_succ]
 go_wp2_with fail
 refine aH (v:=.tuple #[.string ⟨#[UInt8.ofNat v]⟩,I0]) ?_ rfl ⟨rfl,(hb2.setCell (p:=⟨w.heap.size,0,none⟩) (ah _) _)⟩
 simp[results,Tryz.f159]
theorem vG(v:Nat)(hv:v<65536)(w:World):
  Cr 159 #[.int .i64 (v:Int),.int .i64 2] w (.tuple #[.string ⟨#[UInt8.ofNat (v/256),UInt8.ofNat v]⟩,I0]):=by
 obtain⟨i0,hi0,hz0,hz1,hz2⟩:=info_parts Tryz.infoByte;have g0:decide ((v:Int)<0)=false:=an (by omega);have g0':(v:Int)/65536=0:=by omega
 have g1:((v:Int)/65536 !=0)=false:=by rw[g0'];rfl
 clear g0' hv;have g2:(v:Int)>>>(16:Nat)=(v:Int)/65536:=by rw[Int.shiftRight_eq_div_pow];rfl
 go_enter Tryz.func159,Tryz.ntmps159
 go_wp2_with (refine wpList_make_full _ rfl (.tmp 25) (.tmp 25) 39 rfl w.heap.size 5 i0 (.int .u8 0) 1 Tryz.underlying39 hi0 hz0 hz1 .i64 .i64 2 2 2 rfl rfl rfl rfl (by rw[hz2];omega) (by unfold maxLen;omega) (ah _) ?_;intro w2 ho2 hg2)
 have hmc:(madeCells (Value.int .u8 0).cells (2*1)).toList=[.int .u8 0,.int .u8 0]:=by kernel_rfl
 rw[hmc] at ho2;clear hmc;have hb2:Below w.heap.size w w2:=(ar w.heap.size w).grown hg2 (ah _) (fun b hb=>by cases hb);obtain⟨c0,z0⟩:=cJ (i:=1) (x:=.int .u8 0) ho2 rfl;have ho3:=dH (i:=1) (x:=.int .u8 ((v:Int)% 256)) ho2 (by simp);obtain⟨c1,z1⟩:=cJ (i:=0) (x:=.int .u8 0) ho3 rfl;have ho4:=dH (i:=0) (x:=.int .u8 ((v:Int)/256% 256)) ho3 (by simp);have hcv:=eI (P:=Tryz.prog) _ 39 9 5 w.heap.size _ [UInt8.ofNat (v/256),UInt8.ofNat v] Tryz.underlying39 Tryz.underlying5 Tryz.underlying9 (by rw[show bV [UInt8.ofNat (v/256),UInt8.ofNat v]=[.int .u8 ((v:Int)/256% 256),.int .u8 ((v:Int)% 256)] by simp[bV,UInt8.toNat_ofNat']];exact ho4);clear ho2 ho3 ho4 hg2 hi0 hz0 hz1 hz2;refine wp_loop_rounds 3 ?_;rw[rounds_succ]
 go_wp2_with fail
 rw[rounds_succ]
 go_wp2_with fail
 rw[rounds_succ]
 go_wp2_with fail
 refine aH (v:=.tuple #[.string ⟨#[UInt8.ofNat (v/256),UInt8.ofNat v]⟩,I0]) ?_ rfl ⟨rfl,((hb2.setCell (p:=⟨w.heap.size,1,none⟩) (ah _) _).setCell (p:=⟨w.heap.size,0,none⟩) (ah _) _)⟩
 simp[results,Tryz.f159]
theorem vH(v:Nat)(hv:v<16777216)(w:World):
  Cr 159 #[.int .i64 (v:Int),.int .i64 3] w (.tuple #[.string ⟨#[UInt8.ofNat (v/65536),UInt8.ofNat (v/256),UInt8.ofNat v]⟩,I0]):=by
 obtain⟨i0,hi0,hz0,hz1,hz2⟩:=info_parts Tryz.infoByte;have g0:decide ((v:Int)<0)=false:=an (by omega);have g0':(v:Int)/16777216=0:=by omega
 have g1:((v:Int)/16777216 !=0)=false:=by rw[g0'];rfl
 clear g0' hv;have g2:(v:Int)>>>(24:Nat)=(v:Int)/16777216:=by rw[Int.shiftRight_eq_div_pow];rfl
 go_enter Tryz.func159,Tryz.ntmps159
 go_wp2_with (refine wpList_make_full _ rfl (.tmp 25) (.tmp 25) 39 rfl w.heap.size 5 i0 (.int .u8 0) 1 Tryz.underlying39 hi0 hz0 hz1 .i64 .i64 3 3 3 rfl rfl rfl rfl (by rw[hz2];omega) (by unfold maxLen;omega) (ah _) ?_;intro w2 ho2 hg2)
 have hmc:(madeCells (Value.int .u8 0).cells (3*1)).toList=[.int .u8 0,.int .u8 0,.int .u8 0]:=by kernel_rfl
 rw[hmc] at ho2;clear hmc;have hb2:Below w.heap.size w w2:=(ar w.heap.size w).grown hg2 (ah _) (fun b hb=>by cases hb);obtain⟨c0,z0⟩:=cJ (i:=2) (x:=.int .u8 0) ho2 rfl;have ho3:=dH (i:=2) (x:=.int .u8 ((v:Int)% 256)) ho2 (by simp);obtain⟨c1,z1⟩:=cJ (i:=1) (x:=.int .u8 0) ho3 rfl;have ho4:=dH (i:=1) (x:=.int .u8 ((v:Int)/256% 256)) ho3 (by simp);obtain⟨c2,z2⟩:=cJ (i:=0) (x:=.int .u8 0) ho4 rfl;have ho5:=dH (i:=0) (x:=.int .u8 ((v:Int)/65536% 256)) ho4 (by simp);have hcv:=eI (P:=Tryz.prog) _ 39 9 5 w.heap.size _ [UInt8.ofNat (v/65536),UInt8.ofNat (v/256),UInt8.ofNat v] Tryz.underlying39 Tryz.underlying5 Tryz.underlying9 (by rw[show bV [UInt8.ofNat (v/65536),UInt8.ofNat (v/256),UInt8.ofNat v]=[.int .u8 ((v:Int)/65536% 256),.int .u8 ((v:Int)/256% 256),.int .u8 ((v:Int)% 256)] by simp[bV,UInt8.toNat_ofNat']];exact ho5);clear ho2 ho3 ho4 ho5 hg2 hi0 hz0 hz1 hz2;refine wp_loop_rounds 4 ?_;rw[rounds_succ]
 go_wp2_with fail
 rw[rounds_succ]
 go_wp2_with fail
 rw[rounds_succ]
 go_wp2_with fail
 rw[rounds_succ]
 go_wp2_with fail
 refine aH (v:=.tuple #[.string ⟨#[UInt8.ofNat (v/65536),UInt8.ofNat (v/256),UInt8.ofNat v]⟩,I0]) ?_ rfl ⟨rfl,(((hb2.setCell (p:=⟨w.heap.size,2,none⟩) (ah _) _).setCell (p:=⟨w.heap.size,1,none⟩) (ah _) _).setCell (p:=⟨w.heap.size,0,none⟩) (ah _) _)⟩
 simp[results,Tryz.f159]
theorem Bh(n:Nat)(h1:128≤n)(h2:n<256)(w:World):Cr 109 #[.int .i64 (n:Int)] w (.string ⟨(cd n).toArray⟩):=by
 have hl:(⟨(cd n).toArray⟩:ByteArray)=⟨#[129]⟩++⟨#[UInt8.ofNat n]⟩:=by
  unfold cd;rw[if_neg (by omega)];rw[if_pos (by omega)]
  rfl
 rw[hl];have g1:decide ((n:Int)<128)=false:=an (by omega);have t1':(n:Int)/256=0:=by omega
 have t1:((n:Int)/256 !=0)=false:=by rw[t1'];rfl
 clear t1';have kp:=vF n h2 w;clear hl h1 h2
 go_enter Tryz.func109,Tryz.ntmps109
 go_wp2_with fail
 refine wp_loop_rounds 1 ?_;rw[rounds_succ]
 go_wp2_with fail
 refine ag kp ?_;rintro e w2 ⟨rfl,b2⟩;clear kp;have hcv:(convert 39 9 (.slice (some ⟨w2.heap.size,0,none⟩) 1 1)).run Tryz.prog (w2.alloc (.cells #[.int .u8 129] 5))=.ok (.string ⟨#[129]⟩) (w2.alloc (.cells #[.int .u8 129] 5)):=
  eU _ _ _ 5 _ 1 [129] Tryz.underlying39 Tryz.underlying5 Tryz.underlying9 (by rw[show bV [129]=[.int .u8 129] by rfl];exact World.news_of_block (bi _ _ _ rfl))
 have b3:Below w.heap.size w (w2.alloc (.cells #[.int .u8 129] 5)):=b2.alloc b2.size _
 go_wp2_with fail
 go_ret
 exact⟨rfl,b3⟩
theorem Bi(n:Nat)(h1:256≤n)(h2:n<65536)(w:World):Cr 109 #[.int .i64 (n:Int)] w (.string ⟨(cd n).toArray⟩):=by
 have hl:(⟨(cd n).toArray⟩:ByteArray)=⟨#[130]⟩++⟨#[UInt8.ofNat (n/256),UInt8.ofNat n]⟩:=by
  unfold cd;rw[if_neg (by omega)];rw[if_neg (by omega)];rw[if_pos (by omega)]
  rfl
 rw[hl];have g1:decide ((n:Int)<128)=false:=an (by omega);have t1':¬(n:Int)/256=0:=by omega
 have t1:((n:Int)/256 !=0)=true:=by simpa using t1'
 have t2':(n:Int)/65536=0:=by omega
 have t2:((n:Int)/65536 !=0)=false:=by rw[t2'];rfl
 clear t1' t2';have kp:=vG n h2 w;clear hl h1 h2
 go_enter Tryz.func109,Tryz.ntmps109
 go_wp2_with fail
 refine wp_loop_rounds 2 ?_;rw[rounds_succ]
 go_wp2_with fail
 rw[rounds_succ]
 go_wp2_with fail
 refine ag kp ?_;rintro e w2 ⟨rfl,b2⟩;clear kp;have hcv:(convert 39 9 (.slice (some ⟨w2.heap.size,0,none⟩) 1 1)).run Tryz.prog (w2.alloc (.cells #[.int .u8 130] 5))=.ok (.string ⟨#[130]⟩) (w2.alloc (.cells #[.int .u8 130] 5)):=
  eU _ _ _ 5 _ 1 [130] Tryz.underlying39 Tryz.underlying5 Tryz.underlying9 (by rw[show bV [130]=[.int .u8 130] by rfl];exact World.news_of_block (bi _ _ _ rfl))
 have b3:Below w.heap.size w (w2.alloc (.cells #[.int .u8 130] 5)):=b2.alloc b2.size _
 go_wp2_with fail
 go_ret
 exact⟨rfl,b3⟩
theorem sv(n:Nat)(h1:65536≤n)(h2:n<16777216)(w:World):Cr 109 #[.int .i64 (n:Int)] w (.string ⟨(cd n).toArray⟩):=by
 have hl:(⟨(cd n).toArray⟩:ByteArray)=⟨#[131]⟩++⟨#[UInt8.ofNat (n/65536),UInt8.ofNat (n/256),UInt8.ofNat n]⟩:=by
  unfold cd;rw[if_neg (by omega)];rw[if_neg (by omega)];rw[if_neg (by omega)]
  rfl
 rw[hl];have g1:decide ((n:Int)<128)=false:=an (by omega);have t1':¬(n:Int)/256=0:=by omega
 have t1:((n:Int)/256 !=0)=true:=by simpa using t1'
 have t2':¬(n:Int)/65536=0:=by omega
 have t2:((n:Int)/65536 !=0)=true:=by simpa using t2'
 have t3':(n:Int)/16777216=0:=by omega
 have t3:((n:Int)/16777216 !=0)=false:=by rw[t3'];rfl
 clear t1' t2' t3';have kp:=vH n h2 w;clear hl h1 h2
 go_enter Tryz.func109,Tryz.ntmps109
 go_wp2_with fail
 refine wp_loop_rounds 3 ?_;rw[rounds_succ]
 go_wp2_with fail
 rw[rounds_succ]
 go_wp2_with fail
 rw[rounds_succ]
 go_wp2_with fail
 refine ag kp ?_;rintro e w2 ⟨rfl,b2⟩;clear kp;have hcv:(convert 39 9 (.slice (some ⟨w2.heap.size,0,none⟩) 1 1)).run Tryz.prog (w2.alloc (.cells #[.int .u8 131] 5))=.ok (.string ⟨#[131]⟩) (w2.alloc (.cells #[.int .u8 131] 5)):=
  eU _ _ _ 5 _ 1 [131] Tryz.underlying39 Tryz.underlying5 Tryz.underlying9 (by rw[show bV [131]=[.int .u8 131] by rfl];exact World.news_of_block (bi _ _ _ rfl))
 have b3:Below w.heap.size w (w2.alloc (.cells #[.int .u8 131] 5)):=b2.alloc b2.size _
 go_wp2_with fail
 go_ret
 exact⟨rfl,b3⟩
theorem pC:jw 65537:=by
 intro n hn w
 by_cases h1:n<128
 ·exact mx n (by omega) w
 ·by_cases h2:n<256
  ·exact Bh n (by omega) h2 w
  ·by_cases h3:n<65536
   ·exact Bi n (by omega) h3 w
   ·exact sv n (by omega) (by omega) w
def sgB(v:Nat):List UInt8:=
 if v<128 then[UInt8.ofNat v] else if v<32768 then[UInt8.ofNat (v/256),UInt8.ofNat v] else if v<8388608 then[UInt8.ofNat (v/65536),UInt8.ofNat (v/256),UInt8.ofNat v] else[UInt8.ofNat (v/16777216),UInt8.ofNat (v/65536),UInt8.ofNat (v/256),UInt8.ofNat v]
theorem nT(v:Nat)(hlo:128≤v)(hv:v<32768)(w:World):
  Cr 113 #[.int .i64 (v:Int)] w (.string ⟨#[UInt8.ofNat (v/256),UInt8.ofNat v]⟩):=by
 obtain⟨i0,hi0,hz0,hz1,hz2⟩:=info_parts Tryz.infoByte;have u0:(v:Int)% 18446744073709551616=(v:Int):=by omega
 have n1:((v:Int) !=wrap64 ((v:Int)*72057594037927936)/72057594037927936)=true:=by
  unfold wrap64;simp only[bne_iff_ne,ne_eq];omega
 have n2:((v:Int) !=wrap64 ((v:Int)*281474976710656)/281474976710656)=false:=by
  unfold wrap64;simp only[bne_eq_false_iff_eq];omega
 go_enter Tryz.func113,Tryz.ntmps113
 go_wp2_with fail
 refine wp_loop_rounds 2 ?_;rw[rounds_succ]
 go_wp2_with (refine wpList_make_full _ rfl (.tmp 23) (.tmp 23) 39 rfl w.heap.size 5 i0 (.int .u8 0) 1 Tryz.underlying39 hi0 hz0 hz1 .i64 .i64 2 2 2 rfl rfl rfl rfl (by rw[hz2];omega) (by unfold maxLen;omega) (ah _) ?_;intro w2 ho2 hg2)
 rw[rounds_succ]
 go_wp2_with (refine wpList_make_full _ rfl (.tmp 23) (.tmp 23) 39 rfl w.heap.size 5 i0 (.int .u8 0) 1 Tryz.underlying39 hi0 hz0 hz1 .i64 .i64 2 2 2 rfl rfl rfl rfl (by rw[hz2];omega) (by unfold maxLen;omega) (ah _) ?_;intro w2 ho2 hg2)
 clear hlo hv;have hmc:(madeCells (Value.int .u8 0).cells (2*1)).toList=[.int .u8 0,.int .u8 0]:=by kernel_rfl
 rw[hmc] at ho2;clear hmc;have hb2:Below w.heap.size w w2:=(ar w.heap.size w).grown hg2 (ah _) (fun b hb=>by cases hb);obtain⟨c0,z0⟩:=cJ (i:=1) (x:=.int .u8 0) ho2 rfl;have ho3:=dH (i:=1) (x:=.int .u8 ((v:Int)% 256)) ho2 (by simp);obtain⟨c1,z1⟩:=cJ (i:=0) (x:=.int .u8 0) ho3 rfl;have ho4:=dH (i:=0) (x:=.int .u8 ((v:Int)/256% 256)) ho3 (by simp);have hcv:=eI (P:=Tryz.prog) _ 39 9 5 w.heap.size _ [UInt8.ofNat (v/256),UInt8.ofNat v] Tryz.underlying39 Tryz.underlying5 Tryz.underlying9 (by rw[show bV [UInt8.ofNat (v/256),UInt8.ofNat v]=[.int .u8 ((v:Int)/256% 256),.int .u8 ((v:Int)% 256)] by simp[bV,UInt8.toNat_ofNat']];exact ho4);clear ho2 ho3 ho4 hg2 hi0 hz0 hz1 hz2;refine wp_loop_rounds 3 ?_;rw[rounds_succ]
 go_wp2_with fail
 rw[rounds_succ]
 go_wp2_with fail
 rw[rounds_succ]
 go_wp2_with fail
 go_ret
 exact⟨rfl,((hb2.setCell (p:=⟨w.heap.size,1,none⟩) (ah _) _).setCell (p:=⟨w.heap.size,0,none⟩) (ah _) _)⟩
theorem nU(v:Nat)(hlo:32768≤v)(hv:v<8388608)(w:World):
  Cr 113 #[.int .i64 (v:Int)] w (.string ⟨#[UInt8.ofNat (v/65536),UInt8.ofNat (v/256),UInt8.ofNat v]⟩):=by
 obtain⟨i0,hi0,hz0,hz1,hz2⟩:=info_parts Tryz.infoByte;have u0:(v:Int)% 18446744073709551616=(v:Int):=by omega
 have n1:((v:Int) !=wrap64 ((v:Int)*72057594037927936)/72057594037927936)=true:=by
  unfold wrap64;simp only[bne_iff_ne,ne_eq];omega
 have n2:((v:Int) !=wrap64 ((v:Int)*281474976710656)/281474976710656)=true:=by
  unfold wrap64;simp only[bne_iff_ne,ne_eq];omega
 have n3:((v:Int) !=wrap64 ((v:Int)*1099511627776)/1099511627776)=false:=by
  unfold wrap64;simp only[bne_eq_false_iff_eq];omega
 go_enter Tryz.func113,Tryz.ntmps113
 go_wp2_with fail
 refine wp_loop_rounds 3 ?_;rw[rounds_succ]
 go_wp2_with (refine wpList_make_full _ rfl (.tmp 23) (.tmp 23) 39 rfl w.heap.size 5 i0 (.int .u8 0) 1 Tryz.underlying39 hi0 hz0 hz1 .i64 .i64 3 3 3 rfl rfl rfl rfl (by rw[hz2];omega) (by unfold maxLen;omega) (ah _) ?_;intro w2 ho2 hg2)
 rw[rounds_succ]
 go_wp2_with (refine wpList_make_full _ rfl (.tmp 23) (.tmp 23) 39 rfl w.heap.size 5 i0 (.int .u8 0) 1 Tryz.underlying39 hi0 hz0 hz1 .i64 .i64 3 3 3 rfl rfl rfl rfl (by rw[hz2];omega) (by unfold maxLen;omega) (ah _) ?_;intro w2 ho2 hg2)
 rw[rounds_succ]
 go_wp2_with (refine wpList_make_full _ rfl (.tmp 23) (.tmp 23) 39 rfl w.heap.size 5 i0 (.int .u8 0) 1 Tryz.underlying39 hi0 hz0 hz1 .i64 .i64 3 3 3 rfl rfl rfl rfl (by rw[hz2];omega) (by unfold maxLen;omega) (ah _) ?_;intro w2 ho2 hg2)
 clear hlo hv;have hmc:(madeCells (Value.int .u8 0).cells (3*1)).toList=[.int .u8 0,.int .u8 0,.int .u8 0]:=by kernel_rfl
 rw[hmc] at ho2;clear hmc;have hb2:Below w.heap.size w w2:=(ar w.heap.size w).grown hg2 (ah _) (fun b hb=>by cases hb);obtain⟨c0,z0⟩:=cJ (i:=2) (x:=.int .u8 0) ho2 rfl;have ho3:=dH (i:=2) (x:=.int .u8 ((v:Int)% 256)) ho2 (by simp);obtain⟨c1,z1⟩:=cJ (i:=1) (x:=.int .u8 0) ho3 rfl;have ho4:=dH (i:=1) (x:=.int .u8 ((v:Int)/256% 256)) ho3 (by simp);obtain⟨c2,z2⟩:=cJ (i:=0) (x:=.int .u8 0) ho4 rfl;have ho5:=dH (i:=0) (x:=.int .u8 ((v:Int)/65536% 256)) ho4 (by simp);have hcv:=eI (P:=Tryz.prog) _ 39 9 5 w.heap.size _ [UInt8.ofNat (v/65536),UInt8.ofNat (v/256),UInt8.ofNat v] Tryz.underlying39 Tryz.underlying5 Tryz.underlying9 (by rw[show bV [UInt8.ofNat (v/65536),UInt8.ofNat (v/256),UInt8.ofNat v]=[.int .u8 ((v:Int)/65536% 256),.int .u8 ((v:Int)/256% 256),.int .u8 ((v:Int)% 256)] by simp[bV,UInt8.toNat_ofNat']];exact ho5);clear ho2 ho3 ho4 ho5 hg2 hi0 hz0 hz1 hz2;refine wp_loop_rounds 4 ?_;rw[rounds_succ]
 go_wp2_with fail
 rw[rounds_succ]
 go_wp2_with fail
 rw[rounds_succ]
 go_wp2_with fail
 rw[rounds_succ]
 go_wp2_with fail
 go_ret
 exact⟨rfl,(((hb2.setCell (p:=⟨w.heap.size,2,none⟩) (ah _) _).setCell (p:=⟨w.heap.size,1,none⟩) (ah _) _).setCell (p:=⟨w.heap.size,0,none⟩) (ah _) _)⟩
theorem nV(v:Nat)(hlo:8388608≤v)(hv:v<2147483648)(w:World):
  Cr 113 #[.int .i64 (v:Int)] w (.string ⟨#[UInt8.ofNat (v/16777216),UInt8.ofNat (v/65536),UInt8.ofNat (v/256),UInt8.ofNat v]⟩):=by
 obtain⟨i0,hi0,hz0,hz1,hz2⟩:=info_parts Tryz.infoByte;have u0:(v:Int)% 18446744073709551616=(v:Int):=by omega
 have n1:((v:Int) !=wrap64 ((v:Int)*72057594037927936)/72057594037927936)=true:=by
  unfold wrap64;simp only[bne_iff_ne,ne_eq];omega
 have n2:((v:Int) !=wrap64 ((v:Int)*281474976710656)/281474976710656)=true:=by
  unfold wrap64;simp only[bne_iff_ne,ne_eq];omega
 have n3:((v:Int) !=wrap64 ((v:Int)*1099511627776)/1099511627776)=true:=by
  unfold wrap64;simp only[bne_iff_ne,ne_eq];omega
 have n4:((v:Int) !=wrap64 ((v:Int)*4294967296)/4294967296)=false:=by
  unfold wrap64;simp only[bne_eq_false_iff_eq];omega
 go_enter Tryz.func113,Tryz.ntmps113
 go_wp2_with fail
 refine wp_loop_rounds 4 ?_;rw[rounds_succ]
 go_wp2_with (refine wpList_make_full _ rfl (.tmp 23) (.tmp 23) 39 rfl w.heap.size 5 i0 (.int .u8 0) 1 Tryz.underlying39 hi0 hz0 hz1 .i64 .i64 4 4 4 rfl rfl rfl rfl (by rw[hz2];omega) (by unfold maxLen;omega) (ah _) ?_;intro w2 ho2 hg2)
 rw[rounds_succ]
 go_wp2_with (refine wpList_make_full _ rfl (.tmp 23) (.tmp 23) 39 rfl w.heap.size 5 i0 (.int .u8 0) 1 Tryz.underlying39 hi0 hz0 hz1 .i64 .i64 4 4 4 rfl rfl rfl rfl (by rw[hz2];omega) (by unfold maxLen;omega) (ah _) ?_;intro w2 ho2 hg2)
 rw[rounds_succ]
 go_wp2_with (refine wpList_make_full _ rfl (.tmp 23) (.tmp 23) 39 rfl w.heap.size 5 i0 (.int .u8 0) 1 Tryz.underlying39 hi0 hz0 hz1 .i64 .i64 4 4 4 rfl rfl rfl rfl (by rw[hz2];omega) (by unfold maxLen;omega) (ah _) ?_;intro w2 ho2 hg2)
 rw[rounds_succ]
 go_wp2_with (refine wpList_make_full _ rfl (.tmp 23) (.tmp 23) 39 rfl w.heap.size 5 i0 (.int .u8 0) 1 Tryz.underlying39 hi0 hz0 hz1 .i64 .i64 4 4 4 rfl rfl rfl rfl (by rw[hz2];omega) (by unfold maxLen;omega) (ah _) ?_;intro w2 ho2 hg2)
 clear hlo hv;have hmc:(madeCells (Value.int .u8 0).cells (4*1)).toList=[.int .u8 0,.int .u8 0,.int .u8 0,.int .u8 0]:=by kernel_rfl
 rw[hmc] at ho2;clear hmc;have hb2:Below w.heap.size w w2:=(ar w.heap.size w).grown hg2 (ah _) (fun b hb=>by cases hb);obtain⟨c0,z0⟩:=cJ (i:=3) (x:=.int .u8 0) ho2 rfl;have ho3:=dH (i:=3) (x:=.int .u8 ((v:Int)% 256)) ho2 (by simp);obtain⟨c1,z1⟩:=cJ (i:=2) (x:=.int .u8 0) ho3 rfl;have ho4:=dH (i:=2) (x:=.int .u8 ((v:Int)/256% 256)) ho3 (by simp);obtain⟨c2,z2⟩:=cJ (i:=1) (x:=.int .u8 0) ho4 rfl;have ho5:=dH (i:=1) (x:=.int .u8 ((v:Int)/65536% 256)) ho4 (by simp);obtain⟨c3,z3⟩:=cJ (i:=0) (x:=.int .u8 0) ho5 rfl;have ho6:=dH (i:=0) (x:=.int .u8 ((v:Int)/16777216% 256)) ho5 (by simp);have hcv:=eI (P:=Tryz.prog) _ 39 9 5 w.heap.size _ [UInt8.ofNat (v/16777216),UInt8.ofNat (v/65536),UInt8.ofNat (v/256),UInt8.ofNat v] Tryz.underlying39 Tryz.underlying5 Tryz.underlying9 (by rw[show bV [UInt8.ofNat (v/16777216),UInt8.ofNat (v/65536),UInt8.ofNat (v/256),UInt8.ofNat v]=[.int .u8 ((v:Int)/16777216% 256),.int .u8 ((v:Int)/65536% 256),.int .u8 ((v:Int)/256% 256),.int .u8 ((v:Int)% 256)] by simp[bV,UInt8.toNat_ofNat']];exact ho6);clear ho2 ho3 ho4 ho5 ho6 hg2 hi0 hz0 hz1 hz2;refine wp_loop_rounds 5 ?_;rw[rounds_succ]
 go_wp2_with fail
 rw[rounds_succ]
 go_wp2_with fail
 rw[rounds_succ]
 go_wp2_with fail
 rw[rounds_succ]
 go_wp2_with fail
 rw[rounds_succ]
 go_wp2_with fail
 go_ret
 exact⟨rfl,((((hb2.setCell (p:=⟨w.heap.size,3,none⟩) (ah _) _).setCell (p:=⟨w.heap.size,2,none⟩) (ah _) _).setCell (p:=⟨w.heap.size,1,none⟩) (ah _) _).setCell (p:=⟨w.heap.size,0,none⟩) (ah _) _)⟩
theorem lV(v:Nat)(hv:v≤2147483647)(w:World):
  Cr 113 #[.int .i64 (v:Int)] w (.string ⟨(sgB v).toArray⟩):=by
 unfold sgB
 split
 ·exact gZ v (by omega) w
 ·split
  ·exact nT v (by omega) (by omega) w
  ·split
   ·exact nU v (by omega) (by omega) w
   ·exact nV v (by omega) (by omega) w
theorem eg(v:Nat):1≤(sgB v).length∧(sgB v).length≤4:=by
 unfold sgB
 repeat' split
 all_goals simp
theorem eO(t:Int)(v:Nat)(hv:v≤2147483647)(w:World):
  Cr 72 #[.int .i64 t,.int .i64 (v:Int)] w (.agg (elA (.mk 0 t false (sgB v) []) (.slice none 0 0))):=by
 have hb:=alb w Ze 45;have hr:=alz w Ze 45;have k:=lV v hv (w.alloc (.cells Ze 45));obtain⟨bs,hbs⟩:=nmm (sgB v);rw[hbs] at k⊢;clear hbs
 go_enter Tryz.func72,Tryz.ntmps72
 go_wp2_with fail
 refine ag k ?_;rintro e w1 ⟨rfl,hb1⟩;have hr1:=bkk hb1 hr;have hbb:=btt hb hb1;have k2:=im t bs w1;clear k hr hb hb1
 go_wp2_with fail
 refine ag k2 ?_;rintro e w2 ⟨rfl,hb2⟩;have hr2:=bkk hb2 hr1;have hb3:=btt hbb hb2;clear hr1 hb2 hbb k2;have hq:=setRow_heap w2 w.heap.size _ #[I0,.int .i64 t,Bf,.string ⟨bs.toArray⟩,.slice none 0 0] _ _ hr2;have hb4:=bm hb3 (g:=w.heap.size) (ah _) #[I0,.int .i64 t,Bf,.string ⟨bs.toArray⟩,.slice none 0 0]
 go_wp2_with (refine bh rfl 45 (.tmp 4) (.tmp 8) rfl w.heap.size 45 _ #[I0,.int .i64 t,Bf,.string ⟨bs.toArray⟩,.slice none 0 0] (by rfl) (by rfl) hr2 (by rfl) (by rfl) (by simp[Value.oneCell']) ?_)
 all_goals refine aH (v:=.agg #[I0,.int .i64 t,Bf,.string ⟨bs.toArray⟩,.slice none 0 0]) ?_ rfl ⟨rfl,hb4⟩
 all_goals have hr:=aJ (P:=Tryz.prog) (w2.setRow w.heap.size #[I0,.int .i64 t,Bf,.string ⟨bs.toArray⟩,.slice none 0 0]) (w.heap.size) 45 45 #[I0,.int .i64 t,Bf,.string ⟨bs.toArray⟩,.slice none 0 0] (0,0) _ hq (show Tryz.prog.underlying 45=_ from Tryz.underlying45) (by rfl) (by rfl)
 all_goals simp[results,Tryz.f72]
 all_goals exact hr
theorem AM(l:List UInt8)(k:Nat)(c:UInt8)(h:l[k]?=some c)(hk:k<(⟨l.toArray⟩:ByteArray).size):(⟨l.toArray⟩:ByteArray)[k]'hk=c:=by
 obtain⟨h1,h2⟩:=List.getElem?_eq_some_iff.1 h;show l.toArray[k]=c
 simpa using h2
def sgF:Int→List UInt8→Int
 |v,[]=>v
 |v,b::r=>sgF (v*256+(b.toNat:Int)) r
def xB(k:Nat):Nat:=256^k
theorem xL:xB 0=1:=rfl
theorem yL(k:Nat):xB (k+1)=xB k*256:=Nat.pow_succ ..
theorem By{k:Nat}(h:k≤6):xB k≤281474976710656:=by
 have h6:xB 6=281474976710656:=by simp only[yL,xL]
 rw[←h6];exact Nat.pow_le_pow_right (by decide) h
def Bn(w:World)(S:List UInt8)(ANS:Int)(v i:Value)(wr:World):Prop:=
 ∃(k:Nat) (V:Int),v=.int .i64 V∧i=.int .i64 (k:Int)∧k≤S.length∧-(xB k:Int)≤V∧V<(xB k:Int)∧sgF V (S.drop k)=ANS∧wr=w
theorem zI(b:UInt8)(r:List UInt8)(h6:r.length≤5)(s:Int)(hs:s=if b.toNat<128 then 0 else -1)(w:World):
  Calls Tryz.prog 163 #[.string ⟨(b::r).toArray⟩] w fun e w'=>e=.returned (.tuple #[.int .i64 (sgF s (b::r)),I0])∧w'=w:=by
 obtain⟨S,hS⟩:=nmm (b::r);have hl:S.length=r.length+1:=by rw[←hS];rfl
 have hp0:0<(⟨S.toArray⟩:ByteArray).size:=by rw[Lib.size_mk];omega
 have e0:=AM S 0 b (by rw[←hS];rfl) hp0;rw[hS];obtain⟨ANS,hA⟩:=nmm (sgF s S);rw[hA];have f1:decide ((S.length:Int)<1)=false:=an (by omega);have f2:decide ((8:Int)<(S.length:Int))=false:=an (by omega);have f3:decide ((S.length:Int)>8)=false:=an (by omega);have f4:(0:Int)<(S.length:Int):=by omega
 have h7:S.length≤6:=by omega
 have HL:=hid h7;obtain⟨t,ht⟩:=nmm (decide ((b.toNat:Int)≥128));have ht2:decide ((128:Int)≤(b.toNat:Int))=t:=ht;have hst:s=if t then -1 else 0:=by
  rw[hs,←ht]
  by_cases hb:b.toNat<128
  ·rw[if_pos hb,an (by omega)];rfl
  ·rw[if_neg hb,aL (by omega)];rfl
 have HA:=hid hA;clear hS hA hl hs h7;cases t
 all_goals
  simp only[if_true,aW,if_false] at hst;subst hst
  go_enter Tryz.func163,Tryz.ntmps163
  go_wp2_with fail
  go_loopw [4,5] (fun v i wr=>Bn w S ANS v i wr) (fun _ i _=>S.length -(RowKit.intOf i).toNat)
  case atStart=>exact⟨0,_,rfl,rfl,Nat.zero_le _,by rw[xL];omega,by rw[xL];omega,HA.out,rfl⟩
  case round=>
   clear e0 HA;obtain⟨k,V,rfl,rfl,hk,hlo,hhi,hans,hw⟩:=hrel;rw[hw];clear hw
   by_cases hkl:k<S.length
   ·obtain⟨c,hc⟩:∃c,S[k]?=some c:=⟨_,bp hkl⟩
    have hp1:k<(⟨S.toArray⟩:ByteArray).size:=by rw[Lib.size_mk];omega
    have e1:=AM S k c hc hp1;have hc8:=UInt8.toNat_lt c;have hpow:=yL k;have hk6:k≤6:=by have:=HL.out;omega
    have hmax:=By hk6;obtain⟨P,hP⟩:=nmm (xB k);obtain⟨P1,hP1⟩:=nmm (xB (k+1));rw[hP] at hlo hhi hmax hpow;rw[hP1] at hpow;have i1:(k:Int)<(S.length:Int):=by omega
    have i2:decide ((k:Int)<(S.length:Int))=true:=aL i1;have hw1:IntKind.i64.wrap (V*256)=V*256:=by rw[aK];omega
    have hw2:IntKind.i64.wrap (V*256+(c.toNat:Int))=V*256+(c.toNat:Int):=by rw[aK];omega
    have hw3:IntKind.i64.wrap (c.toNat:Int)=(c.toNat:Int):=by rw[aK];omega
    have hd:S.drop k=c::S.drop (k+1):=by
     rw[List.drop_eq_getElem_cons hkl];have:=bp hkl;rw[hc] at this;cases this
     rfl
    rw[hd] at hans;simp only[sgF] at hans;have HE:=hid (show Bn w S ANS (.int .i64 (V*256+(c.toNat:Int))) (.int .i64 ((k:Int)+1)) w from⟨k+1,_,rfl,rfl,hkl,by rw[hP1];omega,by rw[hP1];omega,hans,rfl⟩);clear hd hans hlo hhi hpow hmax hP hP1 hc
    go_wp2_with fail
    exact⟨HE.out,by simp[RowKit.intOf];omega⟩
   ·obtain rfl:k=S.length:=by omega
    rw[List.drop_of_length_le (ah _)] at hans;simp only[sgF] at hans;subst hans;have i1:decide ((S.length:Int)<(S.length:Int))=false:=an (by omega);clear hlo hhi
    go_wp2_with fail
    go_ret2
    exact⟨rfl,rfl⟩
def beB:Nat→Nat→List UInt8
 |0,_=>[]
 |m+1,v=>UInt8.ofNat (v/256^m)::beB m v
theorem wT:∀m v,(beB m v).length=m
 |0,_=>rfl
 |m+1,v=>by simp[beB,wT m v]
theorem zP:∀(m:Nat) (c:Int) (v:Nat),sgF c (beB m v)=c*((256^m:Nat):Int)+((v% 256^m:Nat):Int)
 |0,c,v=>by simp[beB,sgF,Nat.mod_one]
 |m+1,c,v=>by
  simp only[beB,sgF];rw[zP m];have h1:(UInt8.ofNat (v/256^m)).toNat=v/256^m% 256:=by simp[UInt8.toNat_ofNat']
  rw[h1];have h2:v% 256^(m+1)=v% 256^m+256^m*(v/256^m% 256):=by rw[Nat.pow_succ,Nat.mod_mul]
  rw[h2,Nat.pow_succ];generalize v/256^m% 256=q;generalize v% 256^m=r;generalize 256^m=p;rw[Int.natCast_add,Int.natCast_mul,Int.natCast_mul,Int.add_mul,Int.mul_assoc,Int.mul_comm (q:Int) (p:Int)];have e:((256:Nat):Int)=256:=rfl;rw[e,Int.mul_comm (256:Int) (p:Int)]
  omega
theorem Bz(k v:Nat)(hk:1≤k∧k≤4)(s:Int)(hs:s=if(UInt8.ofNat (v/256^(k -1))).toNat<128 then 0 else -1):sgF s (beB k v)=(v:Int)↔v<128*256^(k -1):=by
 have h1:(UInt8.ofNat (v/256^(k -1))).toNat=v/256^(k -1)% 256:=by simp[UInt8.toNat_ofNat']
 rw[zP];rw[h1] at hs;have hk4:k=1∨k=2∨k=3∨k=4:=by omega
 have e0:256^0=1:=rfl;have e1:256^1=256:=rfl;have e2:256^2=65536:=rfl;have e3:256^3=16777216:=rfl;have e4:256^4=4294967296:=rfl;rcases hk4 with rfl|rfl|rfl|rfl<;>simp only[Nat.reduceSub,e0,e1,e2,e3,e4] at hs⊢<;>split at hs<;>subst hs<;>omega
theorem BA(k v:Nat)(hk:1≤k∧k≤4)(h1:k=1∨128*256^(k -2)≤v)(h2:v<128*256^(k -1)):sgB v=beB k v:=by
 have hk4:k=1∨k=2∨k=3∨k=4:=by omega
 have e0:256^0=1:=rfl;have e1:256^1=256:=rfl;have e2:256^2=65536:=rfl;have e3:256^3=16777216:=rfl;unfold sgB;rcases hk4 with rfl|rfl|rfl|rfl<;>simp only[Nat.reduceSub,e0,e1,e2,e3] at h1 h2<;>simp only[beB,e0,e1,e2,e3,Nat.div_one]
 ·rw[if_pos (by omega)]
 ·rw[if_neg (by omega),if_pos (by omega)]
 ·rw[if_neg (by omega),if_neg (by omega),if_pos (by omega)]
 ·rw[if_neg (by omega),if_neg (by omega),if_neg (by omega)]
def wK(j k v:Nat):List Value:=List.replicate j (.int .u8 0)++bV (beB (k -j) v)
theorem xM{j k:Nat}(v:Nat)(h:j≤k):(wK j k v).length=k:=by simp[wK,fD,wT];omega
theorem AN{j k:Nat}(v:Nat)(h:j+1≤k):(wK (j+1) k v).set j (.int .u8 ((v/256^(k -(j+1))% 256:Nat):Int))=wK j k v:=by
 unfold wK;rw[List.replicate_succ',List.append_assoc,List.set_append_right _ _ (by simp),List.length_replicate,Nat.sub_self,List.singleton_append,List.set_cons_zero];have e:k -j=k -(j+1)+1:=by omega
 rw[e]
 simp[beB,bV,UInt8.toNat_ofNat']
theorem BM(X:Nat)(h:X≤2147483647):bits BinOp.and IntKind.i64 (X:Int) 255=((X% 256:Nat):Int):=by
 have h1:(BitVec.ofInt 64 (X:Int)).toNat=X:=by simp;omega
 have h2:(BitVec.ofInt 64 (255:Int)).toNat=255:=by decide
 have h3:X&&&255=X% 256:=Nat.and_two_pow_sub_one_eq_mod X 8;show IntKind.i64.wrap (((BitVec.ofInt 64 (X:Int)&&&BitVec.ofInt 64 255).toNat:Nat):Int)=_;rw[BitVec.toNat_and,h1,h2,h3,aK]
 omega
theorem yE(v:Nat)(hv:v≤2147483647)(w:World):
  Cr 130 #[.int .i64 (v:Int)] w (.string ⟨(sgB v).toArray⟩):=by
 obtain⟨i0,hi0,hz0,hz1,hz2⟩:=info_parts Tryz.infoByte
 go_enter Tryz.func130,Tryz.ntmps130
 go_wp2_with fail
 go_loopw [3] (fun n wr=>∃k:Nat,n=.int .i64 (k:Int)∧1≤k∧k≤4∧(k=1∨128*256^(k -2)≤v)∧Below w.heap.size w wr) (fun n _=>5 -(RowKit.intOf n).toNat)
 case atStart=>exact⟨1,rfl,by omega,by omega,.inl rfl,ar _ _⟩
 case round=>
  obtain⟨k,rfl,hk1,hk4,hlow,hbe⟩:=hrel;obtain⟨wo,hwo⟩:∃x,x=wr:=⟨_,rfl⟩;subst hwo;obtain⟨HLOW,HBE⟩:=Cg hlow hbe;clear hlow hbe
  go_wp2_with (refine wpList_make_full _ rfl (.tmp 11) (.tmp 11) 39 rfl wo.heap.size 5 i0 (.int .u8 0) 1 Tryz.underlying39 hi0 hz0 hz1 .i64 .i64 k k k rfl rfl rfl rfl (by rw[hz2];omega) (by unfold maxLen;omega) (ah _) ?_;intro w2 ho2 hg2)
  have hmc:(madeCells (Value.int .u8 0).cells (k*1)).toList=wK k k v:=by
   rw[Nat.mul_one,show(Value.int .u8 0).cells=#[.int .u8 0] from rfl,toList_madeCells_one]
   simp[wK,beB,bV]
  rw[hmc] at ho2;have hb2:Below wo.heap.size wo w2:=(ar wo.heap.size wo).grown hg2 (ah _) (fun b hb=>by cases hb);obtain⟨HO2,HB2⟩:=Cg ho2 hb2;clear hmc ho2 hg2 hb2;have hwk:IntKind.i64.wrap ((k:Int) -1)=(k:Int) -1:=by rw[aK];omega
  go_wp2_with fail
  go_loopw [5,6] (fun x i ws=>∃j:Nat,i=.int .i64 ((j:Int) -1)∧j≤k∧x=.int .i64 ((v/256^(k -j):Nat):Int)∧ws.ownsRow wo.heap.size 5 1 (.slice (some ⟨wo.heap.size,0,none⟩) k k) k (wK j k v)∧Below wo.heap.size wo ws) (fun _ i _=>((RowKit.intOf i)+1).toNat)
  case atStart=>exact⟨k,rfl,ah _,by rw[Nat.sub_self,Nat.pow_zero,Nat.div_one],HO2.out,HB2.out⟩
  case round=>
   clear HO2 HB2 hwk;obtain⟨j,rfl,hjk,rfl,hown,hbs⟩:=hrel
   by_cases hj:j=0
   ·subst hj
    have i1:decide ((((0:Nat):Int) -1)≥0)=false:=by decide
    have hcv:=eI (P:=Tryz.prog) wr 39 9 5 wo.heap.size _ (beB k v) Tryz.underlying39 Tryz.underlying5 Tryz.underlying9 (by rw[wT];simpa[wK] using hown);obtain⟨m,rfl⟩:∃m,k=m+1:=⟨k -1,by omega⟩;obtain⟨s,hs⟩:∃s:Int,s=if(UInt8.ofNat (v/256^m)).toNat<128 then 0 else -1:=⟨_,rfl⟩
    have kr:=zI (UInt8.ofNat (v/256^m)) (beB m v) (by rw[wT];omega) s hs wr;have ht:=Bz (m+1) v ⟨by omega,by omega⟩ s hs;rw[show UInt8.ofNat (v/256^m)::beB m v=beB (m+1) v from rfl] at kr;obtain⟨V,hV⟩:=nmm (sgF s (beB (m+1) v));rw[hV] at kr ht;obtain⟨HBS,HT⟩:=Cg (cL HBE.out hbs) ht;have hst:=BA (m+1) v ⟨by omega,hk4⟩ HLOW.out;have HST:=hid hst;clear hV hs hown ht hst
    go_wp2_with fail
    refine ag kr ?_;rintro e w5 ⟨rfl,rfl⟩
    by_cases hx:v<128*256^m
    ·have hVv:V=(v:Int):=HT.out.2 hx
     subst hVv;have hres:=HST.out hx;rw[←hres] at hcv;have g1:((v:Int)==(v:Int))=true:=by simp
     clear hx hres
     go_wp2_with fail
     go_ret
     exact⟨rfl,HBS.out⟩
    ·have g1:(V==(v:Int))=false:=by
      rw[beq_eq_false_iff_ne];intro h;exact hx (HT.out.1 h)
     have hx':128*256^m≤v:=by omega
     have hm3:m≤2:=by
      rcases Nat.lt_or_ge 2 m with h|h
      ·obtain rfl:m=3:=by omega
       have e3:256^3=16777216:=rfl;rw[e3] at hx'
       omega
      ·exact h
     have HX:=hid hx';clear hx hx' hcv
     go_wp2_with fail
     exact⟨⟨m+2,by go_num,by omega,by omega,.inr HX.out,HBS.out⟩,by simp[RowKit.intOf];omega⟩
   ·obtain⟨i,rfl⟩:∃i,j=i+1:=⟨j -1,by omega⟩
    have e1:((i+1:Nat):Int) -1=(i:Int):=by omega
    rw[e1];have i1:decide ((i:Int)≥0)=true:=aL (by omega);have i2:decide ((0:Int)≤(i:Int))=true:=i1;have i4:(i:Int)<(k:Int):=by omega
    have hX7:v/256^(k -(i+1))≤2147483647:=Nat.le_trans (Nat.div_le_self _ _) hv;have hX1:v/256^(k -i)=v/256^(k -(i+1))/256:=by rw[show k -i=k -(i+1)+1 by omega,Nat.pow_succ,Nat.div_div_eq_div_mul]
    have hst:=dH (x:=.int .u8 ((v/256^(k -(i+1))% 256:Nat):Int)) hown (show i<(wK (i+1) k v).length by rw[xM v hjk];omega);rw[AN v hjk] at hst;obtain⟨y,hy⟩:∃y,(wK (i+1) k v)[i]?=some y:=⟨_,bp (by rw[xM v hjk];omega)⟩;obtain⟨q1,q2⟩:=cJ hown hy;obtain⟨X,hX⟩:=nmm (v/256^(k -(i+1)));rw[hX] at hX7 hX1 hst⊢;have ha:=BM X hX7;have hm2:((X% 256:Nat):Int)% 256=((X% 256:Nat):Int):=by omega
    have hwi:IntKind.i64.wrap ((i:Int) -1)=(i:Int) -1:=by rw[aK];omega
    obtain⟨HST,HX1,HBS⟩:=Ch hst hX1 (hbs.setCell (p:=⟨wo.heap.size,i,none⟩) (ah _) (.int .u8 ((X% 256:Nat):Int)));clear hst hX1 hX hown hbs hy hj e1
    go_wp2_with fail
    exact⟨⟨i,rfl,by omega,by rw[HX1.out];rfl,HST.out,HBS.out⟩,by simp[RowKit.intOf]⟩
theorem wO(b:UInt8):bits BinOp.and IntKind.u8 (b.toNat:Int) 31=((b.toNat% 32:Nat):Int):=by
 have:∀i:Fin 256,bits BinOp.and IntKind.u8 ((UInt8.ofNat i.val).toNat:Int) 31=(((UInt8.ofNat i.val).toNat% 32:Nat):Int):=by decide+kernel
 have h:=this ⟨b.toNat,UInt8.toNat_lt b⟩
 simpa using h
theorem sx(b:UInt8):bits BinOp.and IntKind.u8 (b.toNat:Int) 32=((b.toNat/32% 2*32:Nat):Int):=by
 have:∀i:Fin 256,bits BinOp.and IntKind.u8 ((UInt8.ofNat i.val).toNat:Int) 32=(((UInt8.ofNat i.val).toNat/32% 2*32:Nat):Int):=by decide+kernel
 have h:=this ⟨b.toNat,UInt8.toNat_lt b⟩
 simpa using h
theorem ph(b0 b1:UInt8)(r:List UInt8)(h0:b0.toNat% 32≤30)(h1:b1.toNat<128)(w:World):
  Calls Tryz.prog 54 #[.string ⟨(b0::b1::r).toArray⟩] w fun e w'=>e=.returned (.tuple #[.int .i64 2,.int .i64 (b1.toNat:Int),I0])∧∃m,w'=w.drewN m:=by
 have e0:(⟨(b0::b1::r).toArray⟩:ByteArray)[0]'(by simp[ByteArray.size])=b0:=rfl;have e1:(⟨(b0::b1::r).toArray⟩:ByteArray)[1]'(by simp[ByteArray.size])=b1:=rfl;obtain⟨T,hT⟩:=nmm (b0.toNat% 32);have ha:=wO b0;rw[hT] at ha h0;have g1:decide ((30:Int)<(T:Int))=false:=an (by omega);have g2:decide ((b1.toNat:Int)<128)=true:=aL (by omega);have g3:((r.length:Int)+1+1==1)=false:=by simp;omega
 clear hT
 go_enter Tryz.func54,Tryz.ntmps54
 go_wp2_with fail
 go_quiet (fail)
 go_wp2_with fail
 refine aH (v:=.tuple #[.int .i64 2,.int .i64 (b1.toNat:Int),I0]) ?_ rfl ⟨rfl,_,rfl⟩
 simp[results,Tryz.f54]
theorem db{P:Program}{w:World}{o:Oper}{a:Act}{K:Act→World→Prop}{Q:Exit→Act→World→Prop}(t:TypeId)(x y:Operand)(ho:o.op=.store t x y)
  (g:Nat) (ty:TypeId) (old cs:Array Value) (hx:a.eval x=.pointer (some ⟨g,0,none⟩)) (hy:a.eval y=.agg cs) (hg:w.heap[g]?=some (.cells old ty (0,0))) (hi:(P.info? t).map (·.size)=some cs.size) (hs:old.size=cs.size) (h1:cs.all (·.oneCell')=true)
  (hK:K (a.put o.dst (.tuple #[])) (w.setRow g cs)):o.wp P a w K Q:=by
 have hr:=run_storeVar_row (P:=P) w g ty t old cs hg hi hs h1;unfold Oper.wp execOp;simp only[ho,hx,hy,Instr.storeAt,Instr.sureAddr,Sem.run_bind,Sem.run_pure,Result.andThen_ok,hr];exact hK
theorem qC(s:List UInt8)(w:World)(hl:s.length≤1000000000):
  Cr 107 #[.string ⟨s.toArray⟩] w (.string ⟨s.toArray⟩):=by
 have k:=Tryz.stringslite_Clone ⟨s.toArray⟩ w (by rw[Lib.size_mk];omega)
 go_enter Tryz.func107,Tryz.ntmps107
 go_wp2_with fail
 refine ag k ?_;rintro e w1 ⟨rfl,hb⟩
 go_wp2_with fail
 go_ret
 exact⟨rfl,hb⟩
def vX:Value→Nat
 | .string s=>s.size
 |_=>0
theorem AO(po pe:Nat)(w:World):
  CallsD Tryz.prog 55 #[.pointer (some ⟨po,0,none⟩),.pointer (some ⟨pe,0,none⟩)] .returning w fun e u' w'=>e=.returned (.tuple #[])∧u'=.returning∧w'=w:=by
 refine callsD_of_wpS Tryz.func55 rfl fun c₀ cs hu=>?_
 apply wpS_seq;apply wpS_region
 simp[wpOpsS,go_sem,recoverD,hu,Tryz.ntmps55,Exit.thenS]
 refine wpS_of_wp ?_;simp only[Array.replicate,List.replicate,List.setIfInBounds_toArray,List.set]
 go_wp2
 cases c₀
 simp_all [bodyPostS,results,Tryz.results55]
end Go.Proofs.YthjaiigijbjloaaGreatDoor
