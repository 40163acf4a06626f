/- BaX3, BaX4, BaX5, BaX, EqM, VaA. -/
import Derived.Test.YtfhghdcbofbceaaGreatDoorX7
import Derived.Test.YtfhghdcbofbceaaGreatDoorX9
namespace Go.Proofs.YtfhghdcbofbceaaGreatDoor
open Go.RowKit Go.Lib
set_option maxRecDepth 100000
set_option maxHeartbeats 16000000
theorem sQ(m:Mg)(l:Ls)(w:World)(h0:¬(m.op=0))(h2:¬(m.op=2))(h3:¬(m.op=3))(h6:¬(m.op=6))(h8:¬(m.op=8∨m.op=4))(hg:(m.op=10)∨(m.op=12)∨(m.op=14))(hm:MgM w m l)(hl:l.mods.length≤1000000000)
  (kf:m.op=3→∀w':World,Bw w w'→Calls Tryz.prog 70 #[m.filt] w' fun e w2=>e=.returned (.bool (dz l.filt))∧Bw w' w2):
  Cr 43 #[.agg (Mg.row m)] w (.tuple #[.agg (Mg.row (bo m)),.bool (br m l)]):=by
 have H1:=hid (Mg.row_one hm);have km:=fun w' (hb:Bw w w')=>eB m.mods l.mods w' (hm.mods.below hb) hl
 obtain⟨af,cf,hf⟩:=hm.filt.shape;obtain⟨az,cz,hs,-,-⟩:=hm.sel;obtain⟨am,cm,hmo,-,-⟩:=hm.mods;obtain⟨aa,ca,hat,-,-⟩:=hm.attrs;obtain⟨ak,ck,hct,-,-⟩:=hm.ctl;obtain⟨nf,hnf⟩:=nmm l.filt.length;obtain⟨nz,hns⟩:=nmm l.sel.length;obtain⟨nm,hnm⟩:=nmm l.mods.length;obtain⟨na,hna⟩:=nmm l.attrs.length;obtain⟨nk,hnk⟩:=nmm l.ctl.length;rw[hnf] at hf;rw[hns] at hs;rw[hnm] at hmo;rw[hna] at hat;rw[hnk] at hct;rw[hf] at kf;rw[hmo] at km;obtain⟨KM,KF,LF,LS,LM,LA,LC⟩:=Ck km kf hf hs hmo hat hct;clear km hf hs hmo hat hct hnf hns hnm hna hnk;have HG:=hid hg;clear hg;have b1:Bw w ((w.alloc (.cells m.row 32)).alloc (.cells Zm 32)):=((aA _ _).alloc (ah _) _).alloc (by simp) _;have m1:Hc ((w.alloc (.cells m.row 32)).alloc (.cells Zm 32)) w.heap.size m.row 32:=(alloc_old _ _ _ (by simp)).trans (fb _ _ _ rfl);have t1:Hc ((w.alloc (.cells m.row 32)).alloc (.cells Zm 32)) (w.heap.size+1) (Mg.row {}) 32:=fb _ _ _ (by simp);clear hm hl kf
 go_enter Tryz.func43,Tryz.ntmps43
 refine wp_seq ?_;refine aQ ?_
 iterate 2 (refine aB rfl (kkn ?_))
 generalize((w.alloc (.cells m.row 32)).alloc (.cells Zm 32))=w1 at b1 m1 t1⊢;have q0:=cval m1 0 (.int .i64 m.id);have q1:=cval m1 1 (.int .i64 m.op);have q27:=(aq m1 27).trans (show _=some (Value.slice ak nk ck) from by rw[←LC.out];rfl);obtain⟨X0,hX⟩:=nmm (#[.int .i64 m.id,.int .i64 m.op,Es,I0,Bf,Es,I0,I0,I0,I0,Bf,Sn,Sn,Sn,Sn,Es,Es,Bf,Bf,Es,Es,Es,Bf,I0,I0,Es,Es,.slice ak nk ck]:Array Value);obtain⟨HX2,HX3,HX⟩:=Ch (show X0.all (·.oneCell')=true by rw[←hX];simp[Value.oneCell']) (show X0.size=28 by rw[←hX];rfl) hX;clear hX
 go_upto_region 1 with fail
 refine aQ ?_
 iterate 6 (refine aB rfl (kkn ?_))
 refine aB rfl fun K hK=>?_
 go_simp;rw[HX.out];refine hK _ _ ?_;clear hK K
 clear q0 q1 q27;refine aB rfl (kkn ?_);have n2:=alb w1 Zm 32;have b2:=btt b1 n2;have m2:=bkk n2 m1;have t2:=bkk n2 t1;have x2:=alz w1 Zm 32;have hlt:w.heap.size+1<w1.heap.size:=(gl t1);clear b1 m1 t1 n2;generalize w1.alloc (.cells Zm 32)=w2 at b2 m2 t2 x2⊢;generalize w1.heap.size=g at x2 hlt⊢;refine stM (.tmp 4) (.tmp 12) X0 x2 HX3.out HX2.out ?_;have S:BaS w m X0 g (w2.setRow g X0):=⟨(setRow_other w2 g w.heap.size X0 (by omega)).trans m2,(setRow_other w2 g (w.heap.size+1) X0 (by omega)).trans t2,setRow_heap w2 g _ X0 _ _ x2,xo b2 (g:=g) (by omega) X0,hlt⟩;clear b2 m2 t2 x2 HX2 HX3;generalize w2.setRow g X0=wr at S⊢;rw[←HX.out] at S;clear HX;replace S:=S.as (show _=Mg.row ({id:=m.id,op:=m.op,ctl:=.slice ak nk ck}:Mg) from rfl);have q1:=cval S.m 1 (.int .i64 m.op);go_simp;clear q1;have i0:(m.op==0)=false:=aE h0;have i2:(m.op==2)=false:=aE h2;have i3:(m.op==3)=false:=aE h3;have i6:(m.op==6)=false:=aE h6;have q1:=cval S.m 1 (.int .i64 m.op);have aO:=alz wr #[.int .i64 8,.int .i64 4] 3;have kc:=xB m.op wr.heap.size [8,4] (wr.alloc (.cells #[.int .i64 8,.int .i64 4] 3)) (by simp) (fun j hj=>by
  have h2:j<2:=hj;have hcases:j=0∨j=1:=by omega
  rcases hcases with rfl|rfl
  ·exact(aq aO 0).trans rfl
  ·exact(aq aO 1).trans rfl)
 rw[show([8,4]:List Int).contains m.op=false from by simp only[List.contains_cons,List.contains_nil,Bool.or_false,Bool.or_eq_false_iff,beq_eq_false_iff_ne];omega] at kc;have S2:=S.to ((aA wr.heap.size wr).alloc (ah _) (.cells #[.int .i64 8,.int .i64 4] 3));clear aO
 go_wp2_with fail
 clear q1 S;generalize(wr.alloc (.cells #[.int .i64 8,.int .i64 4] 3))=wr at S2 kc⊢;refine ag kc ?_;rintro e w' ⟨rfl,hw'⟩;obtain rfl:=hw'.symm;clear kc;have S:=S2;clear S2;refine if h10:m.op=10 then ?A22 else ?B22
 case' A22=>
  have i10:(m.op==10)=true:=by rw[h10];rfl
  have q1:=cval S.m 1 (.int .i64 m.op);have q2:=cval S.m 2 (.string ⟨m.dn.toArray⟩)
  go_upto_region 18 with fail
  have s:=cval S.x 2 Es;have z:=aj S.x 2;replace S:=(S.set 2 (.string ⟨m.dn.toArray⟩)).as (show _=Mg.row ({id:=m.id,op:=m.op,ctl:=.slice ak nk ck,dn:=m.dn}:Mg) from rfl)
  go_upto_region 36 with fail
  clear s z;generalize wr.setCell ⟨g,2,none⟩ (.string ⟨m.dn.toArray⟩)=wr at S⊢;clear q1 q2;replace S:=S.as (show _=Mg.row (bo m) from by rw[bo,if_neg h0,if_neg h3,if_neg h6,if_neg h8,if_pos h10];simp only[Mg.row, LC.out]);have HK:=hid (show br m l=true from by rw[br,if_neg h0,if_neg h2,if_neg h3,if_neg h6,if_neg h8,if_pos h10])
 case' B22=>
  have i10:(m.op==10)=false:=aE h10;refine if h12:m.op=12 then ?A21 else ?B21
  case' A21=>
   have i12:(m.op==12)=true:=by rw[h12];rfl
   have q1:=cval S.m 1 (.int .i64 m.op)
   go_upto_region 20 with fail
   clear q1;refine aR (S:=fun w'=>Hc w' w.heap.size m.row 32) (by kernel_rfl) ?_;replace S:=S.drew
   change wpAnyH _ _ _ _ _ _ _ _ wr.drew
   generalize wr.drew=wr at S⊢;refine tp 0 ⟨w.heap.size,2,none⟩ rfl S.m ?_;refine tn 1 (.string ⟨m.dn.toArray⟩) rfl (fun w' hS=>by have q:=cval hS 2 (.string ⟨m.dn.toArray⟩);go_simp) S.m ?_;refine tp 2 ⟨w.heap.size,15,none⟩ rfl S.m ?_;refine tn 3 (.string ⟨m.newRdn.toArray⟩) rfl (fun w' hS=>by have q:=cval hS 15 (.string ⟨m.newRdn.toArray⟩);go_simp) S.m ?_;refine tp 4 ⟨w.heap.size,17,none⟩ rfl S.m ?_;refine tn 5 (.bool m.delOld) rfl (fun w' hS=>by have q:=cval hS 17 (.bool m.delOld);go_simp) S.m ?_;refine tp 6 ⟨w.heap.size,18,none⟩ rfl S.m ?_;refine tn 7 (.bool m.hasSup) rfl (fun w' hS=>by have q:=cval hS 18 (.bool m.hasSup);go_simp) S.m ?_;refine tp 8 ⟨w.heap.size,16,none⟩ rfl S.m ?_;refine tn 9 (.string ⟨m.newSup.toArray⟩) rfl (fun w' hS=>by have q:=cval hS 16 (.string ⟨m.newSup.toArray⟩);go_simp) S.m ?_;refine tp 10 ⟨g,2,none⟩ rfl S.m ?_;have s:=cval S.x 2 Es;have z:=aj S.x 2;replace S:=(S.set 2 (.string ⟨m.dn.toArray⟩)).as (show _=Mg.row ({id:=m.id,op:=m.op,ctl:=.slice ak nk ck,dn:=m.dn}:Mg) from rfl);refine ao 11 rfl (kks S.m ?_);clear s z;generalize wr.setCell ⟨g,2,none⟩ (.string ⟨m.dn.toArray⟩)=wr at S⊢;refine tp 12 ⟨g,15,none⟩ rfl S.m ?_;have s:=cval S.x 15 Es;have z:=aj S.x 15;replace S:=(S.set 15 (.string ⟨m.newRdn.toArray⟩)).as (show _=Mg.row ({id:=m.id,op:=m.op,ctl:=.slice ak nk ck,dn:=m.dn,newRdn:=m.newRdn}:Mg) from rfl);refine ao 13 rfl (kks S.m ?_);clear s z;generalize wr.setCell ⟨g,15,none⟩ (.string ⟨m.newRdn.toArray⟩)=wr at S⊢;refine tp 14 ⟨g,17,none⟩ rfl S.m ?_;have s:=cval S.x 17 Bf;have z:=aj S.x 17;replace S:=(S.set 17 (.bool m.delOld)).as (show _=Mg.row ({id:=m.id,op:=m.op,ctl:=.slice ak nk ck,dn:=m.dn,newRdn:=m.newRdn,delOld:=m.delOld}:Mg) from rfl);refine ao 15 rfl (kks S.m ?_);clear s z;generalize wr.setCell ⟨g,17,none⟩ (.bool m.delOld)=wr at S⊢;refine tp 16 ⟨g,18,none⟩ rfl S.m ?_;have s:=cval S.x 18 Bf;have z:=aj S.x 18;replace S:=(S.set 18 (.bool m.hasSup)).as (show _=Mg.row ({id:=m.id,op:=m.op,ctl:=.slice ak nk ck,dn:=m.dn,newRdn:=m.newRdn,delOld:=m.delOld,hasSup:=m.hasSup}:Mg) from rfl);refine ao 17 rfl (kks S.m ?_);clear s z;generalize wr.setCell ⟨g,18,none⟩ (.bool m.hasSup)=wr at S⊢;refine tp 18 ⟨g,16,none⟩ rfl S.m ?_;have s:=cval S.x 16 Es;have z:=aj S.x 16;replace S:=(S.set 16 (.string ⟨m.newSup.toArray⟩)).as (show _=Mg.row ({id:=m.id,op:=m.op,ctl:=.slice ak nk ck,dn:=m.dn,newRdn:=m.newRdn,delOld:=m.delOld,hasSup:=m.hasSup,newSup:=m.newSup}:Mg) from rfl);refine ao 19 rfl (kks S.m ?_);clear s z;generalize wr.setCell ⟨g,16,none⟩ (.string ⟨m.newSup.toArray⟩)=wr at S⊢;refine xk (by kernel_rfl) ?_ _
   try simp only[Exit.then]
   refine‹∀(a:Act) (w:World),Code.wp _ _ _ a w→_› _ _ ?_;have q18:=cval S.m 18 (.bool m.hasSup);have q16:=cval S.m 16 (.string ⟨m.newSup.toArray⟩);refine if k1:m.hasSup=true then ?A20 else ?B20
   case' A20=>
    go_upto_region 36 with fail
    clear q18 q16;replace S:=S.as (show _=Mg.row (bo m) from by rw[bo,if_neg h0,if_neg h3,if_neg h6,if_neg h8,if_neg h10,if_pos h12];simp only[Mg.row, LC.out]);have HK:=hid (show br m l=true from by rw[br,if_neg h0,if_neg h2,if_neg h3,if_neg h6,if_neg h8,if_neg h10,if_pos h12];simp[k1])
   case' B20=>
    replace k1:m.hasSup=false:=Bool.eq_false_iff.2 k1;refine if k2:m.newSup=[] then ?A19 else ?B19
    case' A19=>
     go_upto_region 36 with fail
     clear q18 q16;replace S:=S.as (show _=Mg.row (bo m) from by rw[bo,if_neg h0,if_neg h3,if_neg h6,if_neg h8,if_neg h10,if_pos h12];simp only[Mg.row, LC.out]);have HK:=hid (show br m l=true from by rw[br,if_neg h0,if_neg h2,if_neg h3,if_neg h6,if_neg h8,if_neg h10,if_pos h12];simp[k1,k2])
    case' B19=>
     have k3:m.newSup.isEmpty=false:=by cases hq:m.newSup with
      |nil=>exact absurd hq k2
      |cons a b=>rfl
     go_upto_region 36 with fail
     clear q18 q16;replace S:=S.as (show _=Mg.row (bo m) from by rw[bo,if_neg h0,if_neg h3,if_neg h6,if_neg h8,if_neg h10,if_pos h12];simp only[Mg.row, LC.out]);have HK:=hid (show br m l=false from by rw[br,if_neg h0,if_neg h2,if_neg h3,if_neg h6,if_neg h8,if_neg h10,if_pos h12];simp[k1,k2])
  case' B21=>
   have i12:(m.op==12)=false:=aE h12;have h14:m.op=14:=by have:=HG.out;omega
   clear HG;have i14:(m.op==14)=true:=by rw[h14];rfl
   have q1:=cval S.m 1 (.int .i64 m.op)
   go_upto_region 23 with fail
   clear q1;refine aR (S:=fun w'=>Hc w' w.heap.size m.row 32) (by kernel_rfl) ?_;replace S:=S.drew
   change wpAnyH _ _ _ _ _ _ _ _ wr.drew
   generalize wr.drew=wr at S⊢;refine tp 0 ⟨w.heap.size,2,none⟩ rfl S.m ?_;refine tn 1 (.string ⟨m.dn.toArray⟩) rfl (fun w' hS=>by have q:=cval hS 2 (.string ⟨m.dn.toArray⟩);go_simp) S.m ?_;refine tp 2 ⟨w.heap.size,19,none⟩ rfl S.m ?_;refine tn 3 (.string ⟨m.typ.toArray⟩) rfl (fun w' hS=>by have q:=cval hS 19 (.string ⟨m.typ.toArray⟩);go_simp) S.m ?_;refine tp 4 ⟨w.heap.size,20,none⟩ rfl S.m ?_;refine tn 5 (.string ⟨m.value.toArray⟩) rfl (fun w' hS=>by have q:=cval hS 20 (.string ⟨m.value.toArray⟩);go_simp) S.m ?_;refine tp 6 ⟨g,2,none⟩ rfl S.m ?_;have s:=cval S.x 2 Es;have z:=aj S.x 2;replace S:=(S.set 2 (.string ⟨m.dn.toArray⟩)).as (show _=Mg.row ({id:=m.id,op:=m.op,ctl:=.slice ak nk ck,dn:=m.dn}:Mg) from rfl);refine ao 7 rfl (kks S.m ?_);clear s z;generalize wr.setCell ⟨g,2,none⟩ (.string ⟨m.dn.toArray⟩)=wr at S⊢;refine tp 8 ⟨g,19,none⟩ rfl S.m ?_;have s:=cval S.x 19 Es;have z:=aj S.x 19;replace S:=(S.set 19 (.string ⟨m.typ.toArray⟩)).as (show _=Mg.row ({id:=m.id,op:=m.op,ctl:=.slice ak nk ck,dn:=m.dn,typ:=m.typ}:Mg) from rfl);refine ao 9 rfl (kks S.m ?_);clear s z;generalize wr.setCell ⟨g,19,none⟩ (.string ⟨m.typ.toArray⟩)=wr at S⊢;refine tp 10 ⟨g,20,none⟩ rfl S.m ?_;have s:=cval S.x 20 Es;have z:=aj S.x 20;replace S:=(S.set 20 (.string ⟨m.value.toArray⟩)).as (show _=Mg.row ({id:=m.id,op:=m.op,ctl:=.slice ak nk ck,dn:=m.dn,typ:=m.typ,value:=m.value}:Mg) from rfl);refine ao 11 rfl (kks S.m ?_);clear s z;generalize wr.setCell ⟨g,20,none⟩ (.string ⟨m.value.toArray⟩)=wr at S⊢;refine xk (by kernel_rfl) ?_ _
   try simp only[Exit.then]
   refine‹∀(a:Act) (w:World),Code.wp _ _ _ a w→_› _ _ ?_
   go_upto_region 36 with fail
   replace S:=S.as (show _=Mg.row (bo m) from by rw[bo,if_neg h0,if_neg h3,if_neg h6,if_neg h8,if_neg h10,if_neg h12,if_pos h14];simp only[Mg.row, LC.out]);have HK:=hid (show br m l=true from by rw[br,if_neg h0,if_neg h2,if_neg h3,if_neg h6,if_neg h8,if_neg h10,if_neg h12,if_pos h14])
 all_goals
  have one:=fF H1.out;obtain⟨X,hX⟩:=nmm (Mg.row (bo m));have hX2:X.size=28:=by rw[←hX];rfl
  rw[hX] at S one;obtain⟨HX,HX2,ONE⟩:=Ch hX hX2 one;have x:=S.x;have t:=S.res;obtain⟨b60,t60⟩:=Cg (xo S.bel (g:=w.heap.size+1) (by omega) X) (setRow_heap wr (w.heap.size+1) _ X _ _ S.res);clear hX hX2 one S H1 KM KF;refine aQ ?_;refine ldM (.tmp 4) x HX2.out ?_;refine aB rfl (kkn ?_);refine stM (.tmp 2) (.tmp 231) X t HX2.out ONE.out ?_;have b60:=b60.out;have t60:=t60.out;generalize wr.setRow (w.heap.size+1) X=w60 at b60 t60⊢;clear x t;go_simp
  go_wp2_with fail
  refine aH (v:=.tuple #[.agg X,.bool (br m l)]) ?_ rfl ⟨by rw[HX.out],b60⟩;have hr:=rlM t60 HX2.out;rw[HK.out]
  simp[results,Tryz.f43]
  show((Sem.run Tryz.prog (loadVar 32 ⟨w.heap.size+1,0,none⟩) w60).andThen _)=_;rw[hr]
  simp
theorem sR(m:Mg)(l:Ls)(w:World)(h0:¬(m.op=0))(h2:¬(m.op=2))(h3:¬(m.op=3))(h6:¬(m.op=6))(h8:¬(m.op=8∨m.op=4))(h10:¬(m.op=10))(h12:¬(m.op=12))(h14:¬(m.op=14))(hg:(m.op=16)∨(m.op=23))(hm:MgM w m l)(hl:l.mods.length≤1000000000)
  (kf:m.op=3→∀w':World,Bw w w'→Calls Tryz.prog 70 #[m.filt] w' fun e w2=>e=.returned (.bool (dz l.filt))∧Bw w' w2):
  Cr 43 #[.agg (Mg.row m)] w (.tuple #[.agg (Mg.row (bo m)),.bool (br m l)]):=by
 have H1:=hid (Mg.row_one hm);have km:=fun w' (hb:Bw w w')=>eB m.mods l.mods w' (hm.mods.below hb) hl
 obtain⟨af,cf,hf⟩:=hm.filt.shape;obtain⟨az,cz,hs,-,-⟩:=hm.sel;obtain⟨am,cm,hmo,-,-⟩:=hm.mods;obtain⟨aa,ca,hat,-,-⟩:=hm.attrs;obtain⟨ak,ck,hct,-,-⟩:=hm.ctl;obtain⟨nf,hnf⟩:=nmm l.filt.length;obtain⟨nz,hns⟩:=nmm l.sel.length;obtain⟨nm,hnm⟩:=nmm l.mods.length;obtain⟨na,hna⟩:=nmm l.attrs.length;obtain⟨nk,hnk⟩:=nmm l.ctl.length;rw[hnf] at hf;rw[hns] at hs;rw[hnm] at hmo;rw[hna] at hat;rw[hnk] at hct;rw[hf] at kf;rw[hmo] at km;obtain⟨KM,KF,LF,LS,LM,LA,LC⟩:=Ck km kf hf hs hmo hat hct;clear km hf hs hmo hat hct hnf hns hnm hna hnk;have HG:=hid hg;clear hg;have b1:Bw w ((w.alloc (.cells m.row 32)).alloc (.cells Zm 32)):=((aA _ _).alloc (ah _) _).alloc (by simp) _;have m1:Hc ((w.alloc (.cells m.row 32)).alloc (.cells Zm 32)) w.heap.size m.row 32:=(alloc_old _ _ _ (by simp)).trans (fb _ _ _ rfl);have t1:Hc ((w.alloc (.cells m.row 32)).alloc (.cells Zm 32)) (w.heap.size+1) (Mg.row {}) 32:=fb _ _ _ (by simp);clear hm hl kf
 go_enter Tryz.func43,Tryz.ntmps43
 refine wp_seq ?_;refine aQ ?_
 iterate 2 (refine aB rfl (kkn ?_))
 generalize((w.alloc (.cells m.row 32)).alloc (.cells Zm 32))=w1 at b1 m1 t1⊢;have q0:=cval m1 0 (.int .i64 m.id);have q1:=cval m1 1 (.int .i64 m.op);have q27:=(aq m1 27).trans (show _=some (Value.slice ak nk ck) from by rw[←LC.out];rfl);obtain⟨X0,hX⟩:=nmm (#[.int .i64 m.id,.int .i64 m.op,Es,I0,Bf,Es,I0,I0,I0,I0,Bf,Sn,Sn,Sn,Sn,Es,Es,Bf,Bf,Es,Es,Es,Bf,I0,I0,Es,Es,.slice ak nk ck]:Array Value);obtain⟨HX2,HX3,HX⟩:=Ch (show X0.all (·.oneCell')=true by rw[←hX];simp[Value.oneCell']) (show X0.size=28 by rw[←hX];rfl) hX;clear hX
 go_upto_region 1 with fail
 refine aQ ?_
 iterate 6 (refine aB rfl (kkn ?_))
 refine aB rfl fun K hK=>?_
 go_simp;rw[HX.out];refine hK _ _ ?_;clear hK K
 clear q0 q1 q27;refine aB rfl (kkn ?_);have n2:=alb w1 Zm 32;have b2:=btt b1 n2;have m2:=bkk n2 m1;have t2:=bkk n2 t1;have x2:=alz w1 Zm 32;have hlt:w.heap.size+1<w1.heap.size:=(gl t1);clear b1 m1 t1 n2;generalize w1.alloc (.cells Zm 32)=w2 at b2 m2 t2 x2⊢;generalize w1.heap.size=g at x2 hlt⊢;refine stM (.tmp 4) (.tmp 12) X0 x2 HX3.out HX2.out ?_;have S:BaS w m X0 g (w2.setRow g X0):=⟨(setRow_other w2 g w.heap.size X0 (by omega)).trans m2,(setRow_other w2 g (w.heap.size+1) X0 (by omega)).trans t2,setRow_heap w2 g _ X0 _ _ x2,xo b2 (g:=g) (by omega) X0,hlt⟩;clear b2 m2 t2 x2 HX2 HX3;generalize w2.setRow g X0=wr at S⊢;rw[←HX.out] at S;clear HX;replace S:=S.as (show _=Mg.row ({id:=m.id,op:=m.op,ctl:=.slice ak nk ck}:Mg) from rfl);have q1:=cval S.m 1 (.int .i64 m.op);go_simp;clear q1;have i0:(m.op==0)=false:=aE h0;have i2:(m.op==2)=false:=aE h2;have i3:(m.op==3)=false:=aE h3;have i6:(m.op==6)=false:=aE h6;have q1:=cval S.m 1 (.int .i64 m.op);have aO:=alz wr #[.int .i64 8,.int .i64 4] 3;have kc:=xB m.op wr.heap.size [8,4] (wr.alloc (.cells #[.int .i64 8,.int .i64 4] 3)) (by simp) (fun j hj=>by
  have h2:j<2:=hj;have hcases:j=0∨j=1:=by omega
  rcases hcases with rfl|rfl
  ·exact(aq aO 0).trans rfl
  ·exact(aq aO 1).trans rfl)
 rw[show([8,4]:List Int).contains m.op=false from by simp only[List.contains_cons,List.contains_nil,Bool.or_false,Bool.or_eq_false_iff,beq_eq_false_iff_ne];omega] at kc;have S2:=S.to ((aA wr.heap.size wr).alloc (ah _) (.cells #[.int .i64 8,.int .i64 4] 3));clear aO
 go_wp2_with fail
 clear q1 S;generalize(wr.alloc (.cells #[.int .i64 8,.int .i64 4] 3))=wr at S2 kc⊢;refine ag kc ?_;rintro e w' ⟨rfl,hw'⟩;obtain rfl:=hw'.symm;clear kc;have S:=S2;clear S2;have i10:(m.op==10)=false:=aE h10;have i12:(m.op==12)=false:=aE h12;have i14:(m.op==14)=false:=aE h14;refine if h16:m.op=16 then ?A25 else ?B25
 case' A25=>
  have i16:(m.op==16)=true:=by rw[h16];rfl
  have q1:=cval S.m 1 (.int .i64 m.op);have q23:=cval S.m 23 (.int .i64 m.target);have s:=cval S.x 23 (.int .i64 0);have z:=aj S.x 23;replace S:=(S.set 23 (.int .i64 m.target)).as (show _=Mg.row ({id:=m.id,op:=m.op,ctl:=.slice ak nk ck,target:=m.target}:Mg) from rfl);have q23':=cval S.m 23 (.int .i64 m.target);have kc:=dA m.target 2147483647 (wr.setCell ⟨g,23,none⟩ (.int .i64 m.target))
  go_wp2_with fail
  clear s z q1 q23 q23';generalize wr.setCell ⟨g,23,none⟩ (.int .i64 m.target)=wr at S kc⊢;refine ag kc ?_;rintro e w' ⟨rfl,hw'⟩;obtain rfl:=hw'.symm;clear kc
  go_upto_region 36 with fail
  replace S:=S.as (show _=Mg.row (bo m) from by rw[bo,if_neg h0,if_neg h3,if_neg h6,if_neg h8,if_neg h10,if_neg h12,if_neg h14,if_pos h16];simp only[Mg.row, LC.out]);have HK:=hid (show br m l=bB m.target 2147483647 from by rw[br,if_neg h0,if_neg h2,if_neg h3,if_neg h6,if_neg h8,if_neg h10,if_neg h12,if_neg h14,if_pos h16])
 case' B25=>
  have i16:(m.op==16)=false:=aE h16;have h23:m.op=23:=by have:=HG.out;omega
  clear HG;have i23:(m.op==23)=true:=by rw[h23];rfl
  have q1:=cval S.m 1 (.int .i64 m.op)
  go_upto_region 28 with fail
  clear q1;refine aR (S:=fun w'=>Hc w' w.heap.size m.row 32) (by kernel_rfl) ?_;replace S:=S.drew
  change wpAnyH _ _ _ _ _ _ _ _ wr.drew
  generalize wr.drew=wr at S⊢;refine tp 0 ⟨w.heap.size,21,none⟩ rfl S.m ?_;refine tn 1 (.string ⟨m.oid.toArray⟩) rfl (fun w' hS=>by have q:=cval hS 21 (.string ⟨m.oid.toArray⟩);go_simp) S.m ?_;refine tp 2 ⟨w.heap.size,22,none⟩ rfl S.m ?_;refine tn 3 (.bool m.has) rfl (fun w' hS=>by have q:=cval hS 22 (.bool m.has);go_simp) S.m ?_;refine tp 4 ⟨w.heap.size,20,none⟩ rfl S.m ?_;refine tn 5 (.string ⟨m.value.toArray⟩) rfl (fun w' hS=>by have q:=cval hS 20 (.string ⟨m.value.toArray⟩);go_simp) S.m ?_;refine tp 6 ⟨g,21,none⟩ rfl S.m ?_;have s:=cval S.x 21 Es;have z:=aj S.x 21;replace S:=(S.set 21 (.string ⟨m.oid.toArray⟩)).as (show _=Mg.row ({id:=m.id,op:=m.op,ctl:=.slice ak nk ck,oid:=m.oid}:Mg) from rfl);refine ao 7 rfl (kks S.m ?_);clear s z;generalize wr.setCell ⟨g,21,none⟩ (.string ⟨m.oid.toArray⟩)=wr at S⊢;refine tp 8 ⟨g,22,none⟩ rfl S.m ?_;have s:=cval S.x 22 Bf;have z:=aj S.x 22;replace S:=(S.set 22 (.bool m.has)).as (show _=Mg.row ({id:=m.id,op:=m.op,ctl:=.slice ak nk ck,oid:=m.oid,has:=m.has}:Mg) from rfl);refine ao 9 rfl (kks S.m ?_);clear s z;generalize wr.setCell ⟨g,22,none⟩ (.bool m.has)=wr at S⊢;refine tp 10 ⟨g,20,none⟩ rfl S.m ?_;have s:=cval S.x 20 Es;have z:=aj S.x 20;replace S:=(S.set 20 (.string ⟨m.value.toArray⟩)).as (show _=Mg.row ({id:=m.id,op:=m.op,ctl:=.slice ak nk ck,oid:=m.oid,has:=m.has,value:=m.value}:Mg) from rfl);refine ao 11 rfl (kks S.m ?_);clear s z;generalize wr.setCell ⟨g,20,none⟩ (.string ⟨m.value.toArray⟩)=wr at S⊢;refine xk (by kernel_rfl) ?_ _
  try simp only[Exit.then]
  refine‹∀(a:Act) (w:World),Code.wp _ _ _ a w→_› _ _ ?_;have q22:=cval S.m 22 (.bool m.has);have q20:=cval S.m 20 (.string ⟨m.value.toArray⟩);refine if k1:m.has=true then ?A24 else ?B24
  case' A24=>
   go_upto_region 36 with fail
   clear q22 q20;replace S:=S.as (show _=Mg.row (bo m) from by rw[bo,if_neg h0,if_neg h3,if_neg h6,if_neg h8,if_neg h10,if_neg h12,if_neg h14,if_neg h16,if_pos h23];simp only[Mg.row, LC.out]);have HK:=hid (show br m l=true from by rw[br,if_neg h0,if_neg h2,if_neg h3,if_neg h6,if_neg h8,if_neg h10,if_neg h12,if_neg h14,if_neg h16,if_pos h23];simp[k1])
  case' B24=>
   replace k1:m.has=false:=Bool.eq_false_iff.2 k1;refine if k2:m.value=[] then ?A23 else ?B23
   case' A23=>
    go_upto_region 36 with fail
    clear q22 q20;replace S:=S.as (show _=Mg.row (bo m) from by rw[bo,if_neg h0,if_neg h3,if_neg h6,if_neg h8,if_neg h10,if_neg h12,if_neg h14,if_neg h16,if_pos h23];simp only[Mg.row, LC.out]);have HK:=hid (show br m l=true from by rw[br,if_neg h0,if_neg h2,if_neg h3,if_neg h6,if_neg h8,if_neg h10,if_neg h12,if_neg h14,if_neg h16,if_pos h23];simp[k1,k2])
   case' B23=>
    have k3:m.value.isEmpty=false:=by cases hq:m.value with
     |nil=>exact absurd hq k2
     |cons a b=>rfl
    go_upto_region 36 with fail
    clear q22 q20;replace S:=S.as (show _=Mg.row (bo m) from by rw[bo,if_neg h0,if_neg h3,if_neg h6,if_neg h8,if_neg h10,if_neg h12,if_neg h14,if_neg h16,if_pos h23];simp only[Mg.row, LC.out]);have HK:=hid (show br m l=false from by rw[br,if_neg h0,if_neg h2,if_neg h3,if_neg h6,if_neg h8,if_neg h10,if_neg h12,if_neg h14,if_neg h16,if_pos h23];simp[k1,k2])
 all_goals
  have one:=fF H1.out;obtain⟨X,hX⟩:=nmm (Mg.row (bo m));have hX2:X.size=28:=by rw[←hX];rfl
  rw[hX] at S one;obtain⟨HX,HX2,ONE⟩:=Ch hX hX2 one;have x:=S.x;have t:=S.res;obtain⟨b60,t60⟩:=Cg (xo S.bel (g:=w.heap.size+1) (by omega) X) (setRow_heap wr (w.heap.size+1) _ X _ _ S.res);clear hX hX2 one S H1 KM KF;refine aQ ?_;refine ldM (.tmp 4) x HX2.out ?_;refine aB rfl (kkn ?_);refine stM (.tmp 2) (.tmp 231) X t HX2.out ONE.out ?_;have b60:=b60.out;have t60:=t60.out;generalize wr.setRow (w.heap.size+1) X=w60 at b60 t60⊢;clear x t;go_simp
  go_wp2_with fail
  refine aH (v:=.tuple #[.agg X,.bool (br m l)]) ?_ rfl ⟨by rw[HX.out],b60⟩;have hr:=rlM t60 HX2.out;rw[HK.out]
  simp[results,Tryz.f43]
  show((Sem.run Tryz.prog (loadVar 32 ⟨w.heap.size+1,0,none⟩) w60).andThen _)=_;rw[hr]
  simp
theorem sS(m:Mg)(l:Ls)(w:World)(h0:¬(m.op=0))(h2:¬(m.op=2))(h3:¬(m.op=3))(h6:¬(m.op=6))(h8:¬(m.op=8∨m.op=4))(h10:¬(m.op=10))(h12:¬(m.op=12))(h14:¬(m.op=14))(h16:¬(m.op=16))(h23:¬(m.op=23))(hm:MgM w m l)(hl:l.mods.length≤1000000000)
  (kf:m.op=3→∀w':World,Bw w w'→Calls Tryz.prog 70 #[m.filt] w' fun e w2=>e=.returned (.bool (dz l.filt))∧Bw w' w2):
  Cr 43 #[.agg (Mg.row m)] w (.tuple #[.agg (Mg.row (bo m)),.bool (br m l)]):=by
 have H1:=hid (Mg.row_one hm);have km:=fun w' (hb:Bw w w')=>eB m.mods l.mods w' (hm.mods.below hb) hl
 obtain⟨af,cf,hf⟩:=hm.filt.shape;obtain⟨az,cz,hs,-,-⟩:=hm.sel;obtain⟨am,cm,hmo,-,-⟩:=hm.mods;obtain⟨aa,ca,hat,-,-⟩:=hm.attrs;obtain⟨ak,ck,hct,-,-⟩:=hm.ctl;obtain⟨nf,hnf⟩:=nmm l.filt.length;obtain⟨nz,hns⟩:=nmm l.sel.length;obtain⟨nm,hnm⟩:=nmm l.mods.length;obtain⟨na,hna⟩:=nmm l.attrs.length;obtain⟨nk,hnk⟩:=nmm l.ctl.length;rw[hnf] at hf;rw[hns] at hs;rw[hnm] at hmo;rw[hna] at hat;rw[hnk] at hct;rw[hf] at kf;rw[hmo] at km;obtain⟨KM,KF,LF,LS,LM,LA,LC⟩:=Ck km kf hf hs hmo hat hct;clear km hf hs hmo hat hct hnf hns hnm hna hnk;have b1:Bw w ((w.alloc (.cells m.row 32)).alloc (.cells Zm 32)):=((aA _ _).alloc (ah _) _).alloc (by simp) _;have m1:Hc ((w.alloc (.cells m.row 32)).alloc (.cells Zm 32)) w.heap.size m.row 32:=(alloc_old _ _ _ (by simp)).trans (fb _ _ _ rfl);have t1:Hc ((w.alloc (.cells m.row 32)).alloc (.cells Zm 32)) (w.heap.size+1) (Mg.row {}) 32:=fb _ _ _ (by simp);clear hm hl kf
 go_enter Tryz.func43,Tryz.ntmps43
 refine wp_seq ?_;refine aQ ?_
 iterate 2 (refine aB rfl (kkn ?_))
 generalize((w.alloc (.cells m.row 32)).alloc (.cells Zm 32))=w1 at b1 m1 t1⊢;have q0:=cval m1 0 (.int .i64 m.id);have q1:=cval m1 1 (.int .i64 m.op);have q27:=(aq m1 27).trans (show _=some (Value.slice ak nk ck) from by rw[←LC.out];rfl);obtain⟨X0,hX⟩:=nmm (#[.int .i64 m.id,.int .i64 m.op,Es,I0,Bf,Es,I0,I0,I0,I0,Bf,Sn,Sn,Sn,Sn,Es,Es,Bf,Bf,Es,Es,Es,Bf,I0,I0,Es,Es,.slice ak nk ck]:Array Value);obtain⟨HX2,HX3,HX⟩:=Ch (show X0.all (·.oneCell')=true by rw[←hX];simp[Value.oneCell']) (show X0.size=28 by rw[←hX];rfl) hX;clear hX
 go_upto_region 1 with fail
 refine aQ ?_
 iterate 6 (refine aB rfl (kkn ?_))
 refine aB rfl fun K hK=>?_
 go_simp;rw[HX.out];refine hK _ _ ?_;clear hK K
 clear q0 q1 q27;refine aB rfl (kkn ?_);have n2:=alb w1 Zm 32;have b2:=btt b1 n2;have m2:=bkk n2 m1;have t2:=bkk n2 t1;have x2:=alz w1 Zm 32;have hlt:w.heap.size+1<w1.heap.size:=(gl t1);clear b1 m1 t1 n2;generalize w1.alloc (.cells Zm 32)=w2 at b2 m2 t2 x2⊢;generalize w1.heap.size=g at x2 hlt⊢;refine stM (.tmp 4) (.tmp 12) X0 x2 HX3.out HX2.out ?_;have S:BaS w m X0 g (w2.setRow g X0):=⟨(setRow_other w2 g w.heap.size X0 (by omega)).trans m2,(setRow_other w2 g (w.heap.size+1) X0 (by omega)).trans t2,setRow_heap w2 g _ X0 _ _ x2,xo b2 (g:=g) (by omega) X0,hlt⟩;clear b2 m2 t2 x2 HX2 HX3;generalize w2.setRow g X0=wr at S⊢;rw[←HX.out] at S;clear HX;replace S:=S.as (show _=Mg.row ({id:=m.id,op:=m.op,ctl:=.slice ak nk ck}:Mg) from rfl);have q1:=cval S.m 1 (.int .i64 m.op);go_simp;clear q1;have i0:(m.op==0)=false:=aE h0;have i2:(m.op==2)=false:=aE h2;have i3:(m.op==3)=false:=aE h3;have i6:(m.op==6)=false:=aE h6;have q1:=cval S.m 1 (.int .i64 m.op);have aO:=alz wr #[.int .i64 8,.int .i64 4] 3;have kc:=xB m.op wr.heap.size [8,4] (wr.alloc (.cells #[.int .i64 8,.int .i64 4] 3)) (by simp) (fun j hj=>by
  have h2:j<2:=hj;have hcases:j=0∨j=1:=by omega
  rcases hcases with rfl|rfl
  ·exact(aq aO 0).trans rfl
  ·exact(aq aO 1).trans rfl)
 rw[show([8,4]:List Int).contains m.op=false from by simp only[List.contains_cons,List.contains_nil,Bool.or_false,Bool.or_eq_false_iff,beq_eq_false_iff_ne];omega] at kc;have S2:=S.to ((aA wr.heap.size wr).alloc (ah _) (.cells #[.int .i64 8,.int .i64 4] 3));clear aO
 go_wp2_with fail
 clear q1 S;generalize(wr.alloc (.cells #[.int .i64 8,.int .i64 4] 3))=wr at S2 kc⊢;refine ag kc ?_;rintro e w' ⟨rfl,hw'⟩;obtain rfl:=hw'.symm;clear kc;have S:=S2;clear S2;have i10:(m.op==10)=false:=aE h10;have i12:(m.op==12)=false:=aE h12;have i14:(m.op==14)=false:=aE h14;have i16:(m.op==16)=false:=aE h16;have i23:(m.op==23)=false:=aE h23;refine if hc:ez.contains m.op=true then ?A32 else ?B32
 case' A32=>
  have q1:=cval S.m 1 (.int .i64 m.op);have kc:=yF m.op wr;rw[hc] at kc
  go_wp2_with fail
  refine ag kc ?_;rintro e w' ⟨rfl,hb⟩;replace S:=S.to hb;clear kc hb q1;generalize w'=wr at S⊢
  go_upto_region 31 with fail
  refine aR (S:=fun w'=>Hc w' w.heap.size m.row 32) (by kernel_rfl) ?_;replace S:=S.drew
  change wpAnyH _ _ _ _ _ _ _ _ wr.drew
  generalize wr.drew=wr at S⊢;refine tp 0 ⟨w.heap.size,24,none⟩ rfl S.m ?_;refine tn 1 (.int .i64 m.code) rfl (fun w' hS=>by have q:=cval hS 24 (.int .i64 m.code);go_simp) S.m ?_;refine tp 2 ⟨w.heap.size,25,none⟩ rfl S.m ?_;refine tn 3 (.string ⟨m.matched.toArray⟩) rfl (fun w' hS=>by have q:=cval hS 25 (.string ⟨m.matched.toArray⟩);go_simp) S.m ?_;refine tp 4 ⟨w.heap.size,26,none⟩ rfl S.m ?_;refine tn 5 (.string ⟨m.text.toArray⟩) rfl (fun w' hS=>by have q:=cval hS 26 (.string ⟨m.text.toArray⟩);go_simp) S.m ?_;refine tp 6 ⟨g,24,none⟩ rfl S.m ?_;have s:=cval S.x 24 (.int .i64 0);have z:=aj S.x 24;replace S:=(S.set 24 (.int .i64 m.code)).as (show _=Mg.row ({id:=m.id,op:=m.op,ctl:=.slice ak nk ck,code:=m.code}:Mg) from rfl);refine ao 7 rfl (kks S.m ?_);clear s z;generalize wr.setCell ⟨g,24,none⟩ (.int .i64 m.code)=wr at S⊢;refine tp 8 ⟨g,25,none⟩ rfl S.m ?_;have s:=cval S.x 25 Es;have z:=aj S.x 25;replace S:=(S.set 25 (.string ⟨m.matched.toArray⟩)).as (show _=Mg.row ({id:=m.id,op:=m.op,ctl:=.slice ak nk ck,code:=m.code,matched:=m.matched}:Mg) from rfl);refine ao 9 rfl (kks S.m ?_);clear s z;generalize wr.setCell ⟨g,25,none⟩ (.string ⟨m.matched.toArray⟩)=wr at S⊢;refine tp 10 ⟨g,26,none⟩ rfl S.m ?_;have s:=cval S.x 26 Es;have z:=aj S.x 26;replace S:=(S.set 26 (.string ⟨m.text.toArray⟩)).as (show _=Mg.row ({id:=m.id,op:=m.op,ctl:=.slice ak nk ck,code:=m.code,matched:=m.matched,text:=m.text}:Mg) from rfl);refine ao 11 rfl (kks S.m ?_);clear s z;generalize wr.setCell ⟨g,26,none⟩ (.string ⟨m.text.toArray⟩)=wr at S⊢;refine xk (by kernel_rfl) ?_ _
  try simp only[Exit.then]
  refine‹∀(a:Act) (w:World),Code.wp _ _ _ a w→_› _ _ ?_;have q24:=cval S.m 24 (.int .i64 m.code);have q1:=cval S.m 1 (.int .i64 m.op);refine if rc:bB m.code 2147483647=true then ?A30 else ?B30
  case' A30=>
   refine if h24:m.op=24 then ?A28 else ?B28
   case' A28=>
    have i24:(m.op==24)=true:=by rw[h24];rfl
    have kc:=dA m.code 2147483647 wr;rw[rc] at kc
    go_wp2_with fail
    refine ag kc ?_;rintro e w' ⟨rfl,hw'⟩;obtain rfl:=hw'.symm;clear kc
    go_upto_region 34 with fail
    clear q1 q24;refine aR (S:=fun w'=>Hc w' w.heap.size m.row 32) (by kernel_rfl) ?_;replace S:=S.drew
    change wpAnyH _ _ _ _ _ _ _ _ wr.drew
    generalize wr.drew=wr at S⊢;refine tp 0 ⟨w.heap.size,21,none⟩ rfl S.m ?_;refine tn 1 (.string ⟨m.oid.toArray⟩) rfl (fun w' hS=>by have q:=cval hS 21 (.string ⟨m.oid.toArray⟩);go_simp) S.m ?_;refine tp 2 ⟨w.heap.size,22,none⟩ rfl S.m ?_;refine tn 3 (.bool m.has) rfl (fun w' hS=>by have q:=cval hS 22 (.bool m.has);go_simp) S.m ?_;refine tp 4 ⟨w.heap.size,20,none⟩ rfl S.m ?_;refine tn 5 (.string ⟨m.value.toArray⟩) rfl (fun w' hS=>by have q:=cval hS 20 (.string ⟨m.value.toArray⟩);go_simp) S.m ?_;refine tp 6 ⟨g,21,none⟩ rfl S.m ?_;have s:=cval S.x 21 Es;have z:=aj S.x 21;replace S:=(S.set 21 (.string ⟨m.oid.toArray⟩)).as (show _=Mg.row ({id:=m.id,op:=m.op,ctl:=.slice ak nk ck,code:=m.code,matched:=m.matched,text:=m.text,oid:=m.oid}:Mg) from rfl);refine ao 7 rfl (kks S.m ?_);clear s z;generalize wr.setCell ⟨g,21,none⟩ (.string ⟨m.oid.toArray⟩)=wr at S⊢;refine tp 8 ⟨g,22,none⟩ rfl S.m ?_;have s:=cval S.x 22 Bf;have z:=aj S.x 22;replace S:=(S.set 22 (.bool m.has)).as (show _=Mg.row ({id:=m.id,op:=m.op,ctl:=.slice ak nk ck,code:=m.code,matched:=m.matched,text:=m.text,oid:=m.oid,has:=m.has}:Mg) from rfl);refine ao 9 rfl (kks S.m ?_);clear s z;generalize wr.setCell ⟨g,22,none⟩ (.bool m.has)=wr at S⊢;refine tp 10 ⟨g,20,none⟩ rfl S.m ?_;have s:=cval S.x 20 Es;have z:=aj S.x 20;replace S:=(S.set 20 (.string ⟨m.value.toArray⟩)).as (show _=Mg.row ({id:=m.id,op:=m.op,ctl:=.slice ak nk ck,code:=m.code,matched:=m.matched,text:=m.text,oid:=m.oid,has:=m.has,value:=m.value}:Mg) from rfl);refine ao 11 rfl (kks S.m ?_);clear s z;generalize wr.setCell ⟨g,20,none⟩ (.string ⟨m.value.toArray⟩)=wr at S⊢;refine xk (by kernel_rfl) ?_ _
    try simp only[Exit.then]
    refine‹∀(a:Act) (w:World),Code.wp _ _ _ a w→_› _ _ ?_;have q22:=cval S.m 22 (.bool m.has);have q20:=cval S.m 20 (.string ⟨m.value.toArray⟩);refine if k1:m.has=true then ?A27 else ?B27
    case' A27=>
     go_upto_region 36 with fail
     clear q22 q20;replace S:=S.as (show _=Mg.row (bo m) from by rw[bo,if_neg h0,if_neg h3,if_neg h6,if_neg h8,if_neg h10,if_neg h12,if_neg h14,if_neg h16,if_neg h23,if_pos h24];simp only[Mg.row, LC.out]);have HK:=hid (show br m l=true from by rw[br,if_neg h0,if_neg h2,if_neg h3,if_neg h6,if_neg h8,if_neg h10,if_neg h12,if_neg h14,if_neg h16,if_neg h23,if_pos h24];simp[k1,rc])
    case' B27=>
     replace k1:m.has=false:=Bool.eq_false_iff.2 k1;refine if k2:m.value=[] then ?A26 else ?B26
     case' A26=>
      go_upto_region 36 with fail
      clear q22 q20;replace S:=S.as (show _=Mg.row (bo m) from by rw[bo,if_neg h0,if_neg h3,if_neg h6,if_neg h8,if_neg h10,if_neg h12,if_neg h14,if_neg h16,if_neg h23,if_pos h24];simp only[Mg.row, LC.out]);have HK:=hid (show br m l=true from by rw[br,if_neg h0,if_neg h2,if_neg h3,if_neg h6,if_neg h8,if_neg h10,if_neg h12,if_neg h14,if_neg h16,if_neg h23,if_pos h24];simp[k1,k2,rc])
     case' B26=>
      have k3:m.value.isEmpty=false:=by cases hq:m.value with
       |nil=>exact absurd hq k2
       |cons a b=>rfl
      go_upto_region 36 with fail
      clear q22 q20;replace S:=S.as (show _=Mg.row (bo m) from by rw[bo,if_neg h0,if_neg h3,if_neg h6,if_neg h8,if_neg h10,if_neg h12,if_neg h14,if_neg h16,if_neg h23,if_pos h24];simp only[Mg.row, LC.out]);have HK:=hid (show br m l=false from by rw[br,if_neg h0,if_neg h2,if_neg h3,if_neg h6,if_neg h8,if_neg h10,if_neg h12,if_neg h14,if_neg h16,if_neg h23,if_pos h24];simp[k1,k2,rc])
   case' B28=>
    have i24:(m.op==24)=false:=aE h24;have kc:=dA m.code 2147483647 wr;rw[rc] at kc
    go_wp2_with fail
    refine ag kc ?_;rintro e w' ⟨rfl,hw'⟩;obtain rfl:=hw'.symm;clear kc
    go_upto_region 36 with fail
    clear q1 q24;replace S:=S.as (show _=Mg.row (bo m) from by rw[bo,if_neg h0,if_neg h3,if_neg h6,if_neg h8,if_neg h10,if_neg h12,if_neg h14,if_neg h16,if_neg h23,if_neg h24,if_pos hc];simp only[Mg.row, LC.out]);have HK:=hid (show br m l=true from by rw[br,if_neg h0,if_neg h2,if_neg h3,if_neg h6,if_neg h8,if_neg h10,if_neg h12,if_neg h14,if_neg h16,if_neg h23,if_neg h24,if_pos hc];exact rc)
  case' B30=>
   replace rc:bB m.code 2147483647=false:=Bool.eq_false_iff.2 rc;refine if h24:m.op=24 then ?A29 else ?B29
   case' A29=>
    have i24:(m.op==24)=true:=by rw[h24];rfl
    have kc:=dA m.code 2147483647 wr;rw[rc] at kc
    go_wp2_with fail
    refine ag kc ?_;rintro e w' ⟨rfl,hw'⟩;obtain rfl:=hw'.symm;clear kc
    go_upto_region 34 with fail
    clear q1 q24;refine aR (S:=fun w'=>Hc w' w.heap.size m.row 32) (by kernel_rfl) ?_;replace S:=S.drew
    change wpAnyH _ _ _ _ _ _ _ _ wr.drew
    generalize wr.drew=wr at S⊢;refine tp 0 ⟨w.heap.size,21,none⟩ rfl S.m ?_;refine tn 1 (.string ⟨m.oid.toArray⟩) rfl (fun w' hS=>by have q:=cval hS 21 (.string ⟨m.oid.toArray⟩);go_simp) S.m ?_;refine tp 2 ⟨w.heap.size,22,none⟩ rfl S.m ?_;refine tn 3 (.bool m.has) rfl (fun w' hS=>by have q:=cval hS 22 (.bool m.has);go_simp) S.m ?_;refine tp 4 ⟨w.heap.size,20,none⟩ rfl S.m ?_;refine tn 5 (.string ⟨m.value.toArray⟩) rfl (fun w' hS=>by have q:=cval hS 20 (.string ⟨m.value.toArray⟩);go_simp) S.m ?_;refine tp 6 ⟨g,21,none⟩ rfl S.m ?_;have s:=cval S.x 21 Es;have z:=aj S.x 21;replace S:=(S.set 21 (.string ⟨m.oid.toArray⟩)).as (show _=Mg.row ({id:=m.id,op:=m.op,ctl:=.slice ak nk ck,code:=m.code,matched:=m.matched,text:=m.text,oid:=m.oid}:Mg) from rfl);refine ao 7 rfl (kks S.m ?_);clear s z;generalize wr.setCell ⟨g,21,none⟩ (.string ⟨m.oid.toArray⟩)=wr at S⊢;refine tp 8 ⟨g,22,none⟩ rfl S.m ?_;have s:=cval S.x 22 Bf;have z:=aj S.x 22;replace S:=(S.set 22 (.bool m.has)).as (show _=Mg.row ({id:=m.id,op:=m.op,ctl:=.slice ak nk ck,code:=m.code,matched:=m.matched,text:=m.text,oid:=m.oid,has:=m.has}:Mg) from rfl);refine ao 9 rfl (kks S.m ?_);clear s z;generalize wr.setCell ⟨g,22,none⟩ (.bool m.has)=wr at S⊢;refine tp 10 ⟨g,20,none⟩ rfl S.m ?_;have s:=cval S.x 20 Es;have z:=aj S.x 20;replace S:=(S.set 20 (.string ⟨m.value.toArray⟩)).as (show _=Mg.row ({id:=m.id,op:=m.op,ctl:=.slice ak nk ck,code:=m.code,matched:=m.matched,text:=m.text,oid:=m.oid,has:=m.has,value:=m.value}:Mg) from rfl);refine ao 11 rfl (kks S.m ?_);clear s z;generalize wr.setCell ⟨g,20,none⟩ (.string ⟨m.value.toArray⟩)=wr at S⊢;refine xk (by kernel_rfl) ?_ _
    try simp only[Exit.then]
    refine‹∀(a:Act) (w:World),Code.wp _ _ _ a w→_› _ _ ?_;have q22:=cval S.m 22 (.bool m.has);have q20:=cval S.m 20 (.string ⟨m.value.toArray⟩)
    go_upto_region 36 with fail
    clear q22 q20;replace S:=S.as (show _=Mg.row (bo m) from by rw[bo,if_neg h0,if_neg h3,if_neg h6,if_neg h8,if_neg h10,if_neg h12,if_neg h14,if_neg h16,if_neg h23,if_pos h24];simp only[Mg.row, LC.out]);have HK:=hid (show br m l=false from by rw[br,if_neg h0,if_neg h2,if_neg h3,if_neg h6,if_neg h8,if_neg h10,if_neg h12,if_neg h14,if_neg h16,if_neg h23,if_pos h24];simp[rc])
   case' B29=>
    have i24:(m.op==24)=false:=aE h24;have kc:=dA m.code 2147483647 wr;rw[rc] at kc
    go_wp2_with fail
    refine ag kc ?_;rintro e w' ⟨rfl,hw'⟩;obtain rfl:=hw'.symm;clear kc
    go_upto_region 36 with fail
    clear q1 q24;replace S:=S.as (show _=Mg.row (bo m) from by rw[bo,if_neg h0,if_neg h3,if_neg h6,if_neg h8,if_neg h10,if_neg h12,if_neg h14,if_neg h16,if_neg h23,if_neg h24,if_pos hc];simp only[Mg.row, LC.out]);have HK:=hid (show br m l=false from by rw[br,if_neg h0,if_neg h2,if_neg h3,if_neg h6,if_neg h8,if_neg h10,if_neg h12,if_neg h14,if_neg h16,if_neg h23,if_neg h24,if_pos hc];exact rc)
 case' B32=>
  replace hc:ez.contains m.op=false:=Bool.eq_false_iff.2 hc;refine if h24:m.op=24 then ?A31 else ?B31
  case' A31=>
   exfalso
   rw[h24] at hc;cases hc
  case' B31=>
   have hc':=hc;have q1:=cval S.m 1 (.int .i64 m.op);have kc:=yF m.op wr;rw[hc] at kc
   go_wp2_with fail
   refine ag kc ?_;rintro e w' ⟨rfl,hb⟩;replace S:=S.to hb;clear kc hb q1;generalize w'=wr at S⊢;have hc:¬ez.contains m.op=true:=by rw[hc'];decide
   go_upto_region 36 with fail
   replace S:=S.as (show _=Mg.row (bo m) from by rw[bo,if_neg h0,if_neg h3,if_neg h6,if_neg h8,if_neg h10,if_neg h12,if_neg h14,if_neg h16,if_neg h23,if_neg h24,if_neg hc];simp only[Mg.row, LC.out]);have HK:=hid (show br m l=false from by rw[br,if_neg h0,if_neg h2,if_neg h3,if_neg h6,if_neg h8,if_neg h10,if_neg h12,if_neg h14,if_neg h16,if_neg h23,if_neg h24,if_neg hc])
 all_goals
  have one:=fF H1.out;obtain⟨X,hX⟩:=nmm (Mg.row (bo m));have hX2:X.size=28:=by rw[←hX];rfl
  rw[hX] at S one;obtain⟨HX,HX2,ONE⟩:=Ch hX hX2 one;have x:=S.x;have t:=S.res;obtain⟨b60,t60⟩:=Cg (xo S.bel (g:=w.heap.size+1) (by omega) X) (setRow_heap wr (w.heap.size+1) _ X _ _ S.res);clear hX hX2 one S H1 KM KF;refine aQ ?_;refine ldM (.tmp 4) x HX2.out ?_;refine aB rfl (kkn ?_);refine stM (.tmp 2) (.tmp 231) X t HX2.out ONE.out ?_;have b60:=b60.out;have t60:=t60.out;generalize wr.setRow (w.heap.size+1) X=w60 at b60 t60⊢;clear x t;go_simp
  go_wp2_with fail
  refine aH (v:=.tuple #[.agg X,.bool (br m l)]) ?_ rfl ⟨by rw[HX.out],b60⟩;have hr:=rlM t60 HX2.out;rw[HK.out]
  simp[results,Tryz.f43]
  show((Sem.run Tryz.prog (loadVar 32 ⟨w.heap.size+1,0,none⟩) w60).andThen _)=_;rw[hr]
  simp
theorem ru(m:Mg)(l:Ls)(w:World)(hm:MgM w m l)(hl:l.mods.length≤1000000000)
  (kf:m.op=3→∀w':World,Bw w w'→Calls Tryz.prog 70 #[m.filt] w' fun e w2=>e=.returned (.bool (dz l.filt))∧Bw w' w2):
  Cr 43 #[.agg (Mg.row m)] w (.tuple #[.agg (Mg.row (bo m)),.bool (br m l)]):=by
 by_cases hg:(m.op=0)∨(m.op=2)
 ·exact sN m l w hg hm hl kf
 have h0:¬(m.op=0):=by omega
 have h2:¬(m.op=2):=by omega
 clear hg
 by_cases hg:(m.op=3)
 ·exact sO m l w h0 h2 hg hm hl kf
 have h3:¬(m.op=3):=by omega
 clear hg
 by_cases hg:(m.op=6)∨(m.op=8∨m.op=4)
 ·exact sP m l w h0 h2 h3 hg hm hl kf
 have h6:¬(m.op=6):=by omega
 have h8:¬(m.op=8∨m.op=4):=by omega
 clear hg
 by_cases hg:(m.op=10)∨(m.op=12)∨(m.op=14)
 ·exact sQ m l w h0 h2 h3 h6 h8 hg hm hl kf
 have h10:¬(m.op=10):=by omega
 have h12:¬(m.op=12):=by omega
 have h14:¬(m.op=14):=by omega
 clear hg
 by_cases hg:(m.op=16)∨(m.op=23)
 ·exact sR m l w h0 h2 h3 h6 h8 h10 h12 h14 hg hm hl kf
 have h16:¬(m.op=16):=by omega
 have h23:¬(m.op=23):=by omega
 clear hg;exact sS m l w h0 h2 h3 h6 h8 h10 h12 h14 h16 h23 hm hl kf
theorem io(a b:List UInt8):((⟨a.toArray⟩:ByteArray).toList==(⟨b.toArray⟩:ByteArray).toList)=decide (a=b):=by
 simp only[ByteArray.toList_eq]
 by_cases h:a=b
 ·subst h;simp
 ·rw[an h];simpa using h
section
variable {P:Program} (w:World)
theorem fj(d:Nat)(e:TypeId)(c:Nat)(xs ys:Array Value)(bs:Nat→Bool):∀is:List Nat,(∀i,i∈is→∃x y,(part e xs (i*c)).run P w=.ok x w∧(part e ys (i*c)).run P w=.ok y w∧(Op.equalIn d e x y).run P w=.ok (bs i) w)→(Op.eqItems d e c xs ys is).run P w=.ok (is.all bs) w
 |[],_=>by simp[Op.eqItems]
 |i::is,h=>by
  obtain⟨x,y,h1,h2,h3⟩:=h i (by simp);have ih:=fj d e c xs ys bs is (fun j hj=>h j (List.mem_cons_of_mem _ hj));cases hb:bs i
  ·rw[hb] at h3;simp[Op.eqItems,h1,h2,h3,hb]
  ·rw[hb] at h3;simp[Op.eqItems,h1,h2,h3,hb,ih]
theorem bW(d:Nat){t tx:TypeId}{v u:Value}{ms:Array (String×TypeId)}{i:TypeInfo}{b:Bool}(hu:P.underlying t=some (.interface ms))(hi:P.info? tx=some i)(hc:i.comparable=true)(h:(Op.equalIn d tx v u).run P w=.ok b w):
  (Op.equalIn (d+1) t (.iface tx v) (.iface tx u)).run P w=.ok b w:=by
 simp[Op.equalIn,run_underlying hu,typeInfo,hi,hc,h]
end
theorem kM(a b:Bool):(a==b)=decide (a=b):=by cases a<;>cases b<;>rfl
theorem rz(d:Nat)(a0 a1 a2 b0 b1 b2:List UInt8)(w:World):(Op.equalIn (d+2) 114 (.agg #[.string ⟨a0.toArray⟩,.string ⟨a1.toArray⟩,.string ⟨a2.toArray⟩]) (.agg #[.string ⟨b0.toArray⟩,.string ⟨b1.toArray⟩,.string ⟨b2.toArray⟩])).run Tryz.prog w=.ok (decide (a0=b0)&&decide (a1=b1)&&decide (a2=b2)) w:=by
 obtain⟨i,hi⟩:∃i,Tryz.prog.info? 9=some i:=⟨_,rfl⟩;have hc:Tryz.prog.cellsOf 9=1:=by kernel_rfl
 have hu:Tryz.prog.underlying 9=some .string:=by rfl
 rw[run_equalIn_array (n:=3) (e:=9) w (d+1) _ _ (by rfl) hi,hc];rw[fj w _ _ _ _ _ (fun i=>[decide (a0=b0),decide (a1=b1),decide (a2=b2)].getD i true) _ (fun j hj=>?_)]
 ·simp[List.range_succ,Bool.and_assoc]
 have h3:j<3:=by simpa using hj
 have h4:j=0∨j=1∨j=2:=by omega
 rcases h4 with rfl|rfl|rfl
 ·exact⟨.string ⟨a0.toArray⟩,.string ⟨b0.toArray⟩,cA w hu rfl rfl,cA w hu rfl rfl,by rw[run_equalIn_string w d _ _ _ hu,io];rfl⟩
 ·exact⟨.string ⟨a1.toArray⟩,.string ⟨b1.toArray⟩,cA w hu rfl rfl,cA w hu rfl rfl,by rw[run_equalIn_string w d _ _ _ hu,io];rfl⟩
 ·exact⟨.string ⟨a2.toArray⟩,.string ⟨b2.toArray⟩,cA w hu rfl rfl,cA w hu rfl rfl,by rw[run_equalIn_string w d _ _ _ hu,io];rfl⟩
theorem mf(d:Nat)(a0 a1 b0 b1:List UInt8)(w:World):(Op.equalIn (d+2) 116 (.agg #[.string ⟨a0.toArray⟩,.string ⟨a1.toArray⟩]) (.agg #[.string ⟨b0.toArray⟩,.string ⟨b1.toArray⟩])).run Tryz.prog w=.ok (decide (a0=b0)&&decide (a1=b1)) w:=by
 obtain⟨i,hi⟩:∃i,Tryz.prog.info? 9=some i:=⟨_,rfl⟩;have hc:Tryz.prog.cellsOf 9=1:=by kernel_rfl
 have hu:Tryz.prog.underlying 9=some .string:=by rfl
 rw[run_equalIn_array (n:=2) (e:=9) w (d+1) _ _ (by rfl) hi,hc];rw[fj w _ _ _ _ _ (fun i=>[decide (a0=b0),decide (a1=b1)].getD i true) _ (fun j hj=>?_)]
 ·simp[List.range_succ]
 have h3:j<2:=by simpa using hj
 have h4:j=0∨j=1:=by omega
 rcases h4 with rfl|rfl
 ·exact⟨.string ⟨a0.toArray⟩,.string ⟨b0.toArray⟩,cA w hu rfl rfl,cA w hu rfl rfl,by rw[run_equalIn_string w d _ _ _ hu,io];rfl⟩
 ·exact⟨.string ⟨a1.toArray⟩,.string ⟨b1.toArray⟩,cA w hu rfl rfl,cA w hu rfl rfl,by rw[run_equalIn_string w d _ _ _ hu,io];rfl⟩
theorem rB(d:Nat)(a0 a1 b0 b1:Bool)(w:World):(Op.equalIn (d+2) 115 (.agg #[.bool a0,.bool a1]) (.agg #[.bool b0,.bool b1])).run Tryz.prog w=.ok (decide (a0=b0)&&decide (a1=b1)) w:=by
 obtain⟨i,hi⟩:∃i,Tryz.prog.info? 4=some i:=⟨_,rfl⟩;have hc:Tryz.prog.cellsOf 4=1:=by kernel_rfl
 have hu:Tryz.prog.underlying 4=some .bool:=by rfl
 rw[run_equalIn_array (n:=2) (e:=4) w (d+1) _ _ (by rfl) hi,hc];rw[fj w _ _ _ _ _ (fun i=>[decide (a0=b0),decide (a1=b1)].getD i true) _ (fun j hj=>?_)]
 ·simp[List.range_succ]
 have h3:j<2:=by simpa using hj
 have h4:j=0∨j=1:=by omega
 rcases h4 with rfl|rfl
 ·exact⟨.bool a0,.bool b0,cA w hu rfl rfl,cA w hu rfl rfl,by rw[run_equalIn_bool' w d _ _ _ hu,kM];rfl⟩
 ·exact⟨.bool a1,.bool b1,cA w hu rfl rfl,cA w hu rfl rfl,by rw[run_equalIn_bool' w d _ _ _ hu,kM];rfl⟩
def wJ(a b:Mg):Bool:=[decide (a.ver=b.ver),decide (a.dn=b.dn),decide (a.sasl=b.sasl),decide (a.secret=b.secret),decide (a.scope=b.scope),decide (a.deref=b.deref),decide (a.size=b.size),decide (a.time=b.time),decide (a.types=b.types),(decide (a.newRdn=b.newRdn)&&decide (a.newSup=b.newSup)&&decide (a.typ=b.typ)),(decide (a.delOld=b.delOld)&&decide (a.hasSup=b.hasSup)),(decide (a.value=b.value)&&decide (a.oid=b.oid)),decide (a.has=b.has),decide (a.target=b.target),decide (a.code=b.code),(decide (a.matched=b.matched)&&decide (a.text=b.text))].all id
theorem pV(a b:Mg)(w:World):(Op.equal 79 (.agg a.pv) (.agg b.pv)).run Tryz.prog w=.ok (wJ a b) w:=by
 obtain⟨i,hi⟩:∃i,Tryz.prog.info? 20=some i:=⟨_,rfl⟩;have hc:Tryz.prog.cellsOf 20=1:=by kernel_rfl
 have hu:Tryz.prog.underlying 20=some (.interface #[]):=by rfl
 have key:∀d,(Op.equalIn (d+4) 79 (.agg a.pv) (.agg b.pv)).run Tryz.prog w=.ok (wJ a b) w:=by
  intro d;rw[run_equalIn_array (n:=16) (e:=20) w (d+3) _ _ (by rfl) hi,hc];rw[fj w _ _ _ _ _ (fun i=>[decide (a.ver=b.ver),decide (a.dn=b.dn),decide (a.sasl=b.sasl),decide (a.secret=b.secret),decide (a.scope=b.scope),decide (a.deref=b.deref),decide (a.size=b.size),decide (a.time=b.time),decide (a.types=b.types),(decide (a.newRdn=b.newRdn)&&decide (a.newSup=b.newSup)&&decide (a.typ=b.typ)),(decide (a.delOld=b.delOld)&&decide (a.hasSup=b.hasSup)),(decide (a.value=b.value)&&decide (a.oid=b.oid)),decide (a.has=b.has),decide (a.target=b.target),decide (a.code=b.code),(decide (a.matched=b.matched)&&decide (a.text=b.text))].getD i true) _ (fun j hj=>?_)]
  ·simp[List.range_succ,wJ,Bool.and_assoc]
  have h3:j<16:=by simpa using hj
  have h4:j=0∨j=1∨j=2∨j=3∨j=4∨j=5∨j=6∨j=7∨j=8∨j=9∨j=10∨j=11∨j=12∨j=13∨j=14∨j=15:=by omega
  have hs:∀a b:List UInt8,(Op.equalIn (d+2) 9 (.string ⟨a.toArray⟩) (.string ⟨b.toArray⟩)).run Tryz.prog w=.ok (decide (a=b)) w:=fun a b=>by rw[run_equalIn_string w (d+1) _ _ _ (by rfl),io]
  have hn:∀a b:Int,(Op.equalIn (d+2) 3 (.int .i64 a) (.int .i64 b)).run Tryz.prog w=.ok (decide (a=b)) w:=fun a b=>by rw[run_equalIn_int w (d+1) _ _ .i64 _ _ (by rfl)];rfl
  have hb:∀a b:Bool,(Op.equalIn (d+2) 4 (.bool a) (.bool b)).run Tryz.prog w=.ok (decide (a=b)) w:=fun a b=>by rw[run_equalIn_bool' w (d+1) _ _ _ (by rfl),kM]
  rcases h4 with rfl|rfl|rfl|rfl|rfl|rfl|rfl|rfl|rfl|rfl|rfl|rfl|rfl|rfl|rfl|rfl
  ·obtain⟨i,h1,h2⟩:=bX 3 (by simp)
   exact⟨_,_,cA w hu rfl rfl,cA w hu rfl rfl,bW w (d+2) hu h1 h2 (hn _ _)⟩
  ·obtain⟨i,h1,h2⟩:=bX 9 (by simp)
   exact⟨_,_,cA w hu rfl rfl,cA w hu rfl rfl,bW w (d+2) hu h1 h2 (hs _ _)⟩
  ·obtain⟨i,h1,h2⟩:=bX 4 (by simp)
   exact⟨_,_,cA w hu rfl rfl,cA w hu rfl rfl,bW w (d+2) hu h1 h2 (hb _ _)⟩
  ·obtain⟨i,h1,h2⟩:=bX 9 (by simp)
   exact⟨_,_,cA w hu rfl rfl,cA w hu rfl rfl,bW w (d+2) hu h1 h2 (hs _ _)⟩
  ·obtain⟨i,h1,h2⟩:=bX 3 (by simp)
   exact⟨_,_,cA w hu rfl rfl,cA w hu rfl rfl,bW w (d+2) hu h1 h2 (hn _ _)⟩
  ·obtain⟨i,h1,h2⟩:=bX 3 (by simp)
   exact⟨_,_,cA w hu rfl rfl,cA w hu rfl rfl,bW w (d+2) hu h1 h2 (hn _ _)⟩
  ·obtain⟨i,h1,h2⟩:=bX 3 (by simp)
   exact⟨_,_,cA w hu rfl rfl,cA w hu rfl rfl,bW w (d+2) hu h1 h2 (hn _ _)⟩
  ·obtain⟨i,h1,h2⟩:=bX 3 (by simp)
   exact⟨_,_,cA w hu rfl rfl,cA w hu rfl rfl,bW w (d+2) hu h1 h2 (hn _ _)⟩
  ·obtain⟨i,h1,h2⟩:=bX 4 (by simp)
   exact⟨_,_,cA w hu rfl rfl,cA w hu rfl rfl,bW w (d+2) hu h1 h2 (hb _ _)⟩
  ·obtain⟨i,h1,h2⟩:=bX 114 (by simp)
   exact⟨_,_,cA w hu rfl rfl,cA w hu rfl rfl,bW w (d+2) hu h1 h2 (rz d _ _ _ _ _ _ w)⟩
  ·obtain⟨i,h1,h2⟩:=bX 115 (by simp)
   exact⟨_,_,cA w hu rfl rfl,cA w hu rfl rfl,bW w (d+2) hu h1 h2 (rB d _ _ _ _ w)⟩
  ·obtain⟨i,h1,h2⟩:=bX 116 (by simp)
   exact⟨_,_,cA w hu rfl rfl,cA w hu rfl rfl,bW w (d+2) hu h1 h2 (mf d _ _ _ _ w)⟩
  ·obtain⟨i,h1,h2⟩:=bX 4 (by simp)
   exact⟨_,_,cA w hu rfl rfl,cA w hu rfl rfl,bW w (d+2) hu h1 h2 (hb _ _)⟩
  ·obtain⟨i,h1,h2⟩:=bX 3 (by simp)
   exact⟨_,_,cA w hu rfl rfl,cA w hu rfl rfl,bW w (d+2) hu h1 h2 (hn _ _)⟩
  ·obtain⟨i,h1,h2⟩:=bX 3 (by simp)
   exact⟨_,_,cA w hu rfl rfl,cA w hu rfl rfl,bW w (d+2) hu h1 h2 (hn _ _)⟩
  ·obtain⟨i,h1,h2⟩:=bX 116 (by simp)
   exact⟨_,_,cA w hu rfl rfl,cA w hu rfl rfl,bW w (d+2) hu h1 h2 (mf d _ _ _ _ w)⟩
 exact key 9996
theorem dv{P:Program}{md:Region.Mode}{ops:Array Oper}{Q:Exit→Act→World→Prop}{S:World→Prop}(i:Nat){oi:Oper}{fuel:Nat}{listed:Array Bool}{a:Act}{w:World}(hi:ops[i]?=some oi)
  (hs:Region.noSelect ops=true) (hf:Region.free md ops listed i=true) (hr:(Region.ready md ops listed).contains i=true) (hQ:∀c a w,Q (.panic c) (a.put oi.dst undef) w→Q (.panic c) a w)
  (hw:Region.wanted oi (yielded ops a.tmps)=false) (hS:S w)
  (h:∀K':Act→World→Prop,(∀a w,wpAnyH P md ops Q S fuel (listed.setIfInBounds i true) a w→K' a w)→K' (a.put oi.dst undef) w):wpAnyH P md ops Q S (fuel+1) listed a w:=
 wpAnyH_take hi hs hf hr hQ (Or.inr ⟨hw,rfl⟩) hS (h _ (fun _ _ k=>k))
def iy(m:Mg)(l:Ls):Nat:=if m.op=3 then l.filt.length else 0
def iz(m:Mg)(l:Ls):Nat:=if m.op=3 then l.sel.length else 0
def gQ(m:Mg)(l:Ls):Nat:=if m.op=6 then l.mods.length else 0
def wQ(m:Mg)(l:Ls):Nat:=if m.op=8∨m.op=4 then l.attrs.length else 0
def iB(m:Mg)(l:Ls):Bool:=(iy m l==l.filt.length)&&(iz m l==l.sel.length)&&(gQ m l==l.mods.length)&&(wQ m l==l.attrs.length)
def bH(m:Mg)(l:Ls):Bool:=br m l&&bB m.id 2147483647&&wJ (bo m) m&&iB m l&&!(l.ctl.any eL)
theorem xW{w:World}{m:Mg}{l:Ls}(h:MgM w m l):(∃a c,(bo m).filt=.slice a (iy m l) c)∧(∃a c,(bo m).sel=.slice a (iz m l) c)∧(∃a c,(bo m).mods=.slice a (gQ m l) c)∧(∃a c,(bo m).attrs=.slice a (wQ m l) c)∧(∃a c,(bo m).ctl=.slice a l.ctl.length c):=by
 obtain⟨a1,c1,e1⟩:=h.filt.shape;obtain⟨a2,c2,e2,-,-⟩:=h.sel;obtain⟨a3,c3,e3,-,-⟩:=h.mods;obtain⟨a4,c4,e4,-,-⟩:=h.attrs;obtain⟨a5,c5,e5,-,-⟩:=h.ctl;unfold bo iy iz gQ wQ
 by_cases h0:m.op=0
 ·simp[h0, e5]
 by_cases h3:m.op=3
 ·simp[h3,e1,e2, e5]
 by_cases h6:m.op=6
 ·simp[h6, e3, e5]
 by_cases h8:m.op=8∨m.op=4
 ·rcases h8 with h8|h8<;>simp[h8, e4,e5]
 simp only[h0,h3,h6,h8,if_false];refine⟨?_,?_,?_,?_,?_⟩
 all_goals (repeat' split)<;>simp[e5]
theorem AD{w:World}{m:Mg}{l:Ls}(h:MgM w m l):(Mg.row (bo m)).all (·.oneCell')=true:=by
 obtain⟨⟨a1,c1,e1⟩,⟨a2,c2,e2⟩,⟨a3,c3,e3⟩,⟨a4,c4,e4⟩,a5,c5,e5⟩:=xW h
 simp[Mg.row,Value.oneCell',e1,e2,e3,e4,e5]
theorem gR(m:Mg)(l:Ls)(w:World)(hm:MgM w m l)(hlm:l.mods.length≤1000000000)(hlc:l.ctl.length≤1000000000)
  (kf:m.op=3→∀w':World,Bw w w'→Calls Tryz.prog 70 #[m.filt] w' fun e w2=>e=.returned (.bool (dz l.filt))∧Bw w' w2):
  Cr 22 #[.agg m.row] w (.bool (bH m l)):=by
 obtain⟨OK,hOK⟩:=nmm (bH m l);rw[hOK];have HOK:=hid hOK;clear hOK;obtain⟨A,hA⟩:=nmm m.row;have kb:∀w1,Bw w w1→Calls Tryz.prog 43 #[.agg A] w1 fun e w'=>e=.returned (.tuple #[.agg (Mg.row (bo m)),.bool (br m l)])∧Bw w1 w':=fun w1 hb=>by
  rw[←hA];exact ru m l w1 (hm.below hb) hlm (fun h3 w2 hb2=>kf h3 w2 ((btt hb hb2)))
 have kpA:=lK m;have kpX:=lK (bo m);have ke:=pV (bo m) m;have hcells:=AD hm;have hlists:=xW hm;obtain⟨X,hX⟩:=nmm (Mg.row (bo m));obtain⟨PA,hPA⟩:=nmm m.pv;obtain⟨PX,hPX⟩:=nmm ((bo m).pv);obtain⟨KB,hKB⟩:=nmm (br m l);obtain⟨EB,hEB⟩:=nmm (wJ (bo m) m);rw[hX,hKB] at kb;rw[hA];rw[hA,hPA] at kpA;rw[hX,hPX] at kpX;rw[hPA,hPX,hEB] at ke;rw[hX] at hcells;have hX2:X.size=28:=by rw[←hX];rfl
 have hA2:A.size=28:=by rw[←hA];rfl
 obtain⟨HKB,HPA,HPX,HE,HC,HL,HX,HX2,HA,HA2⟩:=Cz kb kpA kpX ke hcells hlists hX hX2 hA hA2;obtain⟨EKB,EEB,HM⟩:=Ch hKB hEB hm;clear kb kpA kpX ke hcells hlists hX hX2 hA hA2 hPA hPX hKB hEB hm kf;have b1:=alb w A 32;have m1:=alz w A 32
 go_enter Tryz.func22,Tryz.ntmps22
 go_upto_region 1 with fail
 generalize w.alloc (.cells A 32)=w1 at b1 m1⊢;have kb:=HKB.out w1 b1;clear HKB
 go_wp2_with (refine ldM (.tmp 1) m1 HA2.out ?_)
 refine ag kb ?_;rintro e w2 ⟨rfl,hb2⟩;have m2:=bkk hb2 m1;have b2:=btt b1 hb2;clear kb hb2 m1 b1;have x3:=alz w2 Zm 32;have b3:=b2.trans ((aA w2.heap.size w2).alloc (ah _) (.cells Zm 32)|>.mono b2.size);have m3:=(alloc_old w2 (.cells Zm 32) w.heap.size (gl m2)).trans m2;have hg:w.heap.size<w2.heap.size:=(gl m2);have b4:=xo b3 (g:=w2.heap.size) (by omega) X;have m4:=(setRow_other (w2.alloc (.cells Zm 32)) w2.heap.size w.heap.size X (by omega)).trans m3;have x4:=setRow_heap (w2.alloc (.cells Zm 32)) w2.heap.size _ X _ _ x3;have X3:=hid x3;clear b2 m2 b3 m3 x3
 go_wp2_with (refine stM (.tmp 3) (.tmp 8) X X3.out HX2.out HC.out ?_)
 generalize(w2.alloc (.cells Zm 32)).setRow w2.heap.size X=w4 at b4 m4 x4⊢;clear X3;generalize w2.heap.size=g at x4 hg⊢;refine aR (S:=fun w'=>Hc w' w.heap.size A 32∧Hc w' g X 32) (by kernel_rfl) ?_;have T:Hc w4.drew w.heap.size A 32∧Hc w4.drew g X 32:=⟨m4,x4⟩;have D:Bw w w4.drew:=b4.drew
 change wpAnyH _ _ _ _ _ _ _ _ w4.drew
 clear m4 x4 b4;generalize w4.drew=w5 at T D⊢;cases KB
 ·refine tn 0 (Bf) rfl (fun w' hS=>by go_simp) T ?_
  refine tn 1 (.bool true) rfl (fun w' hS=>by go_simp) T ?_;refine tn 2 (.bool true) rfl (fun w' hS=>by go_simp) T ?_;refine dv 3 rfl (by kernel_rfl) (by kernel_rfl) (by kernel_rfl) (fun _ _ _ h=>h) (by rfl) T (kkn ?_);refine dv 4 rfl (by kernel_rfl) (by kernel_rfl) (by kernel_rfl) (fun _ _ _ h=>h) (by rfl) T (kkn ?_);refine dv 5 rfl (by kernel_rfl) (by kernel_rfl) (by kernel_rfl) (fun _ _ _ h=>h) (by rfl) T (kkn ?_);refine dv 6 rfl (by kernel_rfl) (by kernel_rfl) (by kernel_rfl) (fun _ _ _ h=>h) (by rfl) T (kkn ?_);refine tn 7 (.bool true) rfl (fun w' hS=>by go_simp) T ?_;refine tn 8 (.bool true) rfl (fun w' hS=>by go_simp) T ?_;refine dv 9 rfl (by kernel_rfl) (by kernel_rfl) (by kernel_rfl) (fun _ _ _ h=>h) (by rfl) T (kkn ?_);refine dv 10 rfl (by kernel_rfl) (by kernel_rfl) (by kernel_rfl) (fun _ _ _ h=>h) (by rfl) T (kkn ?_);refine dv 11 rfl (by kernel_rfl) (by kernel_rfl) (by kernel_rfl) (fun _ _ _ h=>h) (by rfl) T (kkn ?_);refine dv 12 rfl (by kernel_rfl) (by kernel_rfl) (by kernel_rfl) (fun _ _ _ h=>h) (by rfl) T (kkn ?_);refine dv 13 rfl (by kernel_rfl) (by kernel_rfl) (by kernel_rfl) (fun _ _ _ h=>h) (by rfl) T (kkn ?_);refine tn 14 (.bool true) rfl (fun w' hS=>by go_simp) T ?_;refine tn 15 (.bool true) rfl (fun w' hS=>by go_simp) T ?_;refine xk (by kernel_rfl) ?_ _
  try simp only[Exit.then]
  refine‹∀(a:Act) (w:World),Code.wp _ _ _ a w→_› _ _ ?_;have hO:OK=false:=by rw[←HOK.out];simp[bH,EKB.out]
  have HO:=hid hO;clear hO
  go_wp2_with fail
  go_ret
  exact⟨by rw[HO.out];rfl,D⟩
 ·refine tn 0 (.bool true) rfl (fun w' hS=>by go_simp) T ?_
  refine tn 1 (Bf) rfl (fun w' hS=>by go_simp) T ?_;refine tn 2 (Bf) rfl (fun w' hS=>by go_simp) T ?_;refine tp 3 ⟨w.heap.size,0,none⟩ rfl T ?_;refine tn 4 (.int .i64 m.id) rfl (fun w' hS=>by have q:=(aq hS.1 0).trans (show _=some (Value.int .i64 m.id) from by rw[←HA.out];rfl);go_simp) T ?_;have kr:=dA m.id 2147483647 w5;obtain⟨RB,hRB⟩:=nmm (bB m.id 2147483647);rw[hRB] at kr;have ERB:=hid hRB;clear hRB;refine ao 5 rfl (fun K hK=>?_);go_simp;go_wp2_with fail
  refine ag kr ?_;rintro e w6 ⟨rfl,hw6⟩;rw[hw6];clear hw6 kr;refine hK _ _ T ?_;clear hK K
  cases RB
  ·refine tn 6 (.bool true) rfl (fun w' hS=>by go_simp) T ?_
   refine tn 7 (.bool true) rfl (fun w' hS=>by go_simp) T ?_;refine tn 8 (.bool true) rfl (fun w' hS=>by go_simp) T ?_;refine dv 9 rfl (by kernel_rfl) (by kernel_rfl) (by kernel_rfl) (fun _ _ _ h=>h) (by rfl) T (kkn ?_);refine dv 10 rfl (by kernel_rfl) (by kernel_rfl) (by kernel_rfl) (fun _ _ _ h=>h) (by rfl) T (kkn ?_);refine dv 11 rfl (by kernel_rfl) (by kernel_rfl) (by kernel_rfl) (fun _ _ _ h=>h) (by rfl) T (kkn ?_);refine dv 12 rfl (by kernel_rfl) (by kernel_rfl) (by kernel_rfl) (fun _ _ _ h=>h) (by rfl) T (kkn ?_);refine dv 13 rfl (by kernel_rfl) (by kernel_rfl) (by kernel_rfl) (fun _ _ _ h=>h) (by rfl) T (kkn ?_);refine tn 14 (.bool true) rfl (fun w' hS=>by go_simp) T ?_;refine tn 15 (.bool true) rfl (fun w' hS=>by go_simp) T ?_;refine xk (by kernel_rfl) ?_ _
   try simp only[Exit.then]
   refine‹∀(a:Act) (w:World),Code.wp _ _ _ a w→_› _ _ ?_;have hO:OK=false:=by rw[←HOK.out];simp[bH,ERB.out]
   have HO:=hid hO;clear hO
   go_wp2_with fail
   go_ret
   exact⟨by rw[HO.out];rfl,D⟩
  ·refine tn 6 (Bf) rfl (fun w' hS=>by go_simp) T ?_
   refine tn 7 (Bf) rfl (fun w' hS=>by go_simp) T ?_;refine tn 8 (Bf) rfl (fun w' hS=>by go_simp) T ?_;refine tn 9 (.agg X) rfl (fun w' hS=>by exact cU 32 (.tmp 3) rfl g 32 _ (0,0) (by rfl) hS.2 _ Tryz.underlying32 rfl (by rw[HX2.out];rfl)) T ?_;refine tn 11 (.agg A) rfl (fun w' hS=>by exact cU 32 (.tmp 1) rfl w.heap.size 32 _ (0,0) (by rfl) hS.1 _ Tryz.underlying32 rfl (by rw[HA2.out];rfl)) T ?_;have kp:=HPX.out w5;refine ao 10 rfl (fun K hK=>?_);go_simp;go_wp2_with fail
   refine ag kp ?_;rintro e w7 ⟨rfl,hb⟩;have T9:=(⟨(hb.block _ (gl T.1)).trans T.1,(hb.block _ (gl T.2)).trans T.2⟩:Hc w7 w.heap.size A 32∧Hc w7 g X 32);have D9:=btt D hb;clear kp hb T D;have T:=T9;have D:=D9;clear T9 D9;refine hK _ _ T ?_;clear hK K
   have kp:=HPA.out w7;refine ao 12 rfl (fun K hK=>?_);go_simp;go_wp2_with fail
   refine ag kp ?_;rintro e w8 ⟨rfl,hb⟩;have T9:=(⟨(hb.block _ (gl T.1)).trans T.1,(hb.block _ (gl T.2)).trans T.2⟩:Hc w8 w.heap.size A 32∧Hc w8 g X 32);have D9:=btt D hb;clear kp hb T D;have T:=T9;have D:=D9;clear T9 D9;refine hK _ _ T ?_;clear hK K
   have hgt:Tryz.prog.eqGuardType Tryz.prog.depth 79=false:=by kernel_rfl
   have HG:=hid hgt;clear hgt;cases EB
   ·refine tn 13 (.bool true) rfl (fun w' hS=>by have g:=HG.out;go_simp;rw[show Sem.run Tryz.prog (Op.equalIn 10000 79 (.agg PX) (.agg PA)) w'=.ok false w' from HE.out w'];rfl) T ?_
    refine tn 14 (.bool true) rfl (fun w' hS=>by go_simp) T ?_;refine tn 15 (.bool true) rfl (fun w' hS=>by go_simp) T ?_;refine xk (by kernel_rfl) ?_ _
    try simp only[Exit.then]
    refine‹∀(a:Act) (w:World),Code.wp _ _ _ a w→_› _ _ ?_;have hO:OK=false:=by rw[←HOK.out];simp[bH,EEB.out]
    have HO:=hid hO;clear hO
    go_wp2_with fail
    go_ret
    exact⟨by rw[HO.out];rfl,D⟩
   ·refine tn 13 (Bf) rfl (fun w' hS=>by have g:=HG.out;go_simp;rw[show Sem.run Tryz.prog (Op.equalIn 10000 79 (.agg PX) (.agg PA)) w'=.ok true w' from HE.out w'];rfl) T ?_
    refine tn 14 (Bf) rfl (fun w' hS=>by go_simp) T ?_;refine tn 15 (Bf) rfl (fun w' hS=>by go_simp) T ?_;refine xk (by kernel_rfl) ?_ _
    try simp only[Exit.then]
    refine‹∀(a:Act) (w:World),Code.wp _ _ _ a w→_› _ _ ?_;obtain⟨⟨a1,c1,e1⟩,⟨a2,c2,e2⟩,⟨a3,c3,e3⟩,⟨a4,c4,e4⟩,a5,c5,e5⟩:=HL.out;obtain⟨d1,f1,g1⟩:=HM.out.filt.shape;obtain⟨d2,f2,g2,-,-⟩:=HM.out.sel;obtain⟨d3,f3,g3,-,-⟩:=HM.out.mods;obtain⟨d4,f4,g4,-,-⟩:=HM.out.attrs;have hlens:iB m l=((iy m l==l.filt.length)&&(iz m l==l.sel.length)&&(gQ m l==l.mods.length)&&(wQ m l==l.attrs.length)):=rfl;have hAll:OK=(iB m l&&!(l.ctl.any eL)):=by rw[←HOK.out];simp[bH,EKB.out,ERB.out,EEB.out]
    rw[hlens] at hAll;have kc:=lP m.ctl l.ctl w8 (HM.out.ctl.below D) hlc;obtain⟨CB,hCB⟩:=nmm (l.ctl.any eL);rw[hCB] at hAll;have kc2:Calls Tryz.prog 46 #[m.ctl,.func (.func 47) #[] #[]] w8 fun e w'=>e=.returned (.bool CB)∧Bw w8 w':=by rw[←hCB];exact kc
    clear kc hCB hlens;have p11:w8.cell? ⟨w.heap.size,11,none⟩=some (.slice d1 (l.filt.length) f1):=(aq T.1 11).trans (by rw[←HA.out,←g1];rfl);have r11:w8.cell? ⟨g,11,none⟩=some (.slice a1 (iy m l) c1):=(aq T.2 11).trans (by rw[←HX.out,←e1];rfl);obtain⟨NX0,hNX0⟩:=nmm (iy m l);obtain⟨NM0,hNM0⟩:=nmm l.filt.length;rw[hNX0] at r11 hAll;rw[hNM0] at p11 hAll;clear hNX0 hNM0;have p12:w8.cell? ⟨w.heap.size,12,none⟩=some (.slice d2 (l.sel.length) f2):=(aq T.1 12).trans (by rw[←HA.out,←g2];rfl);have r12:w8.cell? ⟨g,12,none⟩=some (.slice a2 (iz m l) c2):=(aq T.2 12).trans (by rw[←HX.out,←e2];rfl);obtain⟨NX1,hNX1⟩:=nmm (iz m l);obtain⟨NM1,hNM1⟩:=nmm l.sel.length;rw[hNX1] at r12 hAll;rw[hNM1] at p12 hAll;clear hNX1 hNM1;have p13:w8.cell? ⟨w.heap.size,13,none⟩=some (.slice d3 (l.mods.length) f3):=(aq T.1 13).trans (by rw[←HA.out,←g3];rfl);have r13:w8.cell? ⟨g,13,none⟩=some (.slice a3 (gQ m l) c3):=(aq T.2 13).trans (by rw[←HX.out,←e3];rfl);obtain⟨NX2,hNX2⟩:=nmm (gQ m l);obtain⟨NM2,hNM2⟩:=nmm l.mods.length;rw[hNX2] at r13 hAll;rw[hNM2] at p13 hAll;clear hNX2 hNM2;have p14:w8.cell? ⟨w.heap.size,14,none⟩=some (.slice d4 (l.attrs.length) f4):=(aq T.1 14).trans (by rw[←HA.out,←g4];rfl);have r14:w8.cell? ⟨g,14,none⟩=some (.slice a4 (wQ m l) c4):=(aq T.2 14).trans (by rw[←HX.out,←e4];rfl);obtain⟨NX3,hNX3⟩:=nmm (wQ m l);obtain⟨NM3,hNM3⟩:=nmm l.attrs.length;rw[hNX3] at r14 hAll;rw[hNM3] at p14 hAll;clear hNX3 hNM3;obtain⟨d5,f5,g5,-,-⟩:=HM.out.ctl;have p27:w8.cell? ⟨w.heap.size,27,none⟩=some m.ctl:=(aq T.1 27).trans (by rw[←HA.out];rfl);rw[g5] at p27 kc2;clear T e1 e2 e3 e4 e5 g1 g2 g3 g4 g5
    by_cases h0:NX0=NM0
    rotate_left
    ·have i0:((NX0:Int)==(NM0:Int))=false:=by rw[beq_eq_false_iff_ne];omega
     have i0b:((NX0:Int) !=(NM0:Int))=true:=by simp only[bne,i0];rfl
     have hO:OK=false:=by rw[hAll,show(NX0==NM0)=false from aE h0];simp
     have HO:=hid hO;clear hO hAll h0
     go_wp2_with fail
     go_ret
     exact⟨by rw[HO.out];rfl,D⟩
    subst h0
    by_cases h1:NX1=NM1
    rotate_left
    ·have i1:((NX1:Int)==(NM1:Int))=false:=by rw[beq_eq_false_iff_ne];omega
     have i1b:((NX1:Int) !=(NM1:Int))=true:=by simp only[bne,i1];rfl
     have hO:OK=false:=by rw[hAll,show(NX1==NM1)=false from aE h1];simp
     have HO:=hid hO;clear hO hAll h1
     go_wp2_with fail
     go_ret
     exact⟨by rw[HO.out];rfl,D⟩
    subst h1
    by_cases h2:NX2=NM2
    rotate_left
    ·have i2:((NX2:Int)==(NM2:Int))=false:=by rw[beq_eq_false_iff_ne];omega
     have i2b:((NX2:Int) !=(NM2:Int))=true:=by simp only[bne,i2];rfl
     have hO:OK=false:=by rw[hAll,show(NX2==NM2)=false from aE h2];simp
     have HO:=hid hO;clear hO hAll h2
     go_wp2_with fail
     go_ret
     exact⟨by rw[HO.out];rfl,D⟩
    subst h2
    by_cases h3:NX3=NM3
    rotate_left
    ·have i3:((NX3:Int)==(NM3:Int))=false:=by rw[beq_eq_false_iff_ne];omega
     have i3b:((NX3:Int) !=(NM3:Int))=true:=by simp only[bne,i3];rfl
     have hO:OK=false:=by rw[hAll,show(NX3==NM3)=false from aE h3];simp
     have HO:=hid hO;clear hO hAll h3
     go_wp2_with fail
     go_ret
     exact⟨by rw[HO.out];rfl,D⟩
    subst h3;have hO:OK=!CB:=by rw[hAll];simp
    have HO:=hid hO;clear hO hAll
    go_wp2_with fail
    refine ag kc2 ?_;rintro e w9 ⟨rfl,hb⟩;have D9:=btt D hb;clear kc2 hb D
    go_wp2_with fail
    go_ret
    exact⟨by rw[HO.out];rfl,D9⟩
end Go.Proofs.YtfhghdcbofbceaaGreatDoor
