/- BlK. -/
import Derived.Test.YthjaiigijbjloaaGreatDoorW16
namespace Go.Proofs.YthjaiigijbjloaaGreatDoor
open Go.RowKit Go.Lib
set_option maxRecDepth 100000
set_option maxHeartbeats 16000000
theorem BaS.grown{w wx wy:World}{m:Mg}{xs ys:Array Value}{g:Nat}(h:BaS w m xs g wx)(k:wx.grownBy wy (some g))(hy:wy.heap[g]?=some (.cells ys 28 (0,0))):BaS w m ys g wy:=by
 have l:=h.lt;have f:∀{j:Nat} {y:Obj},j≠g→wx.heap[j]?=some y→wy.heap[j]?=some y:=fun hj q=>(k.block _ (gl q) (fun e=>hj (aD e))).trans q
 exact⟨f (by omega) h.m,f (by omega) h.res,hy,h.bel.grown k h.bel.size (fun j hj=>by have:=aD hj;omega),l⟩
theorem xX{P:Program}{w:World}{o:Oper}{a:Act}{K:Act→World→Prop}{Q:Exit→Act→World→Prop}(t:TypeId)(x y:Operand)(ho:o.op=.store t x y)
  (g:Nat) (ty:TypeId) (old cs:Array Value) (hx:a.eval x=.pointer (some ⟨g,0,none⟩)) (hy:a.eval y=.agg cs) (hg:w.heap[g]?=some (.cells old ty (0,0))) (hi:(P.info? t).map (·.size)=some cs.size) (hs:old.size=cs.size) (h1:cs.all (·.oneCell')=true)
  (h:K (a.put o.dst undef) (w.setRow g cs)):Oper.wp P o a w K Q:=by
 have hr:=run_storeVar_row (P:=P) w g ty t old cs hg hi hs h1;unfold Oper.wp execOp;simp only[ho,hx,hy,Instr.storeAt,Instr.sureAddr,Sem.run_bind,Sem.run_pure,Result.andThen_ok,hr];exact h
theorem lb(v lo hi:Int)(w:World):Calls Tryz.prog 95 #[.int .i64 v,.int .i64 lo,.int .i64 hi] w fun e w'=>e=.returned (.bool (decide (lo≤v)&&decide (v≤hi)))∧w'=w:=by
 by_cases h1:lo≤v
 ·have f1:decide (lo≤v)=true:=aL h1
  have f2:decide (v≥lo)=true:=aL h1
  go_enter Tryz.func95,Tryz.ntmps95
  go_wp2_with fail
  go_ret
  exact⟨by rw[f1,Bool.true_and];rfl,rfl⟩
 ·have f1:decide (lo≤v)=false:=an h1
  have f2:decide (v≥lo)=false:=an h1
  go_enter Tryz.func95,Tryz.ntmps95
  go_wp2_with fail
  go_ret
  exact⟨rfl,rfl⟩
theorem qn(v hi:Int):(decide ((0:Int)≤v)&&decide (v≤hi))=bB v hi:=rfl
theorem Ay(m:Mg)(l:Ls)(w:World)(hm:MgM w m l)(hl:l.mods.length≤1000000000)(hcl:l.ctl.length≤1000000000)
  (kf:∀w':World,Below w.heap.size w w'→Calls Tryz.prog 96 #[m.filt] w' fun e w2=>e=.returned (.bool (dz l.filt))∧Below w'.heap.size w' w2):
  Cr 44 #[.agg (Mg.row m)] w (.tuple #[.agg (Mg.row (bo m)),.bool (br m l&&l.ctl.all (fun c=>!eL c)&&bB m.id 2147483647)]):=by
 obtain⟨H1,HMD,HCT⟩:=Ch (Mg.row_one hm) hm.mods hm.ctl;obtain⟨af,cf,hf⟩:=hm.filt.shape;obtain⟨az,cz,hs,-,-⟩:=hm.sel;obtain⟨am,cm,hmo,-,-⟩:=hm.mods;obtain⟨aa,ca,hat,-,-⟩:=hm.attrs;obtain⟨ak,ck,hct,-,-⟩:=hm.ctl;have ROW:=hid (show ∀v∈m.row.toList,yS v=true from by
  intro v hv;simp only[Mg.row,aY,aZ,or_false] at hv;rcases hv with rfl|rfl|rfl|rfl|rfl|rfl|rfl|rfl|rfl|rfl|rfl|rfl|rfl|rfl|rfl|rfl|rfl|rfl|rfl|rfl|rfl|rfl|rfl|rfl|rfl|rfl|rfl|rfl<;>first|rfl|(rw[hf];rfl)|(rw[hs];rfl)|(rw[hmo];rfl)|(rw[hat];rfl)|(rw[hct];rfl))
 obtain⟨nf,hnf⟩:=nmm l.filt.length;obtain⟨nz,hns⟩:=nmm l.sel.length;obtain⟨nm,hnm⟩:=nmm l.mods.length;obtain⟨na,hna⟩:=nmm l.attrs.length;obtain⟨nk,hnk⟩:=nmm l.ctl.length;rw[hnf] at hf;rw[hns] at hs;rw[hnm] at hmo;rw[hna] at hat;rw[hnk] at hct;rw[hf] at kf;obtain⟨KF,LF,LS,LM,LA,LC,NM,NK⟩:=Cx kf hf hs hmo hat hct hnm hnk;clear hf hs hmo hat hct hnf hns hnm hna hnk;have b1:Below w.heap.size w ((w.alloc (.cells m.row 28)).alloc (.cells Zm 28)):=((ar _ _).alloc (ah _) _).alloc (by simp) _;have m1:((w.alloc (.cells m.row 28)).alloc (.cells Zm 28)).heap[w.heap.size]?=some (.cells m.row 28 (0,0)):=(alloc_old _ _ _ (by simp)).trans (bi _ _ _ rfl);have t1:((w.alloc (.cells m.row 28)).alloc (.cells Zm 28)).heap[w.heap.size+1]?=some (.cells (Mg.row {}) 28 (0,0)):=bi _ _ _ (by simp);clear hm kf
 go_enter Tryz.func44,Tryz.ntmps44
 refine wp_seq ?_;refine aQ ?_
 iterate 2 (refine aB rfl (kkn ?_))
 generalize((w.alloc (.cells m.row 28)).alloc (.cells Zm 28))=w1 at b1 m1 t1⊢;have q0:=cval m1 0 (.int .i64 m.id);have q1:=cval m1 1 (.int .i64 m.op);have q27:=(ap m1 27).trans (show _=some (Value.slice ak nk ck) from by rw[←LC.out];rfl);obtain⟨X0,hX⟩:=nmm (#[.int .i64 m.id,.int .i64 m.op,Es,I0,Bf,Es,I0,I0,I0,I0,Bf,Sn,Sn,Sn,Sn,Es,Es,Bf,Bf,Es,Es,Es,Bf,I0,I0,Es,Es,.slice ak nk ck]:Array Value);obtain⟨HX2,HX3,HX⟩:=Ch (show X0.all (·.oneCell')=true by rw[←hX];simp[Value.oneCell']) (show X0.size=28 by rw[←hX];rfl) hX;clear hX
 go_upto_region 1 with fail
 refine aQ ?_
 iterate 6 (refine aB rfl (kkn ?_))
 refine aB rfl fun K hK=>?_
 go_simp;rw[HX.out];refine hK _ _ ?_;clear hK K
 clear q0 q1 q27;refine aB rfl (kkn ?_);have n2:=alb w1 Zm 28;have b2:=btt b1 n2;have m2:=bkk n2 m1;have t2:=bkk n2 t1;have x2:=alz w1 Zm 28;have hlt:w.heap.size+1<w1.heap.size:=(gl t1);clear b1 m1 t1 n2;generalize w1.alloc (.cells Zm 28)=w2 at b2 m2 t2 x2⊢;generalize w1.heap.size=g at x2 hlt⊢;refine bh rfl 28 (.tmp 4) (.tmp 14) rfl g 28 _ X0 (by rfl) (by rfl) x2 (by rw[HX3.out];rfl) (by rw[HX3.out];rfl) HX2.out ?_;have S:BaS w m X0 g (w2.setRow g X0):=⟨(setRow_other w2 g w.heap.size X0 (by omega)).trans m2,(setRow_other w2 g (w.heap.size+1) X0 (by omega)).trans t2,setRow_heap w2 g _ X0 _ _ x2,bm b2 (g:=g) (by omega) X0,hlt⟩;clear b2 m2 t2 x2 HX2 HX3;generalize w2.setRow g X0=wr at S⊢;rw[←HX.out] at S;clear HX;replace S:=S.as (show _=Mg.row ({id:=m.id,op:=m.op,ctl:=.slice ak nk ck}:Mg) from rfl);have q1:=cval S.m 1 (.int .i64 m.op);go_simp
 go_upto_block 0 with fail
 clear q1
 go_cut [5] from 8 to 237 (fun s5 wx=>s5=.bool (br m l)∧BaS w m (Mg.row (bo m)) g wx)
 case first=>
  refine if h0:m.op=0 then ?A33 else ?B33
  case' A33=>
   as_aux_lemma=>
    have i0:(m.op==0)=true:=by rw[h0];rfl
    go_upto_region 6 with fail
    refine wp_region_any (by kernel_rfl) ?_;replace S:=S.drew;refine k7 k9 (tab:=[.pm 3,.ld 3 0,.pm 2,.ld 2 2,.pm 4,.ld 4 4,.pm 5,.ld 5 6,.px 3,.st 3 8 1,.px 2,.st 2 10 3,.px 4,.st 4 12 5,.px 5,.st 5 14 7]) (n:=270) (s1:=1) (s4:=4) (by kernel_rfl) (by kernel_rfl) w.heap.size g (by have:=S.lt;omega) m.row _ rfl rfl ROW.out _ _ rfl rfl rfl S.m S.x ?_;intro wy hgy hxy;replace S:=(S.grown hgy hxy).as (show _=Mg.row ({id:=m.id,op:=m.op,ctl:=.slice ak nk ck,ver:=m.ver,dn:=m.dn,sasl:=m.sasl,secret:=m.secret}:Mg) from by kernel_rfl);clear hgy hxy;generalize wy=wr at S⊢
    try simp only[Exit.then]
    try (refine‹∀(a:Act) (w:World),Code.wp _ _ _ a w→_› _ _ ?_)
    simp only[nE,Cp.v];go_simp;have q3:=cval S.m 3 (.int .i64 m.ver);have kc:=lb m.ver 1 127 wr
    go_wp2_with fail
    refine ag kc ?_;rintro e w' ⟨rfl,hw'⟩;obtain rfl:=hw'.symm;clear kc
    try go_wp2_with fail
    go_meet
    exact⟨congrArg Value.bool (show _=br m l from by rw[br,if_pos h0]),S.as (show _=Mg.row (bo m) from by rw[bo,if_pos h0];simp only[Mg.row, LC.out])⟩
  case' B33=>
   have i0:(m.op==0)=false:=aE h0;refine if h2:m.op=2 then ?A32 else ?B32
   case' A32=>
    as_aux_lemma=>
     have i2:(m.op==2)=true:=by rw[h2];rfl
     have h3:¬(m.op=3):=by omega
     have h6:¬(m.op=6):=by omega
     have h8:¬(m.op=8∨m.op=4):=by omega
     have h10:¬(m.op=10):=by omega
     have h12:¬(m.op=12):=by omega
     have h14:¬(m.op=14):=by omega
     have h16:¬(m.op=16):=by omega
     have h23:¬(m.op=23):=by omega
     have h24:¬(m.op=24):=by omega
     have hc:¬ez.contains m.op=true:=by rw[h2];decide
     try go_wp2_with fail
     go_meet
     exact⟨congrArg Value.bool (show _=br m l from by rw[br,if_neg h0,if_pos h2]),S.as (show _=Mg.row (bo m) from by rw[bo,if_neg h0,if_neg h3,if_neg h6,if_neg h8,if_neg h10,if_neg h12,if_neg h14,if_neg h16,if_neg h23,if_neg h24,if_neg hc];simp only[Mg.row, LC.out])⟩
   case' B32=>
    have i2:(m.op==2)=false:=aE h2;refine if h3:m.op=3 then ?A31 else ?B31
    case' A31=>
     as_aux_lemma=>
      have i3:(m.op==3)=true:=by rw[h3];rfl
      go_upto_region 10 with fail
      refine wp_region_any (by kernel_rfl) ?_;replace S:=S.drew;refine k7 k9 (tab:=[.pm 2,.ld 2 0,.pm 6,.ld 6 2,.pm 7,.ld 7 4,.pm 8,.ld 8 6,.pm 9,.ld 9 8,.pm 10,.ld 10 10,.pm 11,.ld 11 12,.pm 12,.ld 12 14,.px 2,.st 2 16 1,.px 6,.st 6 18 3,.px 7,.st 7 20 5,.px 8,.st 8 22 7,.px 9,.st 9 24 9,.px 10,.st 10 26 11,.px 11,.st 11 28 13,.px 12,.st 12 30 15]) (n:=270) (s1:=1) (s4:=4) (by kernel_rfl) (by kernel_rfl) w.heap.size g (by have:=S.lt;omega) m.row _ rfl rfl ROW.out _ _ rfl rfl rfl S.m S.x ?_;intro wy hgy hxy;replace S:=(S.grown hgy hxy).as (show _=Mg.row ({id:=m.id,op:=m.op,ctl:=.slice ak nk ck,dn:=m.dn,scope:=m.scope,deref:=m.deref,size:=m.size,time:=m.time,types:=m.types,filt:=m.filt,sel:=m.sel}:Mg) from by kernel_rfl);clear hgy hxy;generalize wy=wr at S⊢
      try simp only[Exit.then]
      try (refine‹∀(a:Act) (w:World),Code.wp _ _ _ a w→_› _ _ ?_)
      simp only[nE,Cp.v];go_simp;have q6:=cval S.m 6 (.int .i64 m.scope);have q7:=cval S.m 7 (.int .i64 m.deref);have q8:=cval S.m 8 (.int .i64 m.size);have q9:=cval S.m 9 (.int .i64 m.time);have q11:=(ap S.m 11).trans (show _=some (.slice af nf cf:Value) from by rw[←LF.out];rfl);refine if r0:bB m.scope 2=true then ?A14 else ?B14
      case' A14=>
       have kc:=lb m.scope 0 2 wr;rw[qn,r0] at kc
       go_wp2_with fail
       refine ag kc ?_;rintro e w' ⟨rfl,hw'⟩;obtain rfl:=hw'.symm;clear kc;refine if r1:bB m.deref 3=true then ?A13 else ?B13
       case' A13=>
        have kc:=lb m.deref 0 3 wr;rw[qn,r1] at kc
        go_wp2_with fail
        refine ag kc ?_;rintro e w' ⟨rfl,hw'⟩;obtain rfl:=hw'.symm;clear kc;refine if r2:bB m.size 2147483647=true then ?A12 else ?B12
        case' A12=>
         have kc:=lb m.size 0 2147483647 wr;rw[qn,r2] at kc
         go_wp2_with fail
         refine ag kc ?_;rintro e w' ⟨rfl,hw'⟩;obtain rfl:=hw'.symm;clear kc;refine if r3:bB m.time 2147483647=true then ?A11 else ?B11
         case' A11=>
          have kc:=lb m.time 0 2147483647 wr;rw[qn,r3] at kc
          go_wp2_with fail
          refine ag kc ?_;rintro e w' ⟨rfl,hw'⟩;obtain rfl:=hw'.symm;clear kc;have kc:=KF.out wr S.bel
          go_wp2_with fail
          refine ag kc ?_;rintro e w' ⟨rfl,hb⟩;replace S:=S.to hb;clear kc hb;generalize w'=wr at S⊢
          try go_wp2_with fail
          go_meet
          exact⟨congrArg Value.bool (show _=br m l from by rw[br,if_neg h0,if_neg h2,if_pos h3];simp[r0,r1,r2,r3]),S.as (show _=Mg.row (bo m) from by rw[bo,if_neg h0,if_pos h3];simp only[Mg.row,LF.out,LS.out, LC.out])⟩
         case' B11=>
          replace r3:bB m.time 2147483647=false:=Bool.eq_false_iff.2 r3;have kc:=lb m.time 0 2147483647 wr;rw[qn,r3] at kc
          go_wp2_with fail
          refine ag kc ?_;rintro e w' ⟨rfl,hw'⟩;obtain rfl:=hw'.symm;clear kc
          try go_wp2_with fail
          go_meet
          exact⟨congrArg Value.bool (show _=br m l from by rw[br,if_neg h0,if_neg h2,if_pos h3];simp[r0,r1,r2,r3]),S.as (show _=Mg.row (bo m) from by rw[bo,if_neg h0,if_pos h3];simp only[Mg.row,LF.out,LS.out, LC.out])⟩
        case' B12=>
         replace r2:bB m.size 2147483647=false:=Bool.eq_false_iff.2 r2;have kc:=lb m.size 0 2147483647 wr;rw[qn,r2] at kc
         go_wp2_with fail
         refine ag kc ?_;rintro e w' ⟨rfl,hw'⟩;obtain rfl:=hw'.symm;clear kc
         try go_wp2_with fail
         go_meet
         exact⟨congrArg Value.bool (show _=br m l from by rw[br,if_neg h0,if_neg h2,if_pos h3];simp[r0,r1,r2]),S.as (show _=Mg.row (bo m) from by rw[bo,if_neg h0,if_pos h3];simp only[Mg.row,LF.out,LS.out, LC.out])⟩
       case' B13=>
        replace r1:bB m.deref 3=false:=Bool.eq_false_iff.2 r1;have kc:=lb m.deref 0 3 wr;rw[qn,r1] at kc
        go_wp2_with fail
        refine ag kc ?_;rintro e w' ⟨rfl,hw'⟩;obtain rfl:=hw'.symm;clear kc
        try go_wp2_with fail
        go_meet
        exact⟨congrArg Value.bool (show _=br m l from by rw[br,if_neg h0,if_neg h2,if_pos h3];simp[r0,r1]),S.as (show _=Mg.row (bo m) from by rw[bo,if_neg h0,if_pos h3];simp only[Mg.row,LF.out,LS.out, LC.out])⟩
      case' B14=>
       replace r0:bB m.scope 2=false:=Bool.eq_false_iff.2 r0;have kc:=lb m.scope 0 2 wr;rw[qn,r0] at kc
       go_wp2_with fail
       refine ag kc ?_;rintro e w' ⟨rfl,hw'⟩;obtain rfl:=hw'.symm;clear kc
       try go_wp2_with fail
       go_meet
       exact⟨congrArg Value.bool (show _=br m l from by rw[br,if_neg h0,if_neg h2,if_pos h3];simp[r0]),S.as (show _=Mg.row (bo m) from by rw[bo,if_neg h0,if_pos h3];simp only[Mg.row,LF.out,LS.out, LC.out])⟩
    case' B31=>
     have i3:(m.op==3)=false:=aE h3;refine if h6:m.op=6 then ?A30 else ?B30
     case' A30=>
      as_aux_lemma=>
       have i6:(m.op==6)=true:=by rw[h6];rfl
       go_upto_region 13 with fail
       refine wp_region_any (by kernel_rfl) ?_;replace S:=S.drew;refine k7 k9 (tab:=[.pm 2,.ld 2 0,.pm 13,.ld 13 2,.px 2,.st 2 4 1,.px 13,.st 13 6 3]) (n:=270) (s1:=1) (s4:=4) (by kernel_rfl) (by kernel_rfl) w.heap.size g (by have:=S.lt;omega) m.row _ rfl rfl ROW.out _ _ rfl rfl rfl S.m S.x ?_;intro wy hgy hxy;replace S:=(S.grown hgy hxy).as (show _=Mg.row ({id:=m.id,op:=m.op,ctl:=.slice ak nk ck,dn:=m.dn,mods:=m.mods}:Mg) from by kernel_rfl);clear hgy hxy;generalize wy=wr at S⊢
       try simp only[Exit.then]
       try (refine‹∀(a:Act) (w:World),Code.wp _ _ _ a w→_› _ _ ?_)
       simp only[nE,Cp.v];go_simp
       go_wp2_with fail
       go_loopw [5,6] (fun s5 s6 wx=>∃k:Nat,s6=.int .i64 (k:Int)∧k≤nm∧s5=.bool ((l.mods.take k).all (fun x=>bB x.1 2))∧BaS w m (Mg.row ({id:=m.id,op:=m.op,ctl:=.slice ak nk ck,dn:=m.dn,mods:=m.mods}:Mg)) g wx) (fun _ s6 _=>nm -(RowKit.intOf s6).toNat)
       case atStart=>exact⟨0,rfl,Nat.zero_le _,rfl,S⟩
       case round=>
        clear S;obtain⟨k,rfl,hk,rfl,S⟩:=hrel;have q13:=(ap S.m 13).trans (show _=some (.slice am nm cm:Value) from by rw[←LM.out];rfl)
        by_cases hkn:k<nm
        ·have hkl:k<l.mods.length:=by rw[NM.out];exact hkn
         obtain⟨x,hx⟩:∃x,l.mods[k]?=some x:=⟨_,bp hkl⟩;have hall:(l.mods.take (k+1)).all (fun x=>bB x.1 2)=((l.mods.take k).all (fun x=>bB x.1 2)&&bB x.1 2):=by
          rw[List.take_add_one,hx];simp
         obtain⟨a',c',hv,hc',hr⟩:=HMD.out.below S.bel;have hne:l.mods≠[]:=by intro e;rw[e] at hkl;cases hkl
         obtain⟨g',o',rfl,hcell⟩:=hr hne;obtain⟨p0,_,_⟩:=hcell k x hx;rw[LM.out] at hv
         injection hv with e1 e2 e3
         subst e1;have HALL:=hid hall;have i1:(k:Int)<(nm:Int):=by omega
         have i3:decide ((k:Int)<(nm:Int))=true:=aL i1;obtain⟨B,hB⟩:=nmm ((l.mods.take k).all (fun x=>bB x.1 2));rw[hB] at HALL⊢;have kc:=lb x.1 0 2 wr;rw[qn] at kc;clear hall hB hcell hr e2 e3 hne hx;cases B with
         |true=>
          go_wp2_with fail
          refine ag kc ?_;rintro e w' ⟨rfl,hw'⟩;obtain rfl:=hw'.symm;clear kc
          go_wp2_with fail
          exact⟨⟨k+1,by go_num,by omega,by rw[HALL.out,Bool.true_and],S⟩,by simp[RowKit.intOf];omega⟩
         |false=>
          clear kc
          go_wp2_with fail
          exact⟨⟨k+1,by go_num,by omega,by rw[HALL.out,Bool.false_and],S⟩,by simp[RowKit.intOf];omega⟩
        ·obtain rfl:k=nm:=by omega
         have i3:decide ((k:Int)<(k:Int))=false:=an (by omega);rw[List.take_of_length_le (by rw[NM.out];exact ah _)]
         try go_wp2_with fail
         go_meet
         exact⟨congrArg Value.bool (show _=br m l from by rw[br,if_neg h0,if_neg h2,if_neg h3,if_pos h6]),S.as (show _=Mg.row (bo m) from by rw[bo,if_neg h0,if_neg h3,if_pos h6];simp only[Mg.row, LM.out, LC.out])⟩
     case' B30=>
      have i6:(m.op==6)=false:=aE h6;refine if h8:m.op=8∨m.op=4 then ?A29 else ?B29
      case' A29=>
       as_aux_lemma=>
        rcases(show m.op=8∨m.op=4 from h8) with e8|e8
        ·have i8:(m.op==8)=true:=by rw[e8];rfl
         go_upto_region 20 with fail
         refine wp_region_any (by kernel_rfl) ?_;replace S:=S.drew;refine k7 k9 (tab:=[.pm 2,.ld 2 0,.pm 14,.ld 14 2,.px 2,.st 2 4 1,.px 14,.st 14 6 3]) (n:=270) (s1:=1) (s4:=4) (by kernel_rfl) (by kernel_rfl) w.heap.size g (by have:=S.lt;omega) m.row _ rfl rfl ROW.out _ _ rfl rfl rfl S.m S.x ?_;intro wy hgy hxy;replace S:=(S.grown hgy hxy).as (show _=Mg.row ({id:=m.id,op:=m.op,ctl:=.slice ak nk ck,dn:=m.dn,attrs:=m.attrs}:Mg) from by kernel_rfl);clear hgy hxy;generalize wy=wr at S⊢
         try simp only[]
         try (refine‹∀(a:Act) (w:World),Code.wp _ _ _ a w→_› _ _ ?_)
         simp only[nE,Cp.v];go_simp
         try go_wp2_with fail
         go_meet
         exact⟨congrArg Value.bool (show _=br m l from by rw[br,if_neg h0,if_neg h2,if_neg h3,if_neg h6,if_pos h8]),S.as (show _=Mg.row (bo m) from by rw[bo,if_neg h0,if_neg h3,if_neg h6,if_pos h8];simp only[Mg.row, LA.out,LC.out])⟩
        ·have i8:(m.op==8)=false:=by rw[e8];rfl
         have i4:(m.op==4)=true:=by rw[e8];rfl
         go_upto_region 20 with fail
         refine wp_region_any (by kernel_rfl) ?_;replace S:=S.drew;refine k7 k9 (tab:=[.pm 2,.ld 2 0,.pm 14,.ld 14 2,.px 2,.st 2 4 1,.px 14,.st 14 6 3]) (n:=270) (s1:=1) (s4:=4) (by kernel_rfl) (by kernel_rfl) w.heap.size g (by have:=S.lt;omega) m.row _ rfl rfl ROW.out _ _ rfl rfl rfl S.m S.x ?_;intro wy hgy hxy;replace S:=(S.grown hgy hxy).as (show _=Mg.row ({id:=m.id,op:=m.op,ctl:=.slice ak nk ck,dn:=m.dn,attrs:=m.attrs}:Mg) from by kernel_rfl);clear hgy hxy;generalize wy=wr at S⊢
         try simp only[]
         try (refine‹∀(a:Act) (w:World),Code.wp _ _ _ a w→_› _ _ ?_)
         simp only[nE,Cp.v];go_simp
         try go_wp2_with fail
         go_meet
         exact⟨congrArg Value.bool (show _=br m l from by rw[br,if_neg h0,if_neg h2,if_neg h3,if_neg h6,if_pos h8]),S.as (show _=Mg.row (bo m) from by rw[bo,if_neg h0,if_neg h3,if_neg h6,if_pos h8];simp only[Mg.row, LA.out,LC.out])⟩
      case' B29=>
       have i8:(m.op==8)=false:=aE (fun e=>h8 (.inl e));have i4:(m.op==4)=false:=aE (fun e=>h8 (.inr e));refine if h10:m.op=10 then ?A28 else ?B28
       case' A28=>
        as_aux_lemma=>
         have i10:(m.op==10)=true:=by rw[h10];rfl
         have q2:=cval S.m 2 (.string ⟨m.dn.toArray⟩)
         go_upto_region 22 with fail
         have s:=cval S.x 2 Es;have z:=aj S.x 2;replace S:=(S.set 2 (.string ⟨m.dn.toArray⟩)).as (show _=Mg.row ({id:=m.id,op:=m.op,ctl:=.slice ak nk ck,dn:=m.dn}:Mg) from rfl)
         go_wp2_with fail
         clear s z;generalize wr.setCell ⟨g,2,none⟩ (.string ⟨m.dn.toArray⟩)=wr at S⊢
         go_meet
         exact⟨congrArg Value.bool (show _=br m l from by rw[br,if_neg h0,if_neg h2,if_neg h3,if_neg h6,if_neg h8,if_pos h10]),S.as (show _=Mg.row (bo m) from by rw[bo,if_neg h0,if_neg h3,if_neg h6,if_neg h8,if_pos h10];simp only[Mg.row, LC.out])⟩
       case' B28=>
        have i10:(m.op==10)=false:=aE h10;refine if h12:m.op=12 then ?A27 else ?B27
        case' A27=>
         as_aux_lemma=>
          have i12:(m.op==12)=true:=by rw[h12];rfl
          go_upto_region 24 with fail
          refine wp_region_any (by kernel_rfl) ?_;replace S:=S.drew;refine k7 k9 (tab:=[.pm 2,.ld 2 0,.pm 15,.ld 15 2,.pm 17,.ld 17 4,.pm 18,.ld 18 6,.pm 16,.ld 16 8,.px 2,.st 2 10 1,.px 15,.st 15 12 3,.px 17,.st 17 14 5,.px 18,.st 18 16 7,.px 16,.st 16 18 9]) (n:=270) (s1:=1) (s4:=4) (by kernel_rfl) (by kernel_rfl) w.heap.size g (by have:=S.lt;omega) m.row _ rfl rfl ROW.out _ _ rfl rfl rfl S.m S.x ?_;intro wy hgy hxy;replace S:=(S.grown hgy hxy).as (show _=Mg.row ({id:=m.id,op:=m.op,ctl:=.slice ak nk ck,dn:=m.dn,newRdn:=m.newRdn,delOld:=m.delOld,hasSup:=m.hasSup,newSup:=m.newSup}:Mg) from by kernel_rfl);clear hgy hxy;generalize wy=wr at S⊢
          try simp only[Exit.then]
          try (refine‹∀(a:Act) (w:World),Code.wp _ _ _ a w→_› _ _ ?_)
          simp only[nE,Cp.v];go_simp;have q18:=cval S.m 18 (.bool m.hasSup);have q16:=cval S.m 16 (.string ⟨m.newSup.toArray⟩);refine if k1:m.hasSup=true then ?A16 else ?B16
          case' A16=>
           try go_wp2_with fail
           go_meet
           exact⟨congrArg Value.bool (show _=br m l from by rw[br,if_neg h0,if_neg h2,if_neg h3,if_neg h6,if_neg h8,if_neg h10,if_pos h12];simp[k1]),S.as (show _=Mg.row (bo m) from by rw[bo,if_neg h0,if_neg h3,if_neg h6,if_neg h8,if_neg h10,if_pos h12];simp only[Mg.row, LC.out])⟩
          case' B16=>
           replace k1:m.hasSup=false:=Bool.eq_false_iff.2 k1;refine if k2:m.newSup=[] then ?A15 else ?B15
           case' A15=>
            try go_wp2_with fail
            go_meet
            exact⟨congrArg Value.bool (show _=br m l from by rw[br,if_neg h0,if_neg h2,if_neg h3,if_neg h6,if_neg h8,if_neg h10,if_pos h12];simp[k1,k2]),S.as (show _=Mg.row (bo m) from by rw[bo,if_neg h0,if_neg h3,if_neg h6,if_neg h8,if_neg h10,if_pos h12];simp only[Mg.row, LC.out])⟩
           case' B15=>
            have k3:m.newSup.isEmpty=false:=by cases hq:m.newSup with
             |nil=>exact absurd hq k2
             |cons a b=>rfl
            try go_wp2_with fail
            go_meet
            exact⟨congrArg Value.bool (show _=br m l from by rw[br,if_neg h0,if_neg h2,if_neg h3,if_neg h6,if_neg h8,if_neg h10,if_pos h12];simp[k1,k2]),S.as (show _=Mg.row (bo m) from by rw[bo,if_neg h0,if_neg h3,if_neg h6,if_neg h8,if_neg h10,if_pos h12];simp only[Mg.row, LC.out])⟩
        case' B27=>
         have i12:(m.op==12)=false:=aE h12;refine if h14:m.op=14 then ?A26 else ?B26
         case' A26=>
          as_aux_lemma=>
           have i14:(m.op==14)=true:=by rw[h14];rfl
           go_upto_region 27 with fail
           refine wp_region_any (by kernel_rfl) ?_;replace S:=S.drew;refine k7 k9 (tab:=[.pm 2,.ld 2 0,.pm 19,.ld 19 2,.pm 20,.ld 20 4,.px 2,.st 2 6 1,.px 19,.st 19 8 3,.px 20,.st 20 10 5]) (n:=270) (s1:=1) (s4:=4) (by kernel_rfl) (by kernel_rfl) w.heap.size g (by have:=S.lt;omega) m.row _ rfl rfl ROW.out _ _ rfl rfl rfl S.m S.x ?_;intro wy hgy hxy;replace S:=(S.grown hgy hxy).as (show _=Mg.row ({id:=m.id,op:=m.op,ctl:=.slice ak nk ck,dn:=m.dn,typ:=m.typ,value:=m.value}:Mg) from by kernel_rfl);clear hgy hxy;generalize wy=wr at S⊢
           try simp only[]
           try (refine‹∀(a:Act) (w:World),Code.wp _ _ _ a w→_› _ _ ?_)
           simp only[nE,Cp.v];go_simp
           try go_wp2_with fail
           go_meet
           exact⟨congrArg Value.bool (show _=br m l from by rw[br,if_neg h0,if_neg h2,if_neg h3,if_neg h6,if_neg h8,if_neg h10,if_neg h12,if_pos h14]),S.as (show _=Mg.row (bo m) from by rw[bo,if_neg h0,if_neg h3,if_neg h6,if_neg h8,if_neg h10,if_neg h12,if_pos h14];simp only[Mg.row, LC.out])⟩
         case' B26=>
          have i14:(m.op==14)=false:=aE h14;refine if h16:m.op=16 then ?A25 else ?B25
          case' A25=>
           as_aux_lemma=>
            have i16:(m.op==16)=true:=by rw[h16];rfl
            have q23:=cval S.m 23 (.int .i64 m.target)
            go_upto_region 29 with fail
            have s:=cval S.x 23 (.int .i64 0);have z:=aj S.x 23;replace S:=(S.set 23 (.int .i64 m.target)).as (show _=Mg.row ({id:=m.id,op:=m.op,ctl:=.slice ak nk ck,target:=m.target}:Mg) from rfl)
            go_upto_region 30 with fail
            clear s z;generalize wr.setCell ⟨g,23,none⟩ (.int .i64 m.target)=wr at S⊢;have q23:=cval S.m 23 (.int .i64 m.target);have kc:=lb m.target 0 2147483647 wr
            go_wp2_with fail
            refine ag kc ?_;rintro e w' ⟨rfl,hw'⟩;obtain rfl:=hw'.symm;clear kc
            try go_wp2_with fail
            go_meet
            exact⟨congrArg Value.bool (show _=br m l from by rw[br,if_neg h0,if_neg h2,if_neg h3,if_neg h6,if_neg h8,if_neg h10,if_neg h12,if_neg h14,if_pos h16];rfl),S.as (show _=Mg.row (bo m) from by rw[bo,if_neg h0,if_neg h3,if_neg h6,if_neg h8,if_neg h10,if_neg h12,if_neg h14,if_pos h16];simp only[Mg.row, LC.out])⟩
          case' B25=>
           have i16:(m.op==16)=false:=aE h16;refine if h23:m.op=23 then ?A24 else ?B24
           case' A24=>
            as_aux_lemma=>
             have i23:(m.op==23)=true:=by rw[h23];rfl
             go_upto_region 32 with fail
             refine wp_region_any (by kernel_rfl) ?_;replace S:=S.drew;refine k7 k9 (tab:=[.pm 21,.ld 21 0,.pm 22,.ld 22 2,.pm 20,.ld 20 4,.px 21,.st 21 6 1,.px 22,.st 22 8 3,.px 20,.st 20 10 5]) (n:=270) (s1:=1) (s4:=4) (by kernel_rfl) (by kernel_rfl) w.heap.size g (by have:=S.lt;omega) m.row _ rfl rfl ROW.out _ _ rfl rfl rfl S.m S.x ?_;intro wy hgy hxy;replace S:=(S.grown hgy hxy).as (show _=Mg.row ({id:=m.id,op:=m.op,ctl:=.slice ak nk ck,oid:=m.oid,has:=m.has,value:=m.value}:Mg) from by kernel_rfl);clear hgy hxy;generalize wy=wr at S⊢
             try simp only[Exit.then]
             try (refine‹∀(a:Act) (w:World),Code.wp _ _ _ a w→_› _ _ ?_)
             simp only[nE,Cp.v];go_simp;have q22:=cval S.m 22 (.bool m.has);have q20:=cval S.m 20 (.string ⟨m.value.toArray⟩);refine if k1:m.has=true then ?A18 else ?B18
             case' A18=>
              try go_wp2_with fail
              go_meet
              exact⟨congrArg Value.bool (show _=br m l from by rw[br,if_neg h0,if_neg h2,if_neg h3,if_neg h6,if_neg h8,if_neg h10,if_neg h12,if_neg h14,if_neg h16,if_pos h23];simp[k1]),S.as (show _=Mg.row (bo m) from by rw[bo,if_neg h0,if_neg h3,if_neg h6,if_neg h8,if_neg h10,if_neg h12,if_neg h14,if_neg h16,if_pos h23];simp only[Mg.row, LC.out])⟩
             case' B18=>
              replace k1:m.has=false:=Bool.eq_false_iff.2 k1;refine if k2:m.value=[] then ?A17 else ?B17
              case' A17=>
               try go_wp2_with fail
               go_meet
               exact⟨congrArg Value.bool (show _=br m l from by rw[br,if_neg h0,if_neg h2,if_neg h3,if_neg h6,if_neg h8,if_neg h10,if_neg h12,if_neg h14,if_neg h16,if_pos h23];simp[k1,k2]),S.as (show _=Mg.row (bo m) from by rw[bo,if_neg h0,if_neg h3,if_neg h6,if_neg h8,if_neg h10,if_neg h12,if_neg h14,if_neg h16,if_pos h23];simp only[Mg.row, LC.out])⟩
              case' B17=>
               have k3:m.value.isEmpty=false:=by cases hq:m.value with
                |nil=>exact absurd hq k2
                |cons a b=>rfl
               try go_wp2_with fail
               go_meet
               exact⟨congrArg Value.bool (show _=br m l from by rw[br,if_neg h0,if_neg h2,if_neg h3,if_neg h6,if_neg h8,if_neg h10,if_neg h12,if_neg h14,if_neg h16,if_pos h23];simp[k1,k2]),S.as (show _=Mg.row (bo m) from by rw[bo,if_neg h0,if_neg h3,if_neg h6,if_neg h8,if_neg h10,if_neg h12,if_neg h14,if_neg h16,if_pos h23];simp only[Mg.row, LC.out])⟩
           case' B24=>
            have i23:(m.op==23)=false:=aE h23;refine if hR:m.op=1∨m.op=5∨m.op=7∨m.op=9∨m.op=11∨m.op=13∨m.op=15 then ?A23 else ?B23
            case' A23=>
             as_aux_lemma=>
              have h24:¬m.op=24:=by omega
              have hc:ez.contains m.op=true:=by rcases hR with e|e|e|e|e|e|e<;>rw[e]<;>rfl
              rcases(show m.op=1∨m.op=5∨m.op=7∨m.op=9∨m.op=11∨m.op=13∨m.op=15 from hR) with eR|eR|eR|eR|eR|eR|eR
              ·have i1:(m.op==1)=true:=by rw[eR];rfl
               go_upto_region 41 with fail
               refine wp_region_any (by kernel_rfl) ?_;replace S:=S.drew;refine k7 k9 (tab:=[.pm 24,.ld 24 0,.pm 25,.ld 25 2,.pm 26,.ld 26 4,.px 24,.st 24 6 1,.px 25,.st 25 8 3,.px 26,.st 26 10 5]) (n:=270) (s1:=1) (s4:=4) (by kernel_rfl) (by kernel_rfl) w.heap.size g (by have:=S.lt;omega) m.row _ rfl rfl ROW.out _ _ rfl rfl rfl S.m S.x ?_;intro wy hgy hxy;replace S:=(S.grown hgy hxy).as (show _=Mg.row ({id:=m.id,op:=m.op,ctl:=.slice ak nk ck,code:=m.code,matched:=m.matched,text:=m.text}:Mg) from by kernel_rfl);clear hgy hxy;generalize wy=wr at S⊢
               try simp only[Exit.then]
               try (refine‹∀(a:Act) (w:World),Code.wp _ _ _ a w→_› _ _ ?_)
               simp only[nE,Cp.v];go_simp;have q24:=cval S.m 24 (.int .i64 m.code);have kc:=lb m.code 0 2147483647 wr
               go_wp2_with fail
               refine ag kc ?_;rintro e w' ⟨rfl,hw'⟩;obtain rfl:=hw'.symm;clear kc
               try go_wp2_with fail
               go_meet
               exact⟨congrArg Value.bool (show _=br m l from by rw[br,if_neg h0,if_neg h2,if_neg h3,if_neg h6,if_neg h8,if_neg h10,if_neg h12,if_neg h14,if_neg h16,if_neg h23,if_neg h24,if_pos hc];rfl),S.as (show _=Mg.row (bo m) from by rw[bo,if_neg h0,if_neg h3,if_neg h6,if_neg h8,if_neg h10,if_neg h12,if_neg h14,if_neg h16,if_neg h23,if_neg h24,if_pos hc];simp only[Mg.row, LC.out])⟩
              ·have i1:(m.op==1)=false:=by rw[eR];rfl
               have i5:(m.op==5)=true:=by rw[eR];rfl
               go_upto_region 41 with fail
               refine wp_region_any (by kernel_rfl) ?_;replace S:=S.drew;refine k7 k9 (tab:=[.pm 24,.ld 24 0,.pm 25,.ld 25 2,.pm 26,.ld 26 4,.px 24,.st 24 6 1,.px 25,.st 25 8 3,.px 26,.st 26 10 5]) (n:=270) (s1:=1) (s4:=4) (by kernel_rfl) (by kernel_rfl) w.heap.size g (by have:=S.lt;omega) m.row _ rfl rfl ROW.out _ _ rfl rfl rfl S.m S.x ?_;intro wy hgy hxy;replace S:=(S.grown hgy hxy).as (show _=Mg.row ({id:=m.id,op:=m.op,ctl:=.slice ak nk ck,code:=m.code,matched:=m.matched,text:=m.text}:Mg) from by kernel_rfl);clear hgy hxy;generalize wy=wr at S⊢
               try simp only[Exit.then]
               try (refine‹∀(a:Act) (w:World),Code.wp _ _ _ a w→_› _ _ ?_)
               simp only[nE,Cp.v];go_simp;have q24:=cval S.m 24 (.int .i64 m.code);have kc:=lb m.code 0 2147483647 wr
               go_wp2_with fail
               refine ag kc ?_;rintro e w' ⟨rfl,hw'⟩;obtain rfl:=hw'.symm;clear kc
               try go_wp2_with fail
               go_meet
               exact⟨congrArg Value.bool (show _=br m l from by rw[br,if_neg h0,if_neg h2,if_neg h3,if_neg h6,if_neg h8,if_neg h10,if_neg h12,if_neg h14,if_neg h16,if_neg h23,if_neg h24,if_pos hc];rfl),S.as (show _=Mg.row (bo m) from by rw[bo,if_neg h0,if_neg h3,if_neg h6,if_neg h8,if_neg h10,if_neg h12,if_neg h14,if_neg h16,if_neg h23,if_neg h24,if_pos hc];simp only[Mg.row, LC.out])⟩
              ·have i1:(m.op==1)=false:=by rw[eR];rfl
               have i5:(m.op==5)=false:=by rw[eR];rfl
               have i7:(m.op==7)=true:=by rw[eR];rfl
               go_upto_region 41 with fail
               refine wp_region_any (by kernel_rfl) ?_;replace S:=S.drew;refine k7 k9 (tab:=[.pm 24,.ld 24 0,.pm 25,.ld 25 2,.pm 26,.ld 26 4,.px 24,.st 24 6 1,.px 25,.st 25 8 3,.px 26,.st 26 10 5]) (n:=270) (s1:=1) (s4:=4) (by kernel_rfl) (by kernel_rfl) w.heap.size g (by have:=S.lt;omega) m.row _ rfl rfl ROW.out _ _ rfl rfl rfl S.m S.x ?_;intro wy hgy hxy;replace S:=(S.grown hgy hxy).as (show _=Mg.row ({id:=m.id,op:=m.op,ctl:=.slice ak nk ck,code:=m.code,matched:=m.matched,text:=m.text}:Mg) from by kernel_rfl);clear hgy hxy;generalize wy=wr at S⊢
               try simp only[Exit.then]
               try (refine‹∀(a:Act) (w:World),Code.wp _ _ _ a w→_› _ _ ?_)
               simp only[nE,Cp.v];go_simp;have q24:=cval S.m 24 (.int .i64 m.code);have kc:=lb m.code 0 2147483647 wr
               go_wp2_with fail
               refine ag kc ?_;rintro e w' ⟨rfl,hw'⟩;obtain rfl:=hw'.symm;clear kc
               try go_wp2_with fail
               go_meet
               exact⟨congrArg Value.bool (show _=br m l from by rw[br,if_neg h0,if_neg h2,if_neg h3,if_neg h6,if_neg h8,if_neg h10,if_neg h12,if_neg h14,if_neg h16,if_neg h23,if_neg h24,if_pos hc];rfl),S.as (show _=Mg.row (bo m) from by rw[bo,if_neg h0,if_neg h3,if_neg h6,if_neg h8,if_neg h10,if_neg h12,if_neg h14,if_neg h16,if_neg h23,if_neg h24,if_pos hc];simp only[Mg.row, LC.out])⟩
              ·have i1:(m.op==1)=false:=by rw[eR];rfl
               have i5:(m.op==5)=false:=by rw[eR];rfl
               have i7:(m.op==7)=false:=by rw[eR];rfl
               have i9:(m.op==9)=true:=by rw[eR];rfl
               go_upto_region 41 with fail
               refine wp_region_any (by kernel_rfl) ?_;replace S:=S.drew;refine k7 k9 (tab:=[.pm 24,.ld 24 0,.pm 25,.ld 25 2,.pm 26,.ld 26 4,.px 24,.st 24 6 1,.px 25,.st 25 8 3,.px 26,.st 26 10 5]) (n:=270) (s1:=1) (s4:=4) (by kernel_rfl) (by kernel_rfl) w.heap.size g (by have:=S.lt;omega) m.row _ rfl rfl ROW.out _ _ rfl rfl rfl S.m S.x ?_;intro wy hgy hxy;replace S:=(S.grown hgy hxy).as (show _=Mg.row ({id:=m.id,op:=m.op,ctl:=.slice ak nk ck,code:=m.code,matched:=m.matched,text:=m.text}:Mg) from by kernel_rfl);clear hgy hxy;generalize wy=wr at S⊢
               try simp only[Exit.then]
               try (refine‹∀(a:Act) (w:World),Code.wp _ _ _ a w→_› _ _ ?_)
               simp only[nE,Cp.v];go_simp;have q24:=cval S.m 24 (.int .i64 m.code);have kc:=lb m.code 0 2147483647 wr
               go_wp2_with fail
               refine ag kc ?_;rintro e w' ⟨rfl,hw'⟩;obtain rfl:=hw'.symm;clear kc
               try go_wp2_with fail
               go_meet
               exact⟨congrArg Value.bool (show _=br m l from by rw[br,if_neg h0,if_neg h2,if_neg h3,if_neg h6,if_neg h8,if_neg h10,if_neg h12,if_neg h14,if_neg h16,if_neg h23,if_neg h24,if_pos hc];rfl),S.as (show _=Mg.row (bo m) from by rw[bo,if_neg h0,if_neg h3,if_neg h6,if_neg h8,if_neg h10,if_neg h12,if_neg h14,if_neg h16,if_neg h23,if_neg h24,if_pos hc];simp only[Mg.row, LC.out])⟩
              ·have i1:(m.op==1)=false:=by rw[eR];rfl
               have i5:(m.op==5)=false:=by rw[eR];rfl
               have i7:(m.op==7)=false:=by rw[eR];rfl
               have i9:(m.op==9)=false:=by rw[eR];rfl
               have i11:(m.op==11)=true:=by rw[eR];rfl
               go_upto_region 41 with fail
               refine wp_region_any (by kernel_rfl) ?_;replace S:=S.drew;refine k7 k9 (tab:=[.pm 24,.ld 24 0,.pm 25,.ld 25 2,.pm 26,.ld 26 4,.px 24,.st 24 6 1,.px 25,.st 25 8 3,.px 26,.st 26 10 5]) (n:=270) (s1:=1) (s4:=4) (by kernel_rfl) (by kernel_rfl) w.heap.size g (by have:=S.lt;omega) m.row _ rfl rfl ROW.out _ _ rfl rfl rfl S.m S.x ?_;intro wy hgy hxy;replace S:=(S.grown hgy hxy).as (show _=Mg.row ({id:=m.id,op:=m.op,ctl:=.slice ak nk ck,code:=m.code,matched:=m.matched,text:=m.text}:Mg) from by kernel_rfl);clear hgy hxy;generalize wy=wr at S⊢
               try simp only[Exit.then]
               try (refine‹∀(a:Act) (w:World),Code.wp _ _ _ a w→_› _ _ ?_)
               simp only[nE,Cp.v];go_simp;have q24:=cval S.m 24 (.int .i64 m.code);have kc:=lb m.code 0 2147483647 wr
               go_wp2_with fail
               refine ag kc ?_;rintro e w' ⟨rfl,hw'⟩;obtain rfl:=hw'.symm;clear kc
               try go_wp2_with fail
               go_meet
               exact⟨congrArg Value.bool (show _=br m l from by rw[br,if_neg h0,if_neg h2,if_neg h3,if_neg h6,if_neg h8,if_neg h10,if_neg h12,if_neg h14,if_neg h16,if_neg h23,if_neg h24,if_pos hc];rfl),S.as (show _=Mg.row (bo m) from by rw[bo,if_neg h0,if_neg h3,if_neg h6,if_neg h8,if_neg h10,if_neg h12,if_neg h14,if_neg h16,if_neg h23,if_neg h24,if_pos hc];simp only[Mg.row, LC.out])⟩
              ·have i1:(m.op==1)=false:=by rw[eR];rfl
               have i5:(m.op==5)=false:=by rw[eR];rfl
               have i7:(m.op==7)=false:=by rw[eR];rfl
               have i9:(m.op==9)=false:=by rw[eR];rfl
               have i11:(m.op==11)=false:=by rw[eR];rfl
               have i13:(m.op==13)=true:=by rw[eR];rfl
               go_upto_region 41 with fail
               refine wp_region_any (by kernel_rfl) ?_;replace S:=S.drew;refine k7 k9 (tab:=[.pm 24,.ld 24 0,.pm 25,.ld 25 2,.pm 26,.ld 26 4,.px 24,.st 24 6 1,.px 25,.st 25 8 3,.px 26,.st 26 10 5]) (n:=270) (s1:=1) (s4:=4) (by kernel_rfl) (by kernel_rfl) w.heap.size g (by have:=S.lt;omega) m.row _ rfl rfl ROW.out _ _ rfl rfl rfl S.m S.x ?_;intro wy hgy hxy;replace S:=(S.grown hgy hxy).as (show _=Mg.row ({id:=m.id,op:=m.op,ctl:=.slice ak nk ck,code:=m.code,matched:=m.matched,text:=m.text}:Mg) from by kernel_rfl);clear hgy hxy;generalize wy=wr at S⊢
               try simp only[Exit.then]
               try (refine‹∀(a:Act) (w:World),Code.wp _ _ _ a w→_› _ _ ?_)
               simp only[nE,Cp.v];go_simp;have q24:=cval S.m 24 (.int .i64 m.code);have kc:=lb m.code 0 2147483647 wr
               go_wp2_with fail
               refine ag kc ?_;rintro e w' ⟨rfl,hw'⟩;obtain rfl:=hw'.symm;clear kc
               try go_wp2_with fail
               go_meet
               exact⟨congrArg Value.bool (show _=br m l from by rw[br,if_neg h0,if_neg h2,if_neg h3,if_neg h6,if_neg h8,if_neg h10,if_neg h12,if_neg h14,if_neg h16,if_neg h23,if_neg h24,if_pos hc];rfl),S.as (show _=Mg.row (bo m) from by rw[bo,if_neg h0,if_neg h3,if_neg h6,if_neg h8,if_neg h10,if_neg h12,if_neg h14,if_neg h16,if_neg h23,if_neg h24,if_pos hc];simp only[Mg.row, LC.out])⟩
              ·have i1:(m.op==1)=false:=by rw[eR];rfl
               have i5:(m.op==5)=false:=by rw[eR];rfl
               have i7:(m.op==7)=false:=by rw[eR];rfl
               have i9:(m.op==9)=false:=by rw[eR];rfl
               have i11:(m.op==11)=false:=by rw[eR];rfl
               have i13:(m.op==13)=false:=by rw[eR];rfl
               have i15:(m.op==15)=true:=by rw[eR];rfl
               go_upto_region 41 with fail
               refine wp_region_any (by kernel_rfl) ?_;replace S:=S.drew;refine k7 k9 (tab:=[.pm 24,.ld 24 0,.pm 25,.ld 25 2,.pm 26,.ld 26 4,.px 24,.st 24 6 1,.px 25,.st 25 8 3,.px 26,.st 26 10 5]) (n:=270) (s1:=1) (s4:=4) (by kernel_rfl) (by kernel_rfl) w.heap.size g (by have:=S.lt;omega) m.row _ rfl rfl ROW.out _ _ rfl rfl rfl S.m S.x ?_;intro wy hgy hxy;replace S:=(S.grown hgy hxy).as (show _=Mg.row ({id:=m.id,op:=m.op,ctl:=.slice ak nk ck,code:=m.code,matched:=m.matched,text:=m.text}:Mg) from by kernel_rfl);clear hgy hxy;generalize wy=wr at S⊢
               try simp only[Exit.then]
               try (refine‹∀(a:Act) (w:World),Code.wp _ _ _ a w→_› _ _ ?_)
               simp only[nE,Cp.v];go_simp;have q24:=cval S.m 24 (.int .i64 m.code);have kc:=lb m.code 0 2147483647 wr
               go_wp2_with fail
               refine ag kc ?_;rintro e w' ⟨rfl,hw'⟩;obtain rfl:=hw'.symm;clear kc
               try go_wp2_with fail
               go_meet
               exact⟨congrArg Value.bool (show _=br m l from by rw[br,if_neg h0,if_neg h2,if_neg h3,if_neg h6,if_neg h8,if_neg h10,if_neg h12,if_neg h14,if_neg h16,if_neg h23,if_neg h24,if_pos hc];rfl),S.as (show _=Mg.row (bo m) from by rw[bo,if_neg h0,if_neg h3,if_neg h6,if_neg h8,if_neg h10,if_neg h12,if_neg h14,if_neg h16,if_neg h23,if_neg h24,if_pos hc];simp only[Mg.row, LC.out])⟩
            case' B23=>
             have n1:¬m.op=1:=by omega
             have n5:¬m.op=5:=by omega
             have n7:¬m.op=7:=by omega
             have n9:¬m.op=9:=by omega
             have n11:¬m.op=11:=by omega
             have n13:¬m.op=13:=by omega
             have n15:¬m.op=15:=by omega
             refine if h24:m.op=24 then ?A22 else ?B22
             case' A22=>
              as_aux_lemma=>
               have i1:(m.op==1)=false:=by rw[h24];rfl
               have i5:(m.op==5)=false:=by rw[h24];rfl
               have i7:(m.op==7)=false:=by rw[h24];rfl
               have i9:(m.op==9)=false:=by rw[h24];rfl
               have i11:(m.op==11)=false:=by rw[h24];rfl
               have i13:(m.op==13)=false:=by rw[h24];rfl
               have i15:(m.op==15)=false:=by rw[h24];rfl
               have i24:(m.op==24)=true:=by rw[h24];rfl
               go_upto_region 44 with fail
               refine wp_region_any (by kernel_rfl) ?_;replace S:=S.drew;refine k7 k9 (tab:=[.pm 24,.ld 24 0,.pm 25,.ld 25 2,.pm 26,.ld 26 4,.pm 21,.ld 21 6,.pm 22,.ld 22 8,.pm 20,.ld 20 10,.px 24,.st 24 12 1,.px 25,.st 25 14 3,.px 26,.st 26 16 5,.px 21,.st 21 18 7,.px 22,.st 22 20 9,.px 20,.st 20 22 11]) (n:=270) (s1:=1) (s4:=4) (by kernel_rfl) (by kernel_rfl) w.heap.size g (by have:=S.lt;omega) m.row _ rfl rfl ROW.out _ _ rfl rfl rfl S.m S.x ?_;intro wy hgy hxy;replace S:=(S.grown hgy hxy).as (show _=Mg.row ({id:=m.id,op:=m.op,ctl:=.slice ak nk ck,code:=m.code,matched:=m.matched,text:=m.text,oid:=m.oid,has:=m.has,value:=m.value}:Mg) from by kernel_rfl);clear hgy hxy;generalize wy=wr at S⊢
               try simp only[Exit.then]
               try (refine‹∀(a:Act) (w:World),Code.wp _ _ _ a w→_› _ _ ?_)
               simp only[nE,Cp.v];go_simp;have q24:=cval S.m 24 (.int .i64 m.code);have q22:=cval S.m 22 (.bool m.has);have q20:=cval S.m 20 (.string ⟨m.value.toArray⟩);refine if rc:bB m.code 2147483647=true then ?A21 else ?B21
               case' A21=>
                have kc:=lb m.code 0 2147483647 wr;rw[qn,rc] at kc
                go_wp2_with fail
                refine ag kc ?_;rintro e w' ⟨rfl,hw'⟩;obtain rfl:=hw'.symm;clear kc;refine if k1:m.has=true then ?A20 else ?B20
                case' A20=>
                 try go_wp2_with fail
                 go_meet
                 exact⟨congrArg Value.bool (show _=br m l from by rw[br,if_neg h0,if_neg h2,if_neg h3,if_neg h6,if_neg h8,if_neg h10,if_neg h12,if_neg h14,if_neg h16,if_neg h23,if_pos h24];simp[rc,k1]),S.as (show _=Mg.row (bo m) from by rw[bo,if_neg h0,if_neg h3,if_neg h6,if_neg h8,if_neg h10,if_neg h12,if_neg h14,if_neg h16,if_neg h23,if_pos h24];simp only[Mg.row, LC.out])⟩
                case' B20=>
                 replace k1:m.has=false:=Bool.eq_false_iff.2 k1;refine if k2:m.value=[] then ?A19 else ?B19
                 case' A19=>
                  try go_wp2_with fail
                  go_meet
                  exact⟨congrArg Value.bool (show _=br m l from by rw[br,if_neg h0,if_neg h2,if_neg h3,if_neg h6,if_neg h8,if_neg h10,if_neg h12,if_neg h14,if_neg h16,if_neg h23,if_pos h24];simp[rc,k1,k2]),S.as (show _=Mg.row (bo m) from by rw[bo,if_neg h0,if_neg h3,if_neg h6,if_neg h8,if_neg h10,if_neg h12,if_neg h14,if_neg h16,if_neg h23,if_pos h24];simp only[Mg.row, LC.out])⟩
                 case' B19=>
                  have k3:m.value.isEmpty=false:=by cases hq:m.value with
                   |nil=>exact absurd hq k2
                   |cons a b=>rfl
                  try go_wp2_with fail
                  go_meet
                  exact⟨congrArg Value.bool (show _=br m l from by rw[br,if_neg h0,if_neg h2,if_neg h3,if_neg h6,if_neg h8,if_neg h10,if_neg h12,if_neg h14,if_neg h16,if_neg h23,if_pos h24];simp[rc,k1,k2]),S.as (show _=Mg.row (bo m) from by rw[bo,if_neg h0,if_neg h3,if_neg h6,if_neg h8,if_neg h10,if_neg h12,if_neg h14,if_neg h16,if_neg h23,if_pos h24];simp only[Mg.row, LC.out])⟩
               case' B21=>
                replace rc:bB m.code 2147483647=false:=Bool.eq_false_iff.2 rc;have kc:=lb m.code 0 2147483647 wr;rw[qn,rc] at kc
                go_wp2_with fail
                refine ag kc ?_;rintro e w' ⟨rfl,hw'⟩;obtain rfl:=hw'.symm;clear kc
                try go_wp2_with fail
                go_meet
                exact⟨congrArg Value.bool (show _=br m l from by rw[br,if_neg h0,if_neg h2,if_neg h3,if_neg h6,if_neg h8,if_neg h10,if_neg h12,if_neg h14,if_neg h16,if_neg h23,if_pos h24];simp[rc]),S.as (show _=Mg.row (bo m) from by rw[bo,if_neg h0,if_neg h3,if_neg h6,if_neg h8,if_neg h10,if_neg h12,if_neg h14,if_neg h16,if_neg h23,if_pos h24];simp only[Mg.row, LC.out])⟩
             case' B22=>
              have hN24:=h24
              as_aux_lemma=>
               have h24:¬m.op=24:=hN24;have hc:¬ez.contains m.op=true:=by
                intro h;have hm:m.op∈ez:=by simpa using h
                simp only[ez,aY,aZ,or_false] at hm
                omega
               have e1:bo m={id:=m.id,op:=m.op,ctl:=m.ctl}:=by rw[bo,if_neg h0,if_neg h3,if_neg h6,if_neg h8,if_neg h10,if_neg h12,if_neg h14,if_neg h16,if_neg h23,if_neg h24,if_neg hc]
               have e2:br m l=false:=by rw[br,if_neg h0,if_neg h2,if_neg h3,if_neg h6,if_neg h8,if_neg h10,if_neg h12,if_neg h14,if_neg h16,if_neg h23,if_neg h24,if_neg hc]
               have E2:=hid e2;replace S:=S.as (show _=Mg.row (bo m) from by rw[e1];simp only[Mg.row,LC.out]);clear e1 e2;have i1:(m.op==1)=false:=aE n1;have i5:(m.op==5)=false:=aE n5;have i7:(m.op==7)=false:=aE n7;have i9:(m.op==9)=false:=aE n9;have i11:(m.op==11)=false:=aE n11;have i13:(m.op==13)=false:=aE n13;have i15:(m.op==15)=false:=aE n15;have i24:(m.op==24)=false:=aE hN24
               go_upto_region 4 with fail
               have one:=fF H1.out;obtain⟨X,hX⟩:=nmm (Mg.row (bo m));have hX2:X.size=28:=by rw[←hX];rfl
               rw[hX] at S one;obtain⟨HX,HX2,ONE⟩:=Ch hX hX2 one;clear hX hX2 one;have x:=S.x;have t:=S.res;obtain⟨b60,t60⟩:=Cg (bm S.bel (g:=w.heap.size+1) (by omega) X) (setRow_heap wr (w.heap.size+1) _ X _ _ S.res);clear S;refine aQ ?_;refine bg rfl 28 (.tmp 4) rfl g 28 _ (0,0) (by rfl) x _ Tryz.underlying28 rfl (by rw[HX2.out];rfl) ?_;refine bh rfl 28 (.tmp 2) (.tmp 17) rfl (w.heap.size+1) 28 _ X (by rfl) (by rfl) t (by rw[HX2.out];rfl) (by rw[HX2.out];rfl) ONE.out ?_;have b60:=b60.out;have t60:=t60.out;generalize wr.setRow (w.heap.size+1) X=w60 at b60 t60⊢;clear x t;go_simp
               go_wp2_with fail
               refine aH (v:=.tuple #[.agg X,Bf]) ?_ rfl ⟨by rw[HX.out,E2.out,Bool.false_and,Bool.false_and],b60⟩;have hr:=aJ (P:=Tryz.prog) w60 (w.heap.size+1) 28 28 X (0,0) _ t60 (show Tryz.prog.underlying 28=_ from Tryz.underlying28) (by rfl) (by rw[HX2.out];rfl)
               simp[results,Tryz.f44]
               show((Sem.run Tryz.prog (loadVar 28 ⟨w.heap.size+1,0,none⟩) w60).andThen _)=_;rw[hr]
               simp
 case rest=>
  as_aux_lemma=>
   clear S;obtain⟨rfl,S⟩:=hcut
   go_wp2_with fail
   go_loopw [5,7] (fun s5 s7 wx=>∃k:Nat,s7=.int .i64 (k:Int)∧k≤nk∧s5=.bool (br m l&&(l.ctl.take k).all (fun c=>!eL c))∧BaS w m (Mg.row (bo m)) g wx) (fun _ s7 _=>nk -(RowKit.intOf s7).toNat)
   case atStart=>exact⟨0,rfl,Nat.zero_le _,by simp,S⟩
   case round=>
    clear S;obtain⟨k,rfl,hk,rfl,S⟩:=hrel;have q27:=(ap S.m 27).trans (show _=some (.slice ak nk ck:Value) from by rw[←LC.out];rfl);obtain⟨B,hB⟩:=nmm (br m l&&(l.ctl.take k).all (fun c=>!eL c))
    by_cases hkn:k<nk
    ·have hkl:k<l.ctl.length:=by rw[NK.out];exact hkn
     obtain⟨x,hx⟩:∃x,l.ctl[k]?=some x:=⟨_,bp hkl⟩;have hall:(br m l&&(l.ctl.take (k+1)).all (fun c=>!eL c))=(B&&!eL x):=by
      rw[List.take_add_one,hx,←hB];simp[Bool.and_assoc]
     obtain⟨a',c',hv,hc',hr⟩:=HCT.out.below S.bel;have hne:l.ctl≠[]:=by intro e;rw[e] at hkl;cases hkl
     obtain⟨g',o',rfl,hcell⟩:=hr hne;obtain⟨_,_,p2,p3⟩:=hcell k x hx;rw[LC.out] at hv
     injection hv with e1 e2 e3
     subst e1;obtain⟨xh,hxh⟩:=nmm x.has;obtain⟨xv,hxv⟩:=nmm x.value;have hcb:eL x=(!xh&&!xv.isEmpty):=by rw[eL,hxh,hxv]
     rw[hcb] at hall;rw[hxh] at p2;rw[hxv] at p3;rw[hB];have HALL:=hid hall;have i1:(k:Int)<(nk:Int):=by omega
     have i3:decide ((k:Int)<(nk:Int))=true:=aL i1;clear hall hB hcell hr e2 e3 hne hx hxh hxv hc' hcb;cases B with
     |false=>
      go_wp2_with fail
      exact⟨⟨k+1,by go_num,by omega,by rw[HALL.out];rfl,S⟩,by simp[RowKit.intOf];omega⟩
     |true=>
      cases xh with
      |true=>
       go_wp2_with fail
       exact⟨⟨k+1,by go_num,by omega,by rw[HALL.out];rfl,S⟩,by simp[RowKit.intOf];omega⟩
      |false=>
       cases xv with
       |nil=>
        go_wp2_with fail
        exact⟨⟨k+1,by go_num,by omega,by rw[HALL.out];rfl,S⟩,by simp[RowKit.intOf];omega⟩
       |cons y ys=>
        go_wp2_with fail
        exact⟨⟨k+1,by go_num,by omega,by rw[HALL.out];rfl,S⟩,by simp[RowKit.intOf];omega⟩
    ·obtain rfl:k=nk:=by omega
     have i3:decide ((k:Int)<(k:Int))=false:=an (by omega);rw[List.take_of_length_le (by rw[NK.out];exact ah _)] at hB⊢;rw[hB];have HB:=hid hB;clear hB
     go_upto_region 50 with fail
     clear q27;have one:=fF H1.out;obtain⟨X,hX⟩:=nmm (Mg.row (bo m));have hX2:X.size=28:=by rw[←hX];rfl
     rw[hX] at S one;obtain⟨HX,HX2,ONE⟩:=Ch hX hX2 one;clear hX hX2 one;refine aR (S:=fun w'=>w'.heap[w.heap.size]?=some (.cells m.row 28 (0,0))∧w'.heap[g]?=some (.cells X 28 (0,0))) (by kernel_rfl) ?_;replace S:=S.drew
     change wpAnyH _ _ _ _ _ _ _ _ wr.drew
     generalize wr.drew=wr at S⊢;have T:=And.intro S.m S.x;cases B with
     |false=>
      refine tn 0 (.agg X) rfl (fun w' hS=>by exact cU 28 (.tmp 4) rfl g 28 X (0,0) (by rfl) hS.2 _ Tryz.underlying28 rfl (by rw[HX2.out];rfl)) T ?_;refine tn 1 (Bf) rfl (fun w' hS=>by go_simp) T ?_;refine tn 2 (Bf) rfl (fun w' hS=>by go_simp) T ?_;refine dv 3 rfl (by kernel_rfl) (by kernel_rfl) (by kernel_rfl) (fun _ _ _ h=>h) (by rfl) T (kkn ?_);refine dv 4 rfl (by kernel_rfl) (by kernel_rfl) (by kernel_rfl) (fun _ _ _ h=>h) (by rfl) T (kkn ?_);refine dv 5 rfl (by kernel_rfl) (by kernel_rfl) (by kernel_rfl) (fun _ _ _ h=>h) (by rfl) T (kkn ?_);refine tn 6 (Bf) rfl (fun w' hS=>by go_simp) T ?_;refine ao 7 rfl (fun K hK=>?_);refine xX 28 (.tmp 2) (.tmp 263) rfl (w.heap.size+1) 28 _ X (by rfl) (by rfl) S.res (by rw[HX2.out];rfl) (by rw[HX2.out];rfl) ONE.out ?_;have b60:=bm S.bel (g:=w.heap.size+1) (by omega) X;have t60:=setRow_heap wr (w.heap.size+1) _ X _ _ S.res;have T2:=And.intro ((setRow_other wr (w.heap.size+1) w.heap.size X (by omega)).trans T.1) ((setRow_other wr (w.heap.size+1) g X (by have:=S.lt;omega)).trans T.2);refine hK _ _ T2 ?_;clear hK K
      refine ao 8 rfl (kks T2 ?_);refine bE (by kernel_rfl) ?_ _
      try simp only[Exit.then]
      try (refine‹∀(a:Act) (w:World),Code.wp _ _ _ a w→_› _ _ ?_)
      clear S T T2;generalize wr.setRow (w.heap.size+1) X=w60 at b60 t60⊢
      go_wp2_with fail
      refine aH (v:=.tuple #[.agg X,Bf]) ?_ rfl ⟨by rw[HX.out,HB.out];rfl,b60⟩;have hr:=aJ (P:=Tryz.prog) w60 (w.heap.size+1) 28 28 X (0,0) _ t60 (show Tryz.prog.underlying 28=_ from Tryz.underlying28) (by rfl) (by rw[HX2.out];rfl)
      simp[results,Tryz.f44]
      show((Sem.run Tryz.prog (loadVar 28 ⟨w.heap.size+1,0,none⟩) w60).andThen _)=_;rw[hr]
      simp
     |true=>
      refine tn 0 (.agg X) rfl (fun w' hS=>by exact cU 28 (.tmp 4) rfl g 28 X (0,0) (by rfl) hS.2 _ Tryz.underlying28 rfl (by rw[HX2.out];rfl)) T ?_;refine tn 1 (.bool true) rfl (fun w' hS=>by go_simp) T ?_;refine tn 2 (.bool true) rfl (fun w' hS=>by go_simp) T ?_;refine tp 3 ⟨w.heap.size,0,none⟩ rfl T ?_;refine tn 4 (.int .i64 m.id) rfl (fun w' hS=>by have q:=cval hS.1 0 (.int .i64 m.id);go_simp) T ?_;have kc:=lb m.id 0 2147483647 wr;rw[qn] at kc;refine ao 5 rfl (fun K hK=>?_);go_simp
      go_wp2_with fail
      refine ag kc ?_;rintro e w' ⟨rfl,hw'⟩;obtain rfl:=hw'.symm;refine hK _ _ T ?_;clear hK K kc
      refine tn 6 (.bool (bB m.id 2147483647)) rfl (fun w' hS=>by go_simp) T ?_;refine ao 7 rfl (fun K hK=>?_);refine xX 28 (.tmp 2) (.tmp 263) rfl (w.heap.size+1) 28 _ X (by rfl) (by rfl) S.res (by rw[HX2.out];rfl) (by rw[HX2.out];rfl) ONE.out ?_;have b60:=bm S.bel (g:=w.heap.size+1) (by omega) X;have t60:=setRow_heap wr (w.heap.size+1) _ X _ _ S.res;have T2:=And.intro ((setRow_other wr (w.heap.size+1) w.heap.size X (by omega)).trans T.1) ((setRow_other wr (w.heap.size+1) g X (by have:=S.lt;omega)).trans T.2);refine hK _ _ T2 ?_;clear hK K
      refine ao 8 rfl (kks T2 ?_);refine bE (by kernel_rfl) ?_ _
      try simp only[Exit.then]
      try (refine‹∀(a:Act) (w:World),Code.wp _ _ _ a w→_› _ _ ?_)
      clear S T T2;generalize wr.setRow (w.heap.size+1) X=w60 at b60 t60⊢
      go_wp2_with fail
      refine aH (v:=.tuple #[.agg X,.bool (bB m.id 2147483647)]) ?_ rfl ⟨by rw[HX.out,HB.out];rfl,b60⟩;have hr:=aJ (P:=Tryz.prog) w60 (w.heap.size+1) 28 28 X (0,0) _ t60 (show Tryz.prog.underlying 28=_ from Tryz.underlying28) (by rfl) (by rw[HX2.out];rfl)
      simp[results,Tryz.f44]
      show((Sem.run Tryz.prog (loadVar 28 ⟨w.heap.size+1,0,none⟩) w60).andThen _)=_;rw[hr]
      simp
end Go.Proofs.YthjaiigijbjloaaGreatDoor
