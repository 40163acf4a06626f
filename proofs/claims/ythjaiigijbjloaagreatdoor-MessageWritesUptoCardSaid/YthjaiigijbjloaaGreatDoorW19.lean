/- R8A, R8B, R8C, R8E, PlainNum, Rf4Am, Rf4Bm, R9Vb, R2A, R2P, R2B, R2C, R2W, DrT. -/
import Derived.Lib.SplitLaws
import Derived.Deep.CutBlock
import Derived.Deep.DeepCutAuto
import Derived.Deep.CutRange
import Derived.Lib.AppendStr
import Derived.Test.YthjaiigijbjloaaGreatDoorW17
import Derived.Test.YthjaiigijbjloaaGreatDoorW18
namespace Go.Proofs.YthjaiigijbjloaaGreatDoor
open Go.RowKit Go.Lib
open Go.Lib
set_option maxRecDepth 100000
set_option maxHeartbeats 16000000
def wq(p:Fl)(value pieces:Bool):Bool:=(value||p.value.isEmpty)&&(pieces||(p.init.isEmpty&&p.final.isEmpty&&p.any.isEmpty))
theorem xH(p:Fl)(a:Option Addr)(c:Nat)(value pieces:Bool)(w:World):
  Cr 176 #[.agg (p.row (.slice a p.any.length c)),.bool value,.bool pieces] w (.bool (wq p value pieces)):=by
 obtain⟨op,n,typ,val,ini,fin,any⟩:=p;unfold Fl.row wq;simp only;have hb:=alb w #[.int .i64 op,.int .i64 n,.string ⟨typ.toArray⟩,.string ⟨val.toArray⟩,.string ⟨ini.toArray⟩,.string ⟨fin.toArray⟩,.slice a any.length c] 60;have key:∀(m:Nat) (ve ie fe ae:Bool),val.isEmpty=ve→ini.isEmpty=ie→fin.isEmpty=fe→any.isEmpty=ae→any.length=m→((m:Int)==0)=ae→Cr 176 #[.agg #[.int .i64 op,.int .i64 n,.string ⟨typ.toArray⟩,.string ⟨val.toArray⟩,.string ⟨ini.toArray⟩,.string ⟨fin.toArray⟩,.slice a m c],.bool value,.bool pieces] w (.bool ((value||ve)&&(pieces||(ie&&fe&&ae)))):=by
  intro m ve ie fe ae e1 e2 e3 e4 e5 e6;rw[e5] at hb;clear e4 e5;cases value<;>cases ve<;>cases pieces<;>cases ie<;>cases fe<;>cases ae<;>
  ·go_enter Tryz.func176,Tryz.ntmps176
   go_wp2_with fail
   go_ret
   exact⟨rfl,hb⟩
 exact key any.length _ _ _ _ rfl rfl rfl rfl rfl (by cases any<;>simp;omega)
def wG(p:Fl):Bool:=
 if p.op=0∨p.op=1 then decide (0≤p.n)&&p.typ.isEmpty&&wq p false false
 else if p.op=2 then decide (p.n=1)&&p.typ.isEmpty&&wq p false false
 else if p.n≠0∨gr p.typ=false then false
 else if p.op=3∨p.op=5∨p.op=6∨p.op=8 then wq p true false
 else if p.op=7 then wq p false false
 else if p.op=4 then !p.any.contains []&&wq p false true&&(!p.init.isEmpty||!p.final.isEmpty||!p.any.isEmpty)
 else false
theorem Bt{α:Type}[DecidableEq α](l:List α):decide (l=[])=l.isEmpty:=by cases l<;>simp
theorem yY(p:Fl):wG p=bU p:=by
 obtain⟨op,n,typ,val,ini,fin,any⟩:=p;unfold wG bU wq;simp only[Bt];generalize typ.isEmpty=te;generalize val.isEmpty=ve;generalize ini.isEmpty=ie;generalize fin.isEmpty=fe;generalize any.isEmpty=ae;generalize any.contains []=ce;generalize gr typ=ty
 by_cases h0:op=0∨op=1
 ·rw[if_pos h0,if_pos (by omega)]
  have:decide (op≠2)=true:=aL (by omega);rw[this,Bool.true_or];generalize decide (0≤n)=d
  revert d te ve ie fe ae
  decide
 ·rw[if_neg h0]
  by_cases h2:op=2
  ·rw[if_pos h2,if_pos (by omega)]
   have:decide (op≠2)=false:=an (by omega);rw[this]
   by_cases h1:n=1
   ·have e1:decide (n=1)=true:=aL h1
    have e2:decide (0≤n)=true:=aL (by omega);rw[e1,e2]
    revert te ve ie fe ae
    decide
   ·rw[an h1]
    generalize decide (0≤n)=d
    revert d te ve ie fe ae
    decide
  ·rw[if_neg h2,if_neg (show ¬(op=0∨op=1∨op=2) by omega)]
   by_cases hn:n=0
   ·have hd:decide (n=0)=true:=aL hn
    rw[hd];cases ty with
    |false=>
     rw[if_pos (.inr rfl)]
     repeat' split
     all_goals first|rfl|(revert te ve ie fe ae ce;decide)|simp
    |true=>
     rw[if_neg (by simp[hn])]
     by_cases h3:op=3∨op=5∨op=6∨op=8
     ·rw[if_pos h3,if_pos h3]
      revert te ve ie fe ae ce
      decide
     ·rw[if_neg h3,if_neg h3]
      by_cases h7:op=7
      ·rw[if_pos h7,if_neg (show ¬op=4 by omega),if_pos h7]
       revert te ve ie fe ae ce
       decide
      ·rw[if_neg h7]
       by_cases h4:op=4
       ·rw[if_pos h4,if_pos h4]
        revert te ve ie fe ae ce
        decide
       ·rw[if_neg h4,if_neg h4,if_neg h7]
   ·have hd:decide (n=0)=false:=an hn
    rw[hd,if_pos (.inl hn)]
    repeat' split
    all_goals first|rfl|(revert te ve ie fe ae ce ty;decide)|simp
theorem Az(p:Fl)(a:Option Addr)(c:Nat)(w:World)(hop:p.op=0∨p.op=1∨p.op=2):
  Cr 165 #[.agg (p.row (.slice a p.any.length c))] w (.bool (wG p)):=by
 have kb:=fun(b1 b2:Bool) (W:World)=>xH p a c b1 b2 W
 obtain⟨op,n,typ,val,ini,fin,any⟩:=p;unfold wG;simp only at hop kb⊢;generalize wq ⟨op,n,typ,val,ini,fin,any⟩=f at kb⊢;unfold Fl.row at kb⊢;simp only at kb⊢;generalize any.length=m at kb⊢;have hb:=alb w #[.int .i64 op,.int .i64 n,.string ⟨typ.toArray⟩,.string ⟨val.toArray⟩,.string ⟨ini.toArray⟩,.string ⟨fin.toArray⟩,.slice a m c] 60;obtain⟨te,ht⟩:=nmm typ.isEmpty;rw[ht]
 by_cases h2:op=2
 ·have i0:(op==0)=false:=by rw[h2];rfl
  have i1:(op==1)=false:=by rw[h2];rfl
  have i2:(op==2)=true:=by rw[h2];rfl
  rw[if_neg (by omega),if_pos h2];have HH:=hid h2;clear h2 hop;obtain⟨d,hd⟩:=nmm (n==1);have hd2:decide (n=1)=d:=by rw[←hd];cases h:(n==1)<;>simp_all
  rw[hd2];clear hd2;cases d<;>cases te
  all_goals
   go_enter Tryz.func165,Tryz.ntmps165
   go_wp2_with (go_at_call 176;refine ag (show Calls _ _ _ _ _ from kb _ _ _) ?_;rintro e w3 ⟨rfl,hb3⟩)
   first
    |(go_ret;exact⟨rfl,hb⟩)
    |(go_ret;exact⟨rfl,(btt hb hb3)⟩)
    |(go_ret;exact⟨rfl,hb2⟩)
    |(go_ret;exact⟨rfl,(btt hb2 hb3)⟩)
 ·have e01:op=0∨op=1:=by omega
  rw[if_pos e01];obtain⟨d,hd⟩:=nmm (decide (0≤n));have hd2:decide (n≥0)=d:=hd;rw[hd];clear h2 hop;rcases e01 with h0|h0
  ·have i0:(op==0)=true:=by rw[h0];rfl
   have HH:=hid h0;clear h0;cases d<;>cases te
   all_goals
    go_enter Tryz.func165,Tryz.ntmps165
    go_wp2_with (go_at_call 176;refine ag (show Calls _ _ _ _ _ from kb _ _ _) ?_;rintro e w3 ⟨rfl,hb3⟩)
    first
     |(go_ret;exact⟨rfl,hb⟩)
     |(go_ret;exact⟨rfl,(btt hb hb3)⟩)
     |(go_ret;exact⟨rfl,hb2⟩)
     |(go_ret;exact⟨rfl,(btt hb2 hb3)⟩)
  ·have i0:(op==0)=false:=by rw[h0];rfl
   have i1:(op==1)=true:=by rw[h0];rfl
   have HH:=hid h0;clear h0;cases d<;>cases te
   all_goals
    go_enter Tryz.func165,Tryz.ntmps165
    go_wp2_with (go_at_call 176;refine ag (show Calls _ _ _ _ _ from kb _ _ _) ?_;rintro e w3 ⟨rfl,hb3⟩)
    first
     |(go_ret;exact⟨rfl,hb⟩)
     |(go_ret;exact⟨rfl,(btt hb hb3)⟩)
     |(go_ret;exact⟨rfl,hb2⟩)
     |(go_ret;exact⟨rfl,(btt hb2 hb3)⟩)
theorem zy(p:Fl)(a:Option Addr)(c:Nat)(w:World)(hop:p.op≠0∧p.op≠1∧p.op≠2∧p.op≠4)
  (kt:∀w',Below w.heap.size w w'→Calls Tryz.prog 177 #[.string ⟨p.typ.toArray⟩] w' fun e w2=>e=.returned (.bool (gr p.typ))∧Below w'.heap.size w' w2):
  Cr 165 #[.agg (p.row (.slice a p.any.length c))] w (.bool (wG p)):=by
 have kb:=fun(b1 b2:Bool) (W:World)=>xH p a c b1 b2 W
 obtain⟨op,n,typ,val,ini,fin,any⟩:=p;unfold wG;simp only at hop kb kt⊢;generalize wq ⟨op,n,typ,val,ini,fin,any⟩=f at kb⊢;unfold Fl.row at kb⊢;simp only at kb⊢;rw[if_neg (show ¬(op=0∨op=1) by omega),if_neg (show ¬op=2 by omega)];have hb:=alb w #[.int .i64 op,.int .i64 n,.string ⟨typ.toArray⟩,.string ⟨val.toArray⟩,.string ⟨ini.toArray⟩,.string ⟨fin.toArray⟩,.slice a any.length c] 60;generalize gr typ=ty at kt⊢;have i0:(op==0)=false:=aE (by omega);have i1:(op==1)=false:=aE (by omega);have i2:(op==2)=false:=aE (by omega);generalize any.length=m at kb hb⊢;have hk:=alz w #[.int .i64 op,.int .i64 n,.string ⟨typ.toArray⟩,.string ⟨val.toArray⟩,.string ⟨ini.toArray⟩,.string ⟨fin.toArray⟩,.slice a m c] 60
 by_cases hn:n=0
 ·have n0:(n==0)=true:=by rw[hn];rfl
  have n1:(n !=0)=false:=by rw[hn];rfl
  have HN:=hid hn;cases ty with
  |false=>
   rw[if_pos (.inr rfl)];clear hop hn
   go_enter Tryz.func165,Tryz.ntmps165
   go_wp2_with (first|(go_at_call 177;refine ag (show Calls _ _ _ _ _ from kt _ hb) ?_;rintro e w2 ⟨rfl,hbt⟩;have hb2:=btt hb hbt;have hk2:=(hbt.block w.heap.size (by simp)).trans hk;have q0:=cval hk2 0 (.int .i64 op);have q1:=cval hk2 1 (.int .i64 n);have q2:=cval hk2 2 (.string ⟨typ.toArray⟩);have q3:=cval hk2 3 (.string ⟨val.toArray⟩);have q4:=cval hk2 4 (.string ⟨ini.toArray⟩);have q5:=cval hk2 5 (.string ⟨fin.toArray⟩);have q6:=cval hk2 6 (.slice a m c))|(go_at_call 176;refine ag (show Calls _ _ _ _ _ from kb _ _ _) ?_;rintro e w3 ⟨rfl,hb3⟩))
   try go_wp2_with fail
   first
    |(go_ret;exact⟨rfl,hb⟩)
    |(go_ret;exact⟨rfl,hb2⟩)
    |(go_ret;exact⟨rfl,(btt hb2 hb3)⟩)
  |true=>
   rw[if_neg (by simp[hn])];clear hn
   by_cases h3:op=3∨op=5∨op=6∨op=8
   ·rw[if_pos h3]
    clear hop;rcases h3 with h|h|h|h
    ·have j3:(op==3)=true:=by rw[h];rfl
     have HH:=hid h;clear h
     go_enter Tryz.func165,Tryz.ntmps165
     go_wp2_with (first|(go_at_call 177;refine ag (show Calls _ _ _ _ _ from kt _ hb) ?_;rintro e w2 ⟨rfl,hbt⟩;have hb2:=btt hb hbt;have hk2:=(hbt.block w.heap.size (by simp)).trans hk;have q0:=cval hk2 0 (.int .i64 op);have q1:=cval hk2 1 (.int .i64 n);have q2:=cval hk2 2 (.string ⟨typ.toArray⟩);have q3:=cval hk2 3 (.string ⟨val.toArray⟩);have q4:=cval hk2 4 (.string ⟨ini.toArray⟩);have q5:=cval hk2 5 (.string ⟨fin.toArray⟩);have q6:=cval hk2 6 (.slice a m c))|(go_at_call 176;refine ag (show Calls _ _ _ _ _ from kb _ _ _) ?_;rintro e w3 ⟨rfl,hb3⟩))
     try go_wp2_with fail
     first
      |(go_ret;exact⟨rfl,hb⟩)
      |(go_ret;exact⟨rfl,hb2⟩)
      |(go_ret;exact⟨rfl,(btt hb2 hb3)⟩)
    ·have j3:(op==3)=false:=by rw[h];rfl
     have j5:(op==5)=true:=by rw[h];rfl
     have HH:=hid h;clear h
     go_enter Tryz.func165,Tryz.ntmps165
     go_wp2_with (first|(go_at_call 177;refine ag (show Calls _ _ _ _ _ from kt _ hb) ?_;rintro e w2 ⟨rfl,hbt⟩;have hb2:=btt hb hbt;have hk2:=(hbt.block w.heap.size (by simp)).trans hk;have q0:=cval hk2 0 (.int .i64 op);have q1:=cval hk2 1 (.int .i64 n);have q2:=cval hk2 2 (.string ⟨typ.toArray⟩);have q3:=cval hk2 3 (.string ⟨val.toArray⟩);have q4:=cval hk2 4 (.string ⟨ini.toArray⟩);have q5:=cval hk2 5 (.string ⟨fin.toArray⟩);have q6:=cval hk2 6 (.slice a m c))|(go_at_call 176;refine ag (show Calls _ _ _ _ _ from kb _ _ _) ?_;rintro e w3 ⟨rfl,hb3⟩))
     try go_wp2_with fail
     first
      |(go_ret;exact⟨rfl,hb⟩)
      |(go_ret;exact⟨rfl,hb2⟩)
      |(go_ret;exact⟨rfl,(btt hb2 hb3)⟩)
    ·have j3:(op==3)=false:=by rw[h];rfl
     have j5:(op==5)=false:=by rw[h];rfl
     have j6:(op==6)=true:=by rw[h];rfl
     have HH:=hid h;clear h
     go_enter Tryz.func165,Tryz.ntmps165
     go_wp2_with (first|(go_at_call 177;refine ag (show Calls _ _ _ _ _ from kt _ hb) ?_;rintro e w2 ⟨rfl,hbt⟩;have hb2:=btt hb hbt;have hk2:=(hbt.block w.heap.size (by simp)).trans hk;have q0:=cval hk2 0 (.int .i64 op);have q1:=cval hk2 1 (.int .i64 n);have q2:=cval hk2 2 (.string ⟨typ.toArray⟩);have q3:=cval hk2 3 (.string ⟨val.toArray⟩);have q4:=cval hk2 4 (.string ⟨ini.toArray⟩);have q5:=cval hk2 5 (.string ⟨fin.toArray⟩);have q6:=cval hk2 6 (.slice a m c))|(go_at_call 176;refine ag (show Calls _ _ _ _ _ from kb _ _ _) ?_;rintro e w3 ⟨rfl,hb3⟩))
     try go_wp2_with fail
     first
      |(go_ret;exact⟨rfl,hb⟩)
      |(go_ret;exact⟨rfl,hb2⟩)
      |(go_ret;exact⟨rfl,(btt hb2 hb3)⟩)
    ·have j3:(op==3)=false:=by rw[h];rfl
     have j5:(op==5)=false:=by rw[h];rfl
     have j6:(op==6)=false:=by rw[h];rfl
     have j8:(op==8)=true:=by rw[h];rfl
     have HH:=hid h;clear h
     go_enter Tryz.func165,Tryz.ntmps165
     go_wp2_with (first|(go_at_call 177;refine ag (show Calls _ _ _ _ _ from kt _ hb) ?_;rintro e w2 ⟨rfl,hbt⟩;have hb2:=btt hb hbt;have hk2:=(hbt.block w.heap.size (by simp)).trans hk;have q0:=cval hk2 0 (.int .i64 op);have q1:=cval hk2 1 (.int .i64 n);have q2:=cval hk2 2 (.string ⟨typ.toArray⟩);have q3:=cval hk2 3 (.string ⟨val.toArray⟩);have q4:=cval hk2 4 (.string ⟨ini.toArray⟩);have q5:=cval hk2 5 (.string ⟨fin.toArray⟩);have q6:=cval hk2 6 (.slice a m c))|(go_at_call 176;refine ag (show Calls _ _ _ _ _ from kb _ _ _) ?_;rintro e w3 ⟨rfl,hb3⟩))
     try go_wp2_with fail
     first
      |(go_ret;exact⟨rfl,hb⟩)
      |(go_ret;exact⟨rfl,hb2⟩)
      |(go_ret;exact⟨rfl,(btt hb2 hb3)⟩)
   ·have j3:(op==3)=false:=aE (by omega)
    have j5:(op==5)=false:=aE (by omega);have j6:(op==6)=false:=aE (by omega);have j8:(op==8)=false:=aE (by omega);rw[if_neg h3]
    by_cases h7:op=7
    ·have j7:(op==7)=true:=by rw[h7];rfl
     rw[if_pos h7];clear hop h3;have HH:=hid h7;clear h7
     go_enter Tryz.func165,Tryz.ntmps165
     go_wp2_with (first|(go_at_call 177;refine ag (show Calls _ _ _ _ _ from kt _ hb) ?_;rintro e w2 ⟨rfl,hbt⟩;have hb2:=btt hb hbt;have hk2:=(hbt.block w.heap.size (by simp)).trans hk;have q0:=cval hk2 0 (.int .i64 op);have q1:=cval hk2 1 (.int .i64 n);have q2:=cval hk2 2 (.string ⟨typ.toArray⟩);have q3:=cval hk2 3 (.string ⟨val.toArray⟩);have q4:=cval hk2 4 (.string ⟨ini.toArray⟩);have q5:=cval hk2 5 (.string ⟨fin.toArray⟩);have q6:=cval hk2 6 (.slice a m c))|(go_at_call 176;refine ag (show Calls _ _ _ _ _ from kb _ _ _) ?_;rintro e w3 ⟨rfl,hb3⟩))
     try go_wp2_with fail
     first
      |(go_ret;exact⟨rfl,hb⟩)
      |(go_ret;exact⟨rfl,hb2⟩)
      |(go_ret;exact⟨rfl,(btt hb2 hb3)⟩)
    ·have j7:(op==7)=false:=aE h7
     have j4:(op==4)=false:=aE hop.2.2.2;rw[if_neg h7,if_neg hop.2.2.2];clear hop h3 h7
     go_enter Tryz.func165,Tryz.ntmps165
     go_wp2_with (first|(go_at_call 177;refine ag (show Calls _ _ _ _ _ from kt _ hb) ?_;rintro e w2 ⟨rfl,hbt⟩;have hb2:=btt hb hbt;have hk2:=(hbt.block w.heap.size (by simp)).trans hk;have q0:=cval hk2 0 (.int .i64 op);have q1:=cval hk2 1 (.int .i64 n);have q2:=cval hk2 2 (.string ⟨typ.toArray⟩);have q3:=cval hk2 3 (.string ⟨val.toArray⟩);have q4:=cval hk2 4 (.string ⟨ini.toArray⟩);have q5:=cval hk2 5 (.string ⟨fin.toArray⟩);have q6:=cval hk2 6 (.slice a m c))|(go_at_call 176;refine ag (show Calls _ _ _ _ _ from kb _ _ _) ?_;rintro e w3 ⟨rfl,hb3⟩))
     try go_wp2_with fail
     first
      |(go_ret;exact⟨rfl,hb⟩)
      |(go_ret;exact⟨rfl,hb2⟩)
      |(go_ret;exact⟨rfl,(btt hb2 hb3)⟩)
 ·have n0:(n==0)=false:=aE hn
  have n1:(n !=0)=true:=bne_iff_ne.2 hn;rw[if_pos (.inl hn)];clear hop hn
  go_enter Tryz.func165,Tryz.ntmps165
  go_wp2_with (first|(go_at_call 177;refine ag (show Calls _ _ _ _ _ from kt _ hb) ?_;rintro e w2 ⟨rfl,hbt⟩;have hb2:=btt hb hbt;have hk2:=(hbt.block w.heap.size (by simp)).trans hk;have q0:=cval hk2 0 (.int .i64 op);have q1:=cval hk2 1 (.int .i64 n);have q2:=cval hk2 2 (.string ⟨typ.toArray⟩);have q3:=cval hk2 3 (.string ⟨val.toArray⟩);have q4:=cval hk2 4 (.string ⟨ini.toArray⟩);have q5:=cval hk2 5 (.string ⟨fin.toArray⟩);have q6:=cval hk2 6 (.slice a m c))|(go_at_call 176;refine ag (show Calls _ _ _ _ _ from kb _ _ _) ?_;rintro e w3 ⟨rfl,hb3⟩))
  try go_wp2_with fail
  first
   |(go_ret;exact⟨rfl,hb⟩)
   |(go_ret;exact⟨rfl,hb2⟩)
   |(go_ret;exact⟨rfl,(btt hb2 hb3)⟩)
theorem AZ(p:Fl)(a:Option Addr)(c:Nat)(w:World)(hu:ct w (.slice a p.any.length c) p.any)(hlen:p.any.length≤1000000000)(hop:p.op=4)
  (kt:∀w',Below w.heap.size w w'→Calls Tryz.prog 177 #[.string ⟨p.typ.toArray⟩] w' fun e w2=>e=.returned (.bool (gr p.typ))∧Below w'.heap.size w' w2):
  Cr 165 #[.agg (p.row (.slice a p.any.length c))] w (.bool (wG p)):=by
 have kb:=fun(b1 b2:Bool) (W:World)=>xH p a c b1 b2 W
 obtain⟨op,n,typ,val,ini,fin,any⟩:=p;unfold wG;simp only at hop hu hlen kb kt⊢;generalize wq ⟨op,n,typ,val,ini,fin,any⟩=f at kb⊢;unfold Fl.row at kb⊢;simp only at kb⊢;rw[if_neg (show ¬(op=0∨op=1) by omega),if_neg (show ¬op=2 by omega)];have hb:=alb w #[.int .i64 op,.int .i64 n,.string ⟨typ.toArray⟩,.string ⟨val.toArray⟩,.string ⟨ini.toArray⟩,.string ⟨fin.toArray⟩,.slice a any.length c] 60;generalize gr typ=ty at kt⊢;have i0:(op==0)=false:=aE (by omega);have i1:(op==1)=false:=aE (by omega);have i2:(op==2)=false:=aE (by omega);have hk:=alz w #[.int .i64 op,.int .i64 n,.string ⟨typ.toArray⟩,.string ⟨val.toArray⟩,.string ⟨ini.toArray⟩,.string ⟨fin.toArray⟩,.slice a any.length c] 60;have j3:(op==3)=false:=aE (by omega);have j5:(op==5)=false:=aE (by omega);have j6:(op==6)=false:=aE (by omega);have j8:(op==8)=false:=aE (by omega);have j7:(op==7)=false:=aE (by omega);have j4:(op==4)=true:=by rw[hop];rfl
 by_cases hn:n=0
 ·have n0:(n==0)=true:=by rw[hn];rfl
  have n1:(n !=0)=false:=by rw[hn];rfl
  cases ty with
  |false=>
   rw[if_pos (.inr rfl)];have HN:=hid hn;clear hop hn hu
   go_enter Tryz.func165,Tryz.ntmps165
   go_wp2_with (go_at_call 177;refine ag (show Calls _ _ _ _ _ from kt _ hb) ?_;rintro e w2 ⟨rfl,hbt⟩;have hb2:=btt hb hbt;have hk2:=(hbt.block w.heap.size (by simp)).trans hk;have q0:=cval hk2 0 (.int .i64 op);have q1:=cval hk2 1 (.int .i64 n);have q2:=cval hk2 2 (.string ⟨typ.toArray⟩);have q3:=cval hk2 3 (.string ⟨val.toArray⟩);have q4:=cval hk2 4 (.string ⟨ini.toArray⟩);have q5:=cval hk2 5 (.string ⟨fin.toArray⟩);have q6:=cval hk2 6 (.slice a any.length c))
   try go_wp2_with fail
   first
    |(go_ret;exact⟨rfl,hb⟩)
    |(go_ret;exact⟨rfl,hb2⟩)
    |(go_ret;exact⟨rfl,(btt hb2 hb3)⟩)
  |true=>
   rw[if_neg (by simp[hn]),if_neg (by omega),if_neg (by omega),if_pos hop];obtain⟨HN,HO,HU⟩:=Ch hn hop hu;clear hop hn hu;obtain⟨ANS,hANS⟩:=nmm (!any.contains []&&f false true&&(!ini.isEmpty||!fin.isEmpty||!any.isEmpty));rw[hANS];have HANS:=hid hANS;clear hANS
   go_enter Tryz.func165,Tryz.ntmps165
   go_wp2_with (go_at_call 177;refine ag (show Calls _ _ _ _ _ from kt _ hb) ?_;rintro e w2 ⟨rfl,hbt⟩;have hb2:=btt hb hbt;have hk2:=(hbt.block w.heap.size (by simp)).trans hk;have q0:=cval hk2 0 (.int .i64 op);have q1:=cval hk2 1 (.int .i64 n);have q2:=cval hk2 2 (.string ⟨typ.toArray⟩);have q3:=cval hk2 3 (.string ⟨val.toArray⟩);have q4:=cval hk2 4 (.string ⟨ini.toArray⟩);have q5:=cval hk2 5 (.string ⟨fin.toArray⟩);have q6:=cval hk2 6 (.slice a any.length c))
   go_loopw [3] (fun i wr=>∃k:Nat,i=.int .i64 (k:Int)∧k≤any.length∧(any.take k).contains []=false∧wr=w2) (fun i _=>any.length -(RowKit.intOf i).toNat)
   case atStart=>exact⟨0,rfl,Nat.zero_le _,by simp,rfl⟩
   case round=>
    obtain⟨k,rfl,hk',hc,hw⟩:=hrel;obtain rfl:=hw.symm
    by_cases hkl:k<any.length
    ·obtain⟨s,hs⟩:∃s,any[k]?=some s:=⟨_,bp hkl⟩
     obtain⟨a',c',hv,_,hr⟩:=HU.out.below hb2;have hne:any≠[]:=by intro e;rw[e] at hkl;cases hkl
     injection hv with e1 e2 e3
     obtain⟨g',o',ha,hcell⟩:=hr hne;rw[←e1] at ha;subst ha;have hc0:=hcell k s hs;have htk:(any.take (k+1)).contains []=((any.take k).contains []||s.isEmpty):=by
      rw[List.take_add_one,hs];cases s<;>simp
     have i1x:(k:Int)<(any.length:Int):=by omega
     have i3x:decide ((k:Int)<(any.length:Int))=true:=aL i1x;obtain⟨HTK,HC,HS⟩:=Ch htk hc hs;clear htk hcell hr e1 e2 e3 hne hs hc;cases s with
     |nil=>
      have hf:any.contains []=true:=by simpa using List.mem_of_getElem? HS.out
      have HF:=hid hf;clear hf
      go_wp2_with fail
      go_ret
      have hz:ANS=false:=by rw[←HANS.out,HF.out];rfl
      exact⟨by rw[hz];rfl,hb2⟩
     |cons y ys=>
      go_wp2_with fail
      exact⟨⟨k+1,by go_num,by omega,by rw[HTK.out,HC.out];rfl,by first|rfl|trivial⟩,by simp[RowKit.intOf];omega⟩
    ·obtain rfl:k=any.length:=by omega
     rw[List.take_of_length_le (ah _)] at hc;have i3x:decide ((any.length:Int)<(any.length:Int))=false:=an (by omega);obtain⟨ie,hie⟩:=nmm ini.isEmpty;obtain⟨fe,hfe⟩:=nmm fin.isEmpty;obtain⟨ae,hae⟩:=nmm any.isEmpty;have hal:decide ((any.length:Int)>0)=!ae:=by rw[←hae];(cases any<;>simp)<;>omega
     have hal2:decide (0<(any.length:Int))=!ae:=hal;have hal3:decide (0<any.length)=!ae:=by rw[←hae];cases any<;>simp
     have hz:(true&&f false true&&(!ie||!fe||!ae))=ANS:=by rw[←HANS.out,hc,hie,hfe,hae];rfl
     have kf:=kb false true w2;obtain⟨B,hB⟩:=nmm (f false true);rw[hB] at kf hz;obtain⟨HZ,HC,HAE⟩:=Ch hz hc hae;clear hB kb hc hae hz;cases B<;>cases ie<;>cases fe<;>cases ae
     all_goals
      go_wp2_with (go_at_call 176;refine ag kf ?_;rintro e w3 ⟨rfl,hb3⟩;have hk3:=(hb3.block w.heap.size (gl hk2)).trans hk2;have r0:=cval hk3 0 (.int .i64 op);have r1:=cval hk3 1 (.int .i64 n);have r2:=cval hk3 2 (.string ⟨typ.toArray⟩);have r3:=cval hk3 3 (.string ⟨val.toArray⟩);have r4:=cval hk3 4 (.string ⟨ini.toArray⟩);have r5:=cval hk3 5 (.string ⟨fin.toArray⟩);have r6:=cval hk3 6 (.slice a any.length c))
      try go_wp2_with fail
      go_ret
      exact⟨by rw[←HZ.out];rfl,(btt hb2 hb3)⟩
 ·have n0:(n==0)=false:=aE hn
  have n1:(n !=0)=true:=bne_iff_ne.2 hn;rw[if_pos (.inl hn)];clear hop hn hu
  go_enter Tryz.func165,Tryz.ntmps165
  go_wp2_with (go_at_call 177;refine ag (show Calls _ _ _ _ _ from kt _ hb) ?_;rintro e w2 ⟨rfl,hbt⟩;have hb2:=btt hb hbt;have hk2:=(hbt.block w.heap.size (by simp)).trans hk;have q0:=cval hk2 0 (.int .i64 op);have q1:=cval hk2 1 (.int .i64 n);have q2:=cval hk2 2 (.string ⟨typ.toArray⟩);have q3:=cval hk2 3 (.string ⟨val.toArray⟩);have q4:=cval hk2 4 (.string ⟨ini.toArray⟩);have q5:=cval hk2 5 (.string ⟨fin.toArray⟩);have q6:=cval hk2 6 (.slice a any.length c))
  try go_wp2_with fail
  first
   |(go_ret;exact⟨rfl,hb⟩)
   |(go_ret;exact⟨rfl,hb2⟩)
   |(go_ret;exact⟨rfl,(btt hb2 hb3)⟩)
theorem Ac(p:Fl)(u:Value)(w:World)(hu:ct w u p.any)(hlen:p.any.length≤1000000000)
  (kt:∀w',Below w.heap.size w w'→Calls Tryz.prog 177 #[.string ⟨p.typ.toArray⟩] w' fun e w2=>e=.returned (.bool (gr p.typ))∧Below w'.heap.size w' w2):
  Cr 165 #[.agg (p.row u)] w (.bool (bU p)):=by
 rw[←yY];have hu':=hu;obtain⟨a,c,rfl,_,_⟩:=hu'
 by_cases h0:p.op=0∨p.op=1∨p.op=2
 ·exact Az p a c w h0
 ·by_cases h4:p.op=4
  ·exact AZ p a c w hu hlen h4 kt
  ·exact zy p a c w ⟨by omega,by omega,by omega,h4⟩ kt
def wM(fl:List Fl)(o:Option (List Fl)):Int:=match o with
 |some r=>(fl.length:Int) -(r.length:Int)
 |none=>-1
def KT8:Prop:=∀(s:List UInt8) (w':World),s.length≤1099511627776→Calls Tryz.prog 177 #[.string ⟨s.toArray⟩] w' fun e w2=>e=.returned (.bool (gr s))∧Below w'.heap.size w' w2
theorem A0(KT:KT8)(k d:Nat)(hkd:k+d=19)(fl:List Fl)(v:Value)
  (ih:∀(i:Nat) (w:World),i≤fl.length→de w v fl→Calls Tryz.prog 134 #[v,.int .i64 (i:Int),.int .i64 ((d+1:Nat):Int)] w fun e w'=>e=.returned (.int .i64 (wM fl (bG k (fl.drop i))))∧Below w.heap.size w w')
  (i:Nat) (w:World) (hi:i≤fl.length) (hv:de w v fl) (hok:eP fl):
  Cr 134 #[v,.int .i64 (i:Int),.int .i64 (d:Int)] w (.int .i64 (wM fl (bG (k+1) (fl.drop i)))):=by
 have HV:=hid hv;have hl:=hok.1;obtain⟨a,cap,rfl,hcap,hr⟩:=hv;have f1:decide ((d:Int)≥20)=false:=an (by omega);have f2:decide ((20:Int)≤(d:Int))=false:=an (by omega)
 by_cases hlt:i<fl.length
 ·obtain⟨p,hp⟩:∃p,fl[i]?=some p:=⟨_,bp hlt⟩
  have hpk:=hok.2 p (List.mem_of_getElem? hp);have hdr:fl.drop i=p::fl.drop (i+1):=gv hp;obtain⟨g,o,rfl,hcell⟩:=hr (by intro e;rw[e] at hlt;cases hlt);obtain⟨c0,c1,c2,c3,c4,c5,u,c6,hu⟩:=hcell i p hp;obtain⟨au,cu,rfl,_,_⟩:=id hu;have kr:=Ac p _ w hu (by have:=hpk.1.2.2.2.2.1;omega) (fun w' _=>KT p.typ w' (by have:=hpk.1.1;omega));unfold Fl.row at kr;obtain⟨B,hB⟩:=nmm (bU p);rw[hB] at kr;rw[hdr];have g1:decide ((i:Int)≥(fl.length:Int))=false:=an (by omega);have g2:decide ((fl.length:Int)≤(i:Int))=false:=an (by omega);have g3:(i:Int)<(fl.length:Int):=by omega
  have g4:decide (fl.length≤i)=false:=an (by omega);have IH:=hid ih;clear hr hcell hu hdr ih;cases B with
  |false=>
   have hw:bG (k+1) (p::fl.drop (i+1))=none:=by simp[bG,hB]
   rw[hw];clear hB hw
   go_enter Tryz.func134,Tryz.ntmps134
   go_wp2_with (go_at_call 165;refine ag kr ?_;rintro e w1 ⟨rfl,hb1⟩)
   go_ret
   exact⟨rfl,hb1⟩
  |true=>
   have hn0:0≤p.n:=by
    by_cases hc:p.op=0∨p.op=1∨p.op=2
    ·have h:=hB
     unfold bU at h;rw[if_pos hc] at h;simp only[aI,aT] at h;exact h.1.2
    ·have:=iQ hB hc
     omega
   have hw:bG (k+1) (p::fl.drop (i+1))=nx (bG k) p.n.toNat (fl.drop (i+1)):=by simp[bG,hB]
   rw[hw];obtain⟨N,hN⟩:∃N:Nat,p.n=(N:Int):=⟨p.n.toNat,by omega⟩;have hN2:p.n.toNat=N:=by omega
   have hN3:N≤9223372036854775807:=by have:=hpk.2;omega
   rw[hN2];rw[hN] at kr c1;obtain⟨ANS,hA⟩:=nmm (wM fl (nx (bG k) N (fl.drop (i+1))));rw[hA];have HA:=hid hA;clear hB hw hA hN hN2 hn0 hpk hp hok
   go_enter Tryz.func134,Tryz.ntmps134
   go_wp2_with (go_at_call 165;refine ag kr ?_;rintro e w1 ⟨rfl,hb1⟩;have c1':=(hb1.cell (bj c1)).trans c1)
   clear c0 c1 c2 c3 c4 c5 c6 c1' kr
   go_loopw [1,8] (fun s1 s8 wr=>∃(j b:Nat),s8=.int .i64 (j:Int)∧s1=.int .i64 (b:Int)∧j≤N∧b≤fl.length∧Below w.heap.size w wr∧wM fl (nx (bG k) (N -j) (fl.drop b))=ANS) (fun _ s8 _=>N -(RowKit.intOf s8).toNat)
   case atStart=>exact⟨0,i+1,rfl,by go_num,Nat.zero_le _,by omega,hb1,HA.out⟩
   case round=>
    clear HA;obtain⟨j,b,rfl,rfl,hj,hb,hbe,hans⟩:=hrel
    by_cases hjn:j<N
    ·have ke:=IH.out b wr hb (HV.out.below hbe)
     have i3:decide ((j:Int)<(N:Int))=true:=aL (by omega);rw[show N -j=(N -(j+1))+1 by omega,nx] at hans;have hdd:((d+1:Nat):Int)=(d:Int)+1:=by omega
     rw[hdd] at ke;cases hq:bG k (fl.drop b) with
     |none=>
      rw[hq] at ke hans;simp only[wM] at ke hans;subst hans;clear hq hdd
      go_wp2_with fail
      refine ag ke ?_;rintro e w3 ⟨rfl,hb3⟩
      go_wp2_with fail
      go_ret
      exact⟨rfl,cL hbe hb3⟩
     |some r=>
      rw[hq] at ke hans;simp only[wM] at ke;have hsf:=(fR k _ _ hq).trans (List.drop_suffix b fl);have hrl:=hsf.length_le;have hre:r=fl.drop (fl.length -r.length):=List.suffix_iff_eq_drop.1 hsf;obtain⟨q,hqq⟩:=nmm (fl.length -r.length);have hql:(fl.length:Int) -(r.length:Int)=(q:Int):=by omega
      rw[hql] at ke;rw[hqq] at hre;simp only at hans;rw[hre] at hans;have HANS:=hid hans;have g5:decide ((q:Int)<0)=false:=an (by omega);have hqb:q≤fl.length:=by omega
      clear hq hans hsf hrl hre hqq hql hdd
      go_wp2_with fail
      refine ag ke ?_;rintro e w3 ⟨rfl,hb3⟩
      go_wp2_with fail
      go_roundw
      case rel=>exact⟨j+1,q,by go_num,rfl,by omega,hqb,cL hbe hb3,HANS.out⟩
      case measure=>simp[RowKit.intOf];omega
    ·obtain rfl:j=N:=by omega
     have i3:decide ((j:Int)<(j:Int))=false:=an (by omega);rw[Nat.sub_self,nx] at hans;have hz:(b:Int)=ANS:=by
      rw[←hans];simp only[wM,List.length_drop]
      omega
     subst hz;clear hans
     go_wp2_with fail
     go_ret
     exact⟨rfl,hbe⟩
 ·obtain rfl:i=fl.length:=by omega
  have g1:decide ((fl.length:Int)≥(fl.length:Int))=true:=aL (by omega);have g2:decide ((fl.length:Int)≤(fl.length:Int))=true:=aL (by omega);rw[List.drop_of_length_le (ah _)];clear hr ih
  go_enter Tryz.func134,Tryz.ntmps134
  go_wp2_with fail
  go_ret
  exact⟨rfl,ar _ _⟩
theorem Ba(fl:List Fl)(v:Value)(i:Nat)(w:World)(hi:i≤fl.length)(hv:de w v fl):
  Cr 134 #[v,.int .i64 (i:Int),.int .i64 20] w (.int .i64 (wM fl (bG 0 (fl.drop i)))):=by
 obtain⟨a,cap,rfl,hcap,hr⟩:=hv;clear hr
 by_cases hlt:i<fl.length
 ·have g1:decide ((i:Int)≥(fl.length:Int))=false:=an (by omega)
  have g2:decide ((fl.length:Int)≤(i:Int))=false:=an (by omega);have g4:decide (fl.length≤i)=false:=an (by omega)
  go_enter Tryz.func134,Tryz.ntmps134
  go_wp2_with fail
  go_ret
  exact⟨rfl,ar _ _⟩
 ·obtain rfl:i=fl.length:=by omega
  have g1:decide ((fl.length:Int)≥(fl.length:Int))=true:=aL (by omega);have g2:decide ((fl.length:Int)≤(fl.length:Int))=true:=aL (by omega)
  go_enter Tryz.func134,Tryz.ntmps134
  go_wp2_with fail
  go_ret
  exact⟨rfl,ar _ _⟩
theorem yZ(KT:KT8)(fl:List Fl)(v:Value)(hok:eP fl):∀(k d:Nat),k+d=20→∀(i:Nat) (w:World),i≤fl.length→de w v fl→
  Calls Tryz.prog 134 #[v,.int .i64 (i:Int),.int .i64 (d:Int)] w fun e w'=>e=.returned (.int .i64 (wM fl (bG k (fl.drop i))))∧Below w.heap.size w w'
 |0,d,h,i,w,hi,hv=>by
  obtain rfl:d=20:=by omega
  exact Ba fl v i w hi hv
 |k+1,d,h,i,w,hi,hv=>A0 KT k d (by omega) fl v (fun i w hi hv=>yZ KT fl v hok k (d+1) (by omega) i w hi hv) i w hi hv hok
theorem Ad(KT:KT8)(fl:List Fl)(v:Value)(w:World)(hv:de w v fl)(hok:eP fl):
  Cr 96 #[v] w (.bool (dz fl)):=by
 have ke:=yZ KT fl v hok 20 0 (by omega) 0 w (Nat.zero_le _) hv;obtain⟨a,c,rfl⟩:=hv.shape;rw[List.drop_zero] at ke;have hres:(decide (fl.length≤100)&&(wM fl (bG 20 fl)==(fl.length:Int)))=dz fl:=by
  unfold dz
  congr 1
  cases hq:bG 20 fl with
  |none=>
   simp only[wM];exact aE (by omega)
  |some r=>
   simp only[wM];cases r with
   |nil=>simp
   |cons x xs=>exact aE (by simp only[aG];omega)
 rw[←hres];obtain⟨z,hz⟩:=nmm (wM fl (bG 20 fl));rw[hz] at ke⊢;obtain⟨m,hm⟩:=nmm fl.length;rw[hm] at ke⊢;clear hres hz hv hok hm
 by_cases h:m≤100
 ·have g1:decide ((m:Int)≤100)=true:=aL (by omega)
  have g2:decide (m≤100)=true:=aL h
  go_enter Tryz.func96,Tryz.ntmps96
  go_wp2_with fail
  refine ag ke ?_;rintro e w2 ⟨rfl,hb⟩
  go_wp2_with fail
  go_ret
  exact⟨by rw[g2,Bool.true_and];rfl,hb⟩
 ·have g1:decide ((m:Int)≤100)=false:=an (by omega)
  have g2:decide (m≤100)=false:=an h
  go_enter Tryz.func96,Tryz.ntmps96
  go_wp2_with fail
  go_ret
  exact⟨by rw[g2,Bool.false_and];rfl,ar _ _⟩
theorem AA:split [] [46]=[[]]:=by decide+kernel
theorem AB(t:List UInt8):split (46::t) [46]=[]::split t [46]:=by
 unfold split;rw[count_cons_eq,Nat.add_comm 1,splitK];have h:index (46::t) [46]=0:=by unfold index;simp[List.isPrefixOf]
 rw[h,if_neg (by decide)]
 simp
theorem zz(b:UInt8)(t:List UInt8)(hb:b≠46):∃f r,split t [46]=f::r∧split (b::t) [46]=(b::f)::r:=by
 unfold split;rw[count_cons_ne b 46 t hb];have hi:index (b::t) [46]=if index t [46]==-1 then -1 else index t [46]+1:=by
  rw[index];rw[if_neg (by simpa[List.isPrefixOf] using(fun h=>hb h.symm))]
 have hg:=index_ge t [46];cases hc:count t [46] with
 |zero=>exact⟨t,[],rfl,rfl⟩
 |succ k=>
  rw[splitK,splitK,hi]
  by_cases h:index t [46]=-1
  ·rw[h]
   exact⟨t,[],rfl,rfl⟩
  ·have h2:(index t [46]==-1)=false:=by simpa using h
   obtain⟨i,hii⟩:∃i:Nat,index t [46]=i:=⟨(index t [46]).toNat,by omega⟩;rw[h2,hii];have h3:(((i:Int)+1)==-1)=false:=by rw[beq_eq_false_iff_ne];omega
   simp only[aW,if_false,h3];refine⟨_,_,rfl,?_⟩;have e:((i:Int)+1).toNat=i+1:=by omega
   rw[e]
   simp
def wv:List UInt8→List UInt8→Nat→Bool
 |[],cur,p=>mQ cur&&decide (0<p)
 |c::t,cur,p=>if eN c then wv t (cur++[c]) p else if mQ cur&&c==46 then wv t [] (p+1) else false
theorem xn:∀(s cur:List UInt8) (p:Nat),∃f r,split s [46]=f::r∧wv s cur p=(((cur++f)::r).all mQ&&decide (0<p+r.length))
 |[],cur,p=>⟨[],[],AA,by simp[wv]⟩
 |c::t,cur,p=>by
  by_cases hc:c=46
  ·subst hc
   obtain⟨f,r,h1,h2⟩:=xn t [] (p+1);refine⟨[],split t [46],AB t,?_⟩;rw[wv,if_neg (by decide),h2,h1];have e:decide (0<p+1+r.length)=decide (0<p+(f::r).length):=decide_eq_decide.2 (by simp only[aG];omega);rw[e];cases hn:mQ cur<;>simp[hn,Bool.and_assoc]
  ·obtain⟨f,r,h1,h2⟩:=zz c t hc
   by_cases hd:eN c=true
   ·obtain⟨f',r',h3,h4⟩:=xn t (cur++[c]) p
    rw[h1] at h3;cases h3;refine⟨c::f,r,h2,?_⟩;rw[wv,if_pos hd,h4]
    simp
   ·refine⟨c::f,r,h2,?_⟩
    rw[wv,if_neg hd,if_neg (by simp[hc])];have hz:mQ (cur++c::f)=false:=by
     unfold mQ;have:(cur++c::f).all eN=false:=by simp[hd]
     rw[this,Bool.and_false]
    simp[hz]
theorem AC(s:List UInt8):sq s=wv s [] 0:=by
 obtain⟨f,r,h1,h2⟩:=xn s [] 0;rw[h2];unfold sq;rw[h1]
 simp
theorem xY(c:UInt8)(w:World):
  Calls Tryz.prog 184 #[.int .u8 (c.toNat:Int)] w fun e w'=>e=.returned (.bool (kR c))∧w=w':=by
 unfold kR;generalize hn:c.toNat=n;clear hn;have h0:decide ((97:Int)≤(n:Int))=decide (97≤n):=iu 97 n;have h1:decide ((n:Int)≤(122:Int))=decide (n≤122):=iu n 122;have h2:decide ((65:Int)≤(n:Int))=decide (65≤n):=iu 65 n;have h3:decide ((n:Int)≤(90:Int))=decide (n≤90):=iu n 90;generalize decide (97≤n)=p at h0⊢;generalize decide (n≤122)=q at h1⊢;generalize decide (65≤n)=r at h2⊢;generalize decide (n≤90)=t at h3⊢;cases p<;>cases q<;>cases r<;>cases t<;>(go_enter Tryz.func184,Tryz.ntmps184;go_wp2;go_ret;exact⟨rfl,rfl⟩)
theorem yn(c:UInt8)(w:World):
  Calls Tryz.prog 185 #[.int .u8 (c.toNat:Int)] w fun e w'=>e=.returned (.bool (eN c))∧w=w':=by
 unfold eN;generalize hn:c.toNat=n;clear hn;have h0:decide ((48:Int)≤(n:Int))=decide (48≤n):=iu 48 n;have h1:decide ((n:Int)≤(57:Int))=decide (n≤57):=iu n 57;generalize decide (48≤n)=p at h0⊢;generalize decide (n≤57)=q at h1⊢;cases p<;>cases q<;>(go_enter Tryz.func185,Tryz.ntmps185;go_wp2;go_ret;exact⟨rfl,rfl⟩)
def BX(s:List UInt8)(ANS:Bool)(pv fv iv:Value):Prop:=
 ∃k fr p:Nat,pv=.int .i64 (p:Int)∧fv=.int .i64 (fr:Int)∧iv=.int .i64 (k:Int)∧p≤k∧fr≤k∧k≤s.length+1∧
  ((k≤s.length∧((s.drop fr).take (k -fr)).all eN=true∧wv (s.drop k) ((s.drop fr).take (k -fr)) p=ANS)∨(k=s.length+1∧decide (0<p)=ANS))
theorem Bu(s:List UInt8)(fr k:Nat)(h:fr≤k)(hk:k≤s.length):((s.drop fr).take (k -fr)).length=k -fr:=by
 rw[List.length_take,List.length_drop];omega
theorem Bb(s:List UInt8)(fr k:Nat)(h:fr≤k)(hk:k<s.length):(s.drop fr).take (k+1 -fr)=(s.drop fr).take (k -fr)++[s[k]]:=by
 have e:k+1 -fr=(k -fr)+1:=by omega
 rw[e,List.take_add_one,List.getElem?_drop,show fr+(k -fr)=k by omega,bp hk]
 rfl
theorem Bc(s:List UInt8)(fr k:Nat)(h:fr<k)(hk:k≤s.length):((s.drop fr).take (k -fr)).getD 0 0=s[fr]'(by omega):=by
 rw[List.getD_eq_getElem?_getD,List.getElem?_take_of_lt (by omega),List.getElem?_drop,Nat.add_zero,bp (by omega)]
 rfl
theorem za(s:List UInt8)(fr k:Nat)(h:fr<k)(hk:k≤s.length)(hd:((s.drop fr).take (k -fr)).all eN=true):
  mQ ((s.drop fr).take (k -fr))=!(decide (fr+1<k)&&(s[fr]'(by omega))==48):=by
 have hl:=Bu s fr k (by omega) hk;have hh:=Bc s fr k h hk;unfold mQ;rw[hd,hh,hl,Bool.and_true];have e1:((s.drop fr).take (k -fr)).isEmpty=false:=by
  cases hq:(s.drop fr).take (k -fr) with
  |nil=>rw[hq] at hl;simp at hl;omega
  |cons a b=>rfl
 have e2:decide (1<k -fr)=decide (fr+1<k):=decide_eq_decide.2 (by omega);rw[e1,e2]
 rfl
theorem zA(s:List UInt8)(w:World)(hs:s.length≤1099511627776):
  Calls Tryz.prog 186 #[.string ⟨s.toArray⟩] w fun e w'=>e=.returned (.bool (sq s))∧w=w':=by
 rw[AC];generalize hA:wv s [] 0=ANS;have HA:=hid hA;clear hA
 go_enter Tryz.func186,Tryz.ntmps186
 go_wp2_with fail
 go_loopw [3,4,5] (fun p f i wr=>BX s ANS p f i∧w=wr) (fun _ _ i _=>s.length+2 -(RowKit.intOf i).toNat)
 case atStart=>exact⟨⟨0,0,0,rfl,rfl,rfl,by omega,by omega,by omega,.inl ⟨by omega,rfl,HA.out⟩⟩,rfl⟩
 case round=>
  clear HA;obtain⟨⟨k,fr,p,rfl,rfl,rfl,hp,hfr,hk,hst⟩,rfl⟩:=hrel;rcases hst with⟨hkl,hdig,hans⟩|⟨hke,hans⟩
  ·have g1:decide ((k:Int)≤(s.length:Int))=true:=aL (by omega)
   by_cases hlt:k<s.length
   ·have g2:decide ((k:Int)<(s.length:Int))=true:=aL (by omega)
    obtain⟨x,hx⟩:=nmm (s[k]);have hbx:∀h',(⟨s.toArray⟩:ByteArray)[k]'h'=x:=fun h'=>hx
    have kd:=yn x w;rw[List.drop_eq_getElem_cons hlt,hx,wv] at hans;cases hd:eN x with
    |true=>
     rw[hd] at kd hans;rw[if_pos rfl] at hans;have hc:=Bb s fr k hfr hlt;rw[hx] at hc;rw[←hc] at hans;have hdig2:((s.drop fr).take (k+1 -fr)).all eN=true:=by rw[hc];simp[hdig,hd]
     obtain⟨H1,H2⟩:=Cg hans hdig2;clear hans hdig2 hc hdig hx
     go_wp2_with (go_at_call 185;refine ag kd ?_;rintro e w' ⟨rfl,rfl⟩)
     go_roundw
     case rel=>exact⟨⟨k+1,fr,p,rfl,rfl,by go_num,by omega,by omega,by omega,.inl ⟨by omega,H2.out,H1.out⟩⟩,trivial⟩
     case measure=>simp[RowKit.intOf];omega
    |false=>
     rw[hd] at kd hans;rw[if_neg (by simp)] at hans
     by_cases hkf:fr=k
     ·subst hkf
      rw[Nat.sub_self,List.take_zero] at hans;rw[if_neg (by simp[mQ])] at hans;have e:ANS=false:=hans.symm;subst e
      go_wp2_with (go_at_call 185;refine ag kd ?_;rintro e w' ⟨rfl,rfl⟩)
      go_ret
      exact⟨rfl,rfl⟩
     ·have b1:((k:Int)==(fr:Int))=false:=by rw[beq_eq_false_iff_ne];omega
      have hnc:=za s fr k (by omega) hkl hdig;rw[hnc] at hans;obtain⟨y,hy⟩:=nmm (s[fr]'(by omega));rw[hy] at hans;have hby:∀h',(⟨s.toArray⟩:ByteArray)[fr]'h'=y:=fun h'=>hy
      have yb:((y.toNat:Int)==48)=(y==48):=(jB _ 48).trans (kL y 48 (by decide)).symm;have ub:decide ((fr:Int)+1<(k:Int))=decide (fr+1<k):=decide_eq_decide.2 (by omega);have i1:(fr:Int)<(s.length:Int):=by omega
      generalize(y==48)=q at yb hans;generalize decide (fr+1<k)=u at ub hans;clear hnc hdig hy;have xb:((x.toNat:Int)==46)=(x==46):=(jB _ 46).trans (kL x 46 (by decide)).symm;generalize(x==46)=c at xb hans;have HS:=hid hans;clear hans;cases q<;>cases u
      ·cases c
       ·have e:ANS=false:=by rw[←HS.out];rfl
        subst e
        go_wp2_with (go_at_call 185;refine ag kd ?_;rintro e w' ⟨rfl,rfl⟩)
        go_ret
        exact⟨rfl,rfl⟩
       ·go_wp2_with (go_at_call 185;refine ag kd ?_;rintro e w' ⟨rfl,rfl⟩)
        go_roundw
        case rel=>exact⟨⟨k+1,k+1,p+1,by go_num,by go_num,by go_num,by omega,by omega,by omega,.inl ⟨by omega,by simp,by rw[←HS.out];simp⟩⟩,trivial⟩
        case measure=>simp[RowKit.intOf];omega
      ·cases c
       ·have e:ANS=false:=by rw[←HS.out];rfl
        subst e
        go_wp2_with (go_at_call 185;refine ag kd ?_;rintro e w' ⟨rfl,rfl⟩)
        go_ret
        exact⟨rfl,rfl⟩
       ·go_wp2_with (go_at_call 185;refine ag kd ?_;rintro e w' ⟨rfl,rfl⟩)
        go_roundw
        case rel=>exact⟨⟨k+1,k+1,p+1,by go_num,by go_num,by go_num,by omega,by omega,by omega,.inl ⟨by omega,by simp,by rw[←HS.out];simp⟩⟩,trivial⟩
        case measure=>simp[RowKit.intOf];omega
      ·cases c
       ·have e:ANS=false:=by rw[←HS.out];rfl
        subst e
        go_wp2_with (go_at_call 185;refine ag kd ?_;rintro e w' ⟨rfl,rfl⟩)
        go_ret
        exact⟨rfl,rfl⟩
       ·go_wp2_with (go_at_call 185;refine ag kd ?_;rintro e w' ⟨rfl,rfl⟩)
        go_roundw
        case rel=>exact⟨⟨k+1,k+1,p+1,by go_num,by go_num,by go_num,by omega,by omega,by omega,.inl ⟨by omega,by simp,by rw[←HS.out];simp⟩⟩,trivial⟩
        case measure=>simp[RowKit.intOf];omega
      ·have e:ANS=false:=by rw[←HS.out];rfl
       subst e
       go_wp2_with (go_at_call 185;refine ag kd ?_;rintro e w' ⟨rfl,rfl⟩)
       go_ret
       exact⟨rfl,rfl⟩
   ·have hke:k=s.length:=by omega
    have g2:decide ((k:Int)<(s.length:Int))=false:=an (by omega);rw[List.drop_of_length_le (by omega),wv] at hans;have HKE:=hid hke;clear hke
    by_cases hkf:fr=k
    ·subst hkf
     rw[Nat.sub_self,List.take_zero] at hans;have e:ANS=false:=by rw[←hans];rfl
     subst e
     go_wp2_with fail
     go_ret
     exact⟨rfl,rfl⟩
    ·have b1:((k:Int)==(fr:Int))=false:=by rw[beq_eq_false_iff_ne];omega
     have hnc:=za s fr k (by omega) hkl hdig;rw[hnc] at hans;obtain⟨y,hy⟩:=nmm (s[fr]'(by omega));rw[hy] at hans;have hby:∀h',(⟨s.toArray⟩:ByteArray)[fr]'h'=y:=fun h'=>hy
     have yb:((y.toNat:Int)==48)=(y==48):=(jB _ 48).trans (kL y 48 (by decide)).symm;have ub:decide ((fr:Int)+1<(k:Int))=decide (fr+1<k):=decide_eq_decide.2 (by omega);have i1:(fr:Int)<(s.length:Int):=by omega
     generalize(y==48)=q at yb hans;generalize decide (fr+1<k)=u at ub hans;clear hnc hdig hy;have HS:=hid hans;clear hans;cases q<;>cases u
     ·have e:=HS.out
      have HE:=hid e;clear e HS
      go_wp2_with fail
      go_roundw
      case rel=>exact⟨⟨k+1,k+1,p,rfl,by go_num,by go_num,by omega,by omega,by have:=HKE.out;omega,.inr ⟨by have:=HKE.out;omega,by rw[←HE.out];simp⟩⟩,trivial⟩
      case measure=>simp[RowKit.intOf];omega
     ·have e:=HS.out
      have HE:=hid e;clear e HS
      go_wp2_with fail
      go_roundw
      case rel=>exact⟨⟨k+1,k+1,p,rfl,by go_num,by go_num,by omega,by omega,by have:=HKE.out;omega,.inr ⟨by have:=HKE.out;omega,by rw[←HE.out];simp⟩⟩,trivial⟩
      case measure=>simp[RowKit.intOf];omega
     ·have e:=HS.out
      have HE:=hid e;clear e HS
      go_wp2_with fail
      go_roundw
      case rel=>exact⟨⟨k+1,k+1,p,rfl,by go_num,by go_num,by omega,by omega,by have:=HKE.out;omega,.inr ⟨by have:=HKE.out;omega,by rw[←HE.out];simp⟩⟩,trivial⟩
      case measure=>simp[RowKit.intOf];omega
     ·have e:ANS=false:=by rw[←HS.out];rfl
      subst e
      go_wp2_with fail
      go_ret
      exact⟨rfl,rfl⟩
  ·have g1:decide ((k:Int)≤(s.length:Int))=false:=an (by omega)
   have g3:decide ((0:Int)<(p:Int))=ANS:=by rw[←hans];exact decide_eq_decide.2 (by omega)
   have g4:¬k≤s.length:=by omega
   clear g1 g3 hke
   go_wp2_with fail
   go_ret
   exact⟨by rw[←hans];rfl,rfl⟩
theorem Bv(c:UInt8):(jz c&&c !=46)=(kR c||eN c||c==45):=by
 have:∀i:Fin 256,(jz (UInt8.ofNat i.val)&&UInt8.ofNat i.val !=46)=(kR (UInt8.ofNat i.val)||eN (UInt8.ofNat i.val)||UInt8.ofNat i.val==45):=by decide+kernel
 have h:=this ⟨c.toNat,UInt8.toNat_lt c⟩
 simpa using h
theorem zB(s:List UInt8)(w:World)(hs:s.length≤1099511627776):
  Calls Tryz.prog 177 #[.string ⟨s.toArray⟩] w fun e w'=>e=.returned (.bool (gr s))∧w=w':=by
 unfold gr
 by_cases h0:s=[]
 ·subst h0
  rw[if_pos (.inl rfl)]
  go_enter Tryz.func177,Tryz.ntmps177
  go_wp2
  go_ret
  exact⟨rfl,rfl⟩
 ·have hl:0<s.length:=by cases s<;>simp_all
  have q0:decide ((s.length:Int)<1)=false:=an (by omega)
  by_cases h64:64<s.length
  ·rw[if_pos (.inr h64)]
   have q1:decide ((64:Int)<(s.length:Int))=true:=aL (by omega)
   go_enter Tryz.func177,Tryz.ntmps177
   go_wp2
   go_ret
   exact⟨rfl,rfl⟩
  ·rw[if_neg (by rintro(h|h);exact h0 h;exact h64 h)]
   have q1:decide ((64:Int)<(s.length:Int))=false:=an (by omega);have hg0:s.getD 0 0=s[0]:=by simp[hl]
   have k1:=xY s[0] w;rw[hg0];generalize kR s[0]=p at k1⊢;cases p
   ·rw[if_neg (by simp)]
    have k2:=zA s w (by omega)
    go_enter Tryz.func177,Tryz.ntmps177
    go_wp2_with (first|(go_at_call 184;refine ag k1 ?_;rintro e w' ⟨rfl,rfl⟩)|(go_at_call 186;refine k2.mono ?_;rintro e w2 ⟨rfl,rfl⟩))
    go_ret
    exact⟨rfl,rfl⟩
   ·rw[if_pos rfl]
    simp only[Bv];generalize hA:s.all (fun c=>kR c||eN c||c==45)=ANS;have HA:=hid hA;clear hA
    go_enter Tryz.func177,Tryz.ntmps177
    go_wp2_with (go_at_call 184;refine ag k1 ?_;rintro e w' ⟨rfl,rfl⟩)
    go_loopw [3] (fun i wr=>∃k:Nat,i=.int .i64 (k:Int)∧k≤s.length∧w=wr∧(s.drop k).all (fun c=>kR c||eN c||c==45)=ANS) (fun i _=>s.length -(RowKit.intOf i).toNat)
    case atStart=>exact⟨0,rfl,by omega,rfl,HA.out⟩
    case round=>
     obtain⟨k,rfl,hk,rfl,hans⟩:=hrel;clear HA
     by_cases hkl:k<s.length
     ·rw[List.drop_eq_getElem_cons hkl,List.all_cons] at hans
      have k3:=xY s[k] w;have k4:=yn s[k] w;have hq:(((((⟨s.toArray⟩:ByteArray)[k]'(by rw[Lib.size_mk];omega)).toNat:Int))==45)=(s[k]==45):=by
       show(((s[k]).toNat:Int)==45)=_;exact(jB _ 45).trans (kL s[k] 45 (by decide)).symm
      have gd:decide ((k:Int)<(s.length:Int))=true:=aL (by omega);generalize(s[k]==45)=q at hq hans;generalize kR s[k]=p at k3 hans;generalize eN s[k]=d at k4 hans;have HS:=hid hans;clear hans
      by_cases hb:(p||d||q)=true
      ·have h2:(s.drop (k+1)).all (fun c=>kR c||eN c||c==45)=ANS:=by rw[←HS.out,hb,Bool.true_and]
       have HS2:=hid h2;clear h2 HS;cases p<;>cases d<;>cases q<;>first|(exfalso;revert hb;decide)|skip
       all_goals
        clear hb
        go_wp2_with (first|(go_at_call 184;refine ag k3 ?_;rintro e w' ⟨rfl,rfl⟩)|(go_at_call 185;refine ag k4 ?_;rintro e w' ⟨rfl,rfl⟩))
        go_roundw
        case rel=>exact⟨k+1,by go_num,by omega,trivial,HS2.out⟩
        case measure=>simp[RowKit.intOf];omega
      ·have hb2:(p||d||q)=false:=by simpa using hb
       have e:ANS=false:=by rw[←HS.out,hb2,Bool.false_and]
       subst e;clear HS hb;cases p<;>cases d<;>cases q<;>first|(exfalso;revert hb2;decide)|skip
       all_goals
        clear hb2
        go_wp2_with (first|(go_at_call 184;refine ag k3 ?_;rintro e w' ⟨rfl,rfl⟩)|(go_at_call 185;refine ag k4 ?_;rintro e w' ⟨rfl,rfl⟩))
        go_ret
        exact⟨rfl,rfl⟩
     ·have e:ANS=true:=by rw[←hans,List.drop_of_length_le (by omega)];rfl
      subst e;have gd:¬k<s.length:=hkl;clear hans
      go_wp2_with fail
      go_ret
      exact⟨rfl,rfl⟩
theorem kt8:KT8:=fun s w hs=>(zB s w hs).mono fun e w' h=>⟨h.1,by first|exact h.2|(rw[←h.2];exact ar _ _)|(rw[h.2];exact ar _ _)⟩
theorem xp(m:Mg)(l:Ls)(w:World)(hm:MgM w m l)(hk:LsOk m l):
  Calls Tryz.prog 15 #[.agg (Mg.row m)] w fun e w'=>e=.returned (.bool (bH m l))∧Below w.heap.size w w':=
 Ab m l w hm hk fun w' hb=>Ay m l w' (hm.below hb) (by have:=hk.mods;omega) (by have:=hk.ctl;omega) (fun w2 hb2=>Ad kt8 l.filt m.filt w2 ((hm.below hb).filt.below hb2) hk.filt)
def faT(d:Nat)(el:El):Bool:=!(qs cn d el)
def faF(d:Nat)(el:El):Bool:=!(qs cB d el)
theorem Ae(n:Nat):∀(el:El),ex el≤n→SmE el→∀(d:Nat),d≤20→∀(u:Value) (w:World),bf (fun _=>True) w u el.kids→
  Cr 87 #[.agg (elA el u),.int .i64 (d:Int)] w (.tuple #[.bool (faT d el),.bool (faF d el),.bool (eW d el)]):=by
 induction n with
 |zero=>intro el hd;rw[eu] at hd;omega
 |succ n ih=>
 intro el hd hs d hd20 u w h;obtain⟨a,c,hf⟩:=h.shape;subst hf;obtain⟨sb,sl,sk⟩:=dV hs;have b1:=alb w (Er el a c) 45;have r1:=alz w (Er el a c) 45;obtain⟨H,IH,HS,HD⟩:=Ci (h.below b1) ih sk hd;clear h ih sk hd hs
 by_cases h20:20≤d
 ·have g1:decide ((d:Int)≥20)=true:=aL (by omega)
  have g2:decide ((20:Int)≤(d:Int))=true:=aL (by omega);have e1:faT d el=false:=by rw[faT,mc,if_pos h20];rfl
  have e2:faF d el=false:=by rw[faF,mc,if_pos h20];rfl
  have e3:eW d el=true:=by rw[ro,if_pos h20]
  rw[e1,e2,e3];unfold elA
  go_enter Tryz.func87,Tryz.ntmps87
  go_wp2_with fail
  exact aH (v:=.tuple #[Bf,Bf,.bool true]) (by simp[results,Tryz.f87, go_sem]) rfl ⟨rfl,b1⟩
 ·have g1:decide ((d:Int)≥20)=false:=an (by omega)
  have g2:decide ((20:Int)≤(d:Int))=false:=an (by omega);obtain⟨T0,hT0⟩:=nmm (!cn el);obtain⟨F0,hF0⟩:=nmm (!cB el);have eT:faT d el=(T0||!(dS cn (d+1) el.kids)):=by rw[faT,mc,if_neg h20,←hT0];cases cn el<;>simp
  have eF:faF d el=(F0||!(dS cB (d+1) el.kids)):=by rw[faF,mc,if_neg h20,←hF0];cases cB el<;>simp
  have eD:eW d el=eX (d+1) el.kids:=by rw[ro,if_neg h20]
  rw[eT,eF,eD];obtain⟨AT,hAT⟩:=nmm (T0||!(dS cn (d+1) el.kids));obtain⟨AF,hAF⟩:=nmm (F0||!(dS cB (d+1) el.kids));obtain⟨AD,hAD⟩:=nmm (eX (d+1) el.kids);rw[hAT,hAF,hAD];obtain⟨HAT,HAF,HAD,HT0,HF0⟩:=Cj hAT hAF hAD hT0 hF0;clear eT eF eD hAT hAF hAD hT0 hF0 h20;unfold elA
  go_enter Tryz.func87,Tryz.ntmps87
  go_upto_region 3 with fail
  generalize w.alloc (.cells (Er el a c) 45)=w1 at b1 r1 H⊢;have q0:=cval r1 0 (.int .i64 el.cls);have q1:=cval r1 1 (.int .i64 el.tag);have q2:=cval r1 2 (.bool el.cons);have q3:=cval r1 3 (.string ⟨el.bytes.toArray⟩);have q4:=cval r1 4 (.slice a el.kids.length c)
  go_cut [7] from 16 to 33 (fun s7 wx=>s7=.bool T0∧wx=w1)
  case first=>
   have hT:(decide (el.cls<0)||decide (el.cls>3)||decide (el.tag<0)||decide (el.tag>30))=T0:=by
    rw[←HT0.out];have hh:cn el=(decide (0≤el.cls)&&decide (el.cls≤3)&&decide (0≤el.tag)&&decide (el.tag≤30)):=by cases el;rfl
    rw[hh];rw[show decide (el.cls<0)=!decide (0≤el.cls) by rw[←decide_not];exact decide_eq_decide.2 (by omega),show decide (el.cls>3)=!decide (el.cls≤3) by rw[←decide_not];exact decide_eq_decide.2 (by omega),show decide (el.tag<0)=!decide (0≤el.tag) by rw[←decide_not];exact decide_eq_decide.2 (by omega),show decide (el.tag>30)=!decide (el.tag≤30) by rw[←decide_not];exact decide_eq_decide.2 (by omega)];simp only[Bool.not_and]
   obtain⟨b1',e1⟩:=nmm (decide (el.cls<0));obtain⟨b2',e2⟩:=nmm (decide (el.cls>3));obtain⟨b3',e3⟩:=nmm (decide (el.tag<0));obtain⟨b4',e4⟩:=nmm (decide (el.tag>30));have e2':decide (3<el.cls)=b2':=e2;have e4':decide (30<el.tag)=b4':=e4;rw[e1,e2,e3,e4] at hT;have HTT:=hid hT;clear hT;cases b1'<;>cases b2'<;>cases b3'<;>cases b4'
   all_goals
    go_wp2_with fail
    go_meet
    exact⟨by rw[←HTT.out];rfl,rfl⟩
  case rest=>
   obtain⟨rfl,rfl⟩:=hcut
   go_upto_region 4 with fail
   go_cut [8] from 34 to 52 (fun s8 wx=>s8=.bool F0∧wx=wc)
   case first=>
    obtain⟨k,hk⟩:=nmm el.cons;obtain⟨bl,hbl⟩:=nmm el.bytes.length;obtain⟨kl,hkl⟩:=nmm el.kids.length;have hF:(if k then decide (bl>0) else decide (kl>0))=F0:=by
     rw[←HF0.out];have hh:cB el=if el.cons then decide (el.bytes=[]) else decide (el.kids=[]):=by cases el;rfl
     rw[hh,hk,←hbl,←hkl];cases k
     ·cases el.kids<;>simp
     ·cases el.bytes<;>simp
    rw[hk] at q2;rw[hkl] at q4;obtain⟨x1,e1⟩:=nmm (decide (bl>0));obtain⟨x2,e2⟩:=nmm (decide (kl>0));have e1a:decide ((bl:Int)>0)=x1:=by rw[←e1];exact decide_eq_decide.2 (by omega)
    have e1b:decide (0<(bl:Int))=x1:=e1a;have e1c:decide (0<bl)=x1:=e1;have e2a:decide ((kl:Int)>0)=x2:=by rw[←e2];exact decide_eq_decide.2 (by omega)
    have e2b:decide (0<(kl:Int))=x2:=e2a;have e2c:decide (0<kl)=x2:=e2;rw[e1,e2] at hF;have HFF:=hid hF;clear hF hk hkl;cases k<;>cases x1<;>cases x2
    all_goals
     go_wp2_with fail
     go_meet
     exact⟨by rw[←HFF.out];rfl,rfl⟩
   case rest=>
    obtain⟨rfl,hwz⟩:=hcut;obtain rfl:=hwz.symm;clear q0 q1 q2 q3 HT0 HF0
    go_wp2_with fail
    go_loopw [7,8,9,10] (fun s7 s8 s9 s10 wr=>∃(k:Nat) (t f z:Bool),s10=.int .i64 (k:Int)∧s7=.bool t∧s8=.bool f∧s9=.bool z∧k≤el.kids.length∧Below w.heap.size w wr∧Below wc.heap.size wc wr∧(t||!(dS cn (d+1) (el.kids.drop k)))=AT∧(f||!(dS cB (d+1) (el.kids.drop k)))=AF∧(z||eX (d+1) (el.kids.drop k))=AD) (fun _ _ _ s10 _=>el.kids.length -(RowKit.intOf s10).toNat)
    case atStart=>exact⟨0,T0,F0,false,rfl,rfl,rfl,rfl,Nat.zero_le _,b1,ar _ _,HAT.out,HAF.out,by rw[Bool.false_or];exact HAD.out⟩
    case round=>
     clear q4;obtain⟨k,t,f,z,rfl,rfl,rfl,rfl,hk,hbw,hbe,ht,hf,hz⟩:=hrel;have q4:=(hbe.cell (bj ((cval r1 4 (.slice a el.kids.length c))))).trans ((cval r1 4 (.slice a el.kids.length c)))
     by_cases hkl:k<el.kids.length
     ·obtain⟨e,he⟩:∃e,el.kids[k]?=some e:=⟨el.kids[k],bp hkl⟩
      obtain⟨a',cap',e',_,hsrc⟩:=H.out.below hbe;cases e';obtain⟨g,o,ha,_,hcells⟩:=hsrc (by intro h0;rw[h0] at hkl;simp at hkl);subst ha;obtain⟨p0,p1,p2,p3,u,p4,hu⟩:=(cE.get el.kids g o k e hcells he).cells;obtain⟨au,cu,hfu⟩:=hu.shape;subst hfu;have hdep:ex e≤n:=by
       have h1:=eK el.kids k e he;have h2:=eu el;have:=HD.out
       omega
      rw[gv he] at ht hf hz;simp only[dS,eX] at ht hf hz;have i1:(k:Int)<(el.kids.length:Int):=by omega
      have i3:decide ((k:Int)<(el.kids.length:Int))=true:=aL i1;have kr:=IH.out e hdep (eV el.kids k e HS.out he) (d+1) (by have:=of_decide_eq_false g2;omega) _ _ hu;have hsz:=hbe.size;have HB4:=hid hbe;have hdc:((d+1:Nat):Int)=(d:Int)+1:=by omega
      rw[hdc] at kr;obtain⟨T1,hT1⟩:=nmm (faT (d+1) e);obtain⟨F1,hF1⟩:=nmm (faF (d+1) e);obtain⟨Z1,hZ1⟩:=nmm (eW (d+1) e);rw[hT1,hF1,hZ1] at kr;obtain⟨HT,HF,HZ⟩:=Ch (show((t||T1)||!(dS cn (d+1) (el.kids.drop (k+1))))=AT by rw[←ht,←hT1,faT];cases t<;>cases qs cn (d+1) e<;>rfl) (show((f||F1)||!(dS cB (d+1) (el.kids.drop (k+1))))=AF by rw[←hf,←hF1,faF];cases f<;>cases qs cB (d+1) e<;>rfl) (show((z||Z1)||eX (d+1) (el.kids.drop (k+1)))=AD by rw[←hz,←hZ1,Bool.or_assoc]);clear hdc hT1 hF1 hZ1 ht hf hz hsrc hcells he hu hbe;unfold elA at kr
      go_wp2_with fail
      refine ag kr ?_;rintro e5 w5 ⟨rfl,hb5⟩;have HB5:=hid (HB4.out.trans (hb5.mono (by omega)));clear hb5 kr
      go_upto_region 10 with fail
      cases t<;>cases f<;>cases z
      all_goals
       go_wp2_with fail
       exact⟨⟨k+1,_,_,_,by go_num,rfl,rfl,rfl,by omega,b1.trans (HB5.out.mono b1.size),HB5.out,HT.out,HF.out,HZ.out⟩,by simp[RowKit.intOf];omega⟩
     ·obtain rfl:k=el.kids.length:=by omega
      rw[List.drop_of_length_le (ah _)] at ht hf hz;simp only[dS,eX,Bool.not_true,Bool.or_false] at ht hf hz;subst ht hf hz;have i3:decide ((el.kids.length:Int)<(el.kids.length:Int))=false:=an (by omega)
      go_wp2_with fail
      exact aH (v:=.tuple #[.bool t,.bool f,.bool z]) (by simp[results,Tryz.f87, go_sem]) rfl ⟨rfl,hbw⟩
def Cl(n:Nat):Nat:=if 65536<n then 65537 else if n<128 then n+2 else if n<256 then n+3 else n+4
mutual
def rsE:El→Nat
 | .mk _ _ _ b ks=>Cl (rsL b.length ks)
def rsL:Nat→List El→Nat
 |n,[]=>n
 |n,e::r=>if n≤65536 then rsL (n+rsE e) r else n
end
theorem AE(el:El):rsE el=Cl (rsL el.bytes.length el.kids):=by cases el;simp only[rsE,El.bytes,El.kids]
theorem AG(n:Nat):Cl n≤65540:=by
 unfold Cl
 repeat' split
 all_goals omega
theorem BF(el:El):rsE el≤65540:=by rw[AE];exact AG _
theorem Bw{n:Nat}(h:¬n≤65536):∀ks:List El,rsL n ks=n
 |[]=>by simp only[rsL]
 |e::r=>by simp only[rsL,if_neg h]
theorem zc(n:Nat):(cd n).length=if n<128 then 1 else if n<256 then 2 else if n<65536 then 3 else 4:=by
 unfold cd
 repeat' split
 all_goals rfl
mutual
theorem yB:∀el:El,min (rsE el) 65537=bK el
 | .mk c t k b ks=>by
  have h:=zd ks b.length b.length rfl;simp only[rsE,bK,zc,Cl];generalize cw b.length ks=S at h⊢;generalize rsL b.length ks=S' at h⊢
  repeat' split
  all_goals omega
theorem zd:∀(ks:List El) (n n':Nat),min n 65537=min n' 65537→min (cw n ks) 65537=min (rsL n' ks) 65537
 |[],n,n',h=>by simpa only[cw,rsL] using h
 |e::r,n,n',h=>by
  have h1:=yB e;simp only[cw,rsL]
  by_cases hn:n'≤65536
  ·rw[if_pos hn]
   exact zd r _ _ (by omega)
  ·rw[if_neg hn]
   have h2:=jJ r (min (n+bK e) 65537)
   omega
end
theorem Bd{el:El}(h:bK el≤65536):rsE el=bK el:=by
 have:=yB el;omega
theorem yJ(n:Nat):∀(el:El),ex el≤n→SmE el→∀(u:Value) (w:World),bf (fun _=>True) w u el.kids→
  Cr 88 #[.agg (elA el u)] w (.int .i64 (rsE el:Int)):=by
 induction n with
 |zero=>intro el hd;rw[eu] at hd;omega
 |succ n ih=>
 intro el hd hs u w h;obtain⟨a,c,hf⟩:=h.shape;subst hf;obtain⟨sb,sl,sk⟩:=dV hs;have b1:=alb w (Er el a c) 45;have r1:=alz w (Er el a c) 45;obtain⟨H,IH,HS,HD⟩:=Ci (h.below b1) ih sk hd;clear h ih sk hd hs;obtain⟨ANS,hA⟩:=nmm (rsL el.bytes.length el.kids);rw[AE,hA];have HA:=hid hA;obtain⟨OUT,hO⟩:=nmm (Cl ANS);rw[hO];have HO:=hid hO;clear hA hO;unfold elA
 go_enter Tryz.func88,Tryz.ntmps88
 go_upto_region 1 with fail
 generalize w.alloc (.cells (Er el a c) 45)=w2 at b1 r1 H⊢;have q4:=cval r1 4 (.slice a el.kids.length c);have q3:=cval r1 3 (.string ⟨el.bytes.toArray⟩);clear r1
 go_wp2_with fail
 go_loopw [3,4] (fun v i wr=>∃k m:Nat,i=.int .i64 (k:Int)∧v=.int .i64 (m:Int)∧m≤1000000000∧k≤el.kids.length∧Below w2.heap.size w2 wr∧rsL m (el.kids.drop k)=ANS) (fun _ i _=>el.kids.length -(RowKit.intOf i).toNat)
 case atStart=>exact⟨0,el.bytes.length,rfl,rfl,sb,Nat.zero_le _,ar _ _,HA.out⟩
 case round=>
  obtain⟨k,m,rfl,rfl,hm,hk,hbe,hans⟩:=hrel;have s4:=(hbe.cell (bj q4)).trans q4;clear q4 q3
  by_cases hgo:k<el.kids.length∧m≤65536
  ·obtain⟨hkl,hm6⟩:=hgo
   obtain⟨e,he⟩:∃e,el.kids[k]?=some e:=⟨el.kids[k],bp hkl⟩;obtain⟨a',cap',e',_,hsrc⟩:=H.out.below hbe;cases e';obtain⟨g,o,ha,_,hcells⟩:=hsrc (by intro h0;rw[h0] at hkl;simp at hkl);subst ha;obtain⟨p0,p1,p2,p3,u,p4,hu⟩:=(cE.get el.kids g o k e hcells he).cells;obtain⟨au,cu,hfu⟩:=hu.shape;subst hfu;have hdep:ex e≤n:=by have h1:=eK el.kids k e he;have h2:=eu el;have:=HD.out;omega
   rw[gv he] at hans;simp only[rsL,if_pos hm6] at hans;have i1:(k:Int)<(el.kids.length:Int):=by omega
   have i3:decide ((k:Int)<(el.kids.length:Int))=true:=aL i1;have i4:decide ((m:Int)≤65536)=true:=aL (by omega);have kr:=IH.out e hdep (eV el.kids k e HS.out he) _ _ hu;have hsz:=hbe.size;have HB4:=hid hbe;have hse:=BF e;obtain⟨z,hzz⟩:=nmm (rsE e);rw[hzz] at kr hans hse;have HANS:=hid hans;have hw1:IntKind.i64.wrap ((m:Int)+(z:Int))=(m:Int)+(z:Int):=by rw[aK];omega
   clear hsrc hcells he hu hzz hans hbe;unfold elA at kr
   go_wp2_with fail
   refine ag kr ?_;rintro e5 w5 ⟨rfl,hb5⟩;have HB5:=hid (HB4.out.trans (hb5.mono (by omega)));clear hb5 kr
   go_wp2_with fail
   exact⟨⟨k+1,m+z,by go_num,by go_num,by omega,by omega,HB5.out,HANS.out⟩,by simp[RowKit.intOf];omega⟩
  ·have hm2:ANS=m:=by
    rw[←hans]
    by_cases hkl:k<el.kids.length
    ·exact Bw (fun h=>hgo ⟨hkl,h⟩) _
    ·rw[List.drop_of_length_le (by omega)];simp only[rsL]
   subst hm2;have hbf:=btt b1 hbe;have HH:=HO.out;unfold Cl at HH;clear H IH HS HD HA HO hans hbe;obtain⟨L,hL⟩:=nmm el.kids.length;rw[hL] at s4 hgo hk;clear hL
   by_cases hkl:k<L
   ·have hm6:¬ANS≤65536:=fun h=>hgo ⟨hkl,h⟩
    have i1:(k:Int)<(L:Int):=by omega
    have i3:decide ((k:Int)<(L:Int))=true:=aL i1;have i4:decide ((ANS:Int)≤65536)=false:=an (by omega);have d1:decide ((ANS:Int)>65536)=true:=aL (by omega);have d2:decide ((65536:Int)<(ANS:Int))=true:=d1;rw[if_pos (by omega)] at HH;subst HH;clear hgo hm6
    go_wp2_with fail
    go_ret;exact⟨rfl,hbf⟩
   ·obtain rfl:k=L:=by omega
    have i3:decide ((k:Int)<(k:Int))=false:=an (by omega);clear hgo hkl
    by_cases c1:65536<ANS
    ·have d1:decide ((ANS:Int)>65536)=true:=aL (by omega)
     have d2:decide ((65536:Int)<(ANS:Int))=true:=d1;rw[if_pos c1] at HH;subst HH
     go_wp2_with fail
     go_ret;exact⟨rfl,hbf⟩
    ·have d1:decide ((ANS:Int)>65536)=false:=an (by omega)
     have d2:decide ((65536:Int)<(ANS:Int))=false:=d1;rw[if_neg c1] at HH
     by_cases c2:ANS<128
     ·have d3:decide ((ANS:Int)<128)=true:=aL (by omega)
      rw[if_pos c2] at HH;subst HH
      go_wp2_with fail
      go_ret
      exact⟨by go_num,hbf⟩
     ·have d3:decide ((ANS:Int)<128)=false:=an (by omega)
      rw[if_neg c2] at HH
      by_cases c3:ANS<256
      ·have d4:decide ((ANS:Int)<256)=true:=aL (by omega)
       rw[if_pos c3] at HH;subst HH
       go_wp2_with fail
       go_ret
       exact⟨by go_num,hbf⟩
      ·have d4:decide ((ANS:Int)<256)=false:=an (by omega)
       rw[if_neg c3] at HH;subst HH
       go_wp2_with fail
       go_ret
       exact⟨by go_num,hbf⟩
def KpE(w w':World):Prop:=∀(g:Nat) (C:Array Value),w.heap[g]?=some (.cells C 45 (0,0))→w'.heap[g]?=some (.cells C 45 (0,0))
theorem KpE.below{w w':World}(h:Below w.heap.size w w'):KpE w w':=fun g _ hg=>(h.block g (gl hg)).trans hg
structure PuS (B g:Nat) (C:Array Value) (w:World) (v:Value) (l:List UInt8) (wr:World):Prop where
 own:wr.ownsRow B 5 1 v l.length (bV l)
 box:wr.heap[g]?=some (.cells C 45 (0,0))
 bel:Below B w wr
 low:B≤wr.heap.size
 kp:KpE w wr
theorem PuS.below{B g:Nat}{C:Array Value}{w wr w':World}{v:Value}{l:List UInt8}(h:PuS B g C w v l wr)(hb:Below wr.heap.size wr w'):PuS B g C w v l w':=
 ⟨ge h.own hb,(hb.block _ (gl h.box)).trans h.box,h.bel.trans (hb.mono h.low),Nat.le_trans h.low hb.size,fun g C hg=>KpE.below hb g C (h.kp g C hg)⟩
theorem PuS.grown{B g:Nat}{C:Array Value}{w wr w':World}{v v':Value}{l l':List UInt8}(h:PuS B g C w v l wr)(ho:w'.ownsRow B 5 1 v' l'.length (bV l'))(hg:wr.grownBy w' v.ownBlock):PuS B g C w v' l' w':=
 ⟨ho,(hg.block _ (gl h.box) (fun q=>wW h.own h.box (by decide) q.symm)).trans h.box,h.bel.grown hg h.low (fun b hb=>(h.own.lt b hb).1),Nat.le_trans h.low hg.size,fun g C q=>by
  have q2:=h.kp g C q;exact(hg.block _ (gl q2) (fun q=>wW h.own q2 (by decide) q.symm)).trans q2⟩
theorem PuS.call{B g:Nat}{C:Array Value}{w wr w':World}{v v':Value}{l l':List UInt8}(h:PuS B g C w v l wr)(ho:w'.ownsRow B 5 1 v' l'.length (bV l'))(hb:Below B wr w')(hk:KpE wr w'):PuS B g C w v' l' w':=
 ⟨ho,hk _ _ h.box,h.bel.trans hb,Nat.le_trans h.low hb.size,fun g C q=>hk g C (h.kp g C q)⟩
theorem wN{ops:Array Oper}{rest:List Oper}{o:Oper}{a:Act}{Q:Exit→Act→World→Prop}{B g:Nat}{C:Array Value}{w wr:World}{v:Value}{l:List UInt8}(S:PuS B g C w v l wr)(news:List UInt8)(cs:Array Value)(hgd:o.guard=none)(s x:Operand)
  (ho:o.op=.call {callee:=.builtin .append,args:=#[s,x],argTypes:=#[39,39]}) (hcs:cs.toList=bV news) (hs:a.eval s=v) (hx:a.eval x=.slice (some ⟨wr.heap.size,0,none⟩) news.length news.length) (hl:l.length+news.length≤1000000)
  (h:∀v' w',PuS B g C w v' (l++news) w'→wpList Tryz.prog ops Q rest (a.put o.dst v') w'):wpList Tryz.prog ops Q (o::rest) a (wr.alloc (.cells cs 5)):=by
 obtain⟨i0,hi0,hz0,hz1,hz2⟩:=info_parts Tryz.infoByte;have hb:=alb wr cs 5;have S1:=S.below hb;refine wpList_append_own _ hgd s x 39 ho B 5 i0 (.int .u8 0) 1 1 Tryz.underlying39 hi0 hz0 hz1 hz2 rfl (by decide) v l.length (bV l) hs S1.own ⟨wr.heap.size,0,none⟩ news.length news.length (bV news) hx (by rw[fD,Nat.mul_one]) ?_ ?_ (by unfold maxLen;omega) (by omega) S1.low fun v' w' ho' hg' _=>h v' w' (S1.grown ?_ hg')
 ·rw[←hcs];exact World.news_of_block (bi _ _ _ rfl)
 ·intro u hu
  simp only[bV,List.mem_map] at hu;obtain⟨y,_,rfl⟩:=hu
  rfl
 ·rw[bd,kU];exact ho'
theorem yC{ops:Array Oper}{rest:List Oper}{o:Oper}{a:Act}{Q:Exit→Act→World→Prop}{B g:Nat}{C:Array Value}{w wr:World}{v:Value}{l:List UInt8}(S:PuS B g C w v l wr)(t:List UInt8)(hgd:o.guard=none)(s x:Operand)
  (ho:o.op=.call {callee:=.builtin .append,args:=#[s,x],argTypes:=#[39,9]}) (hs:a.eval s=v) (hx:a.eval x=.string ⟨t.toArray⟩) (hl:l.length+t.length≤1000000)
  (h:∀v' w',PuS B g C w v' (l++t) w'→wpList Tryz.prog ops Q rest (a.put o.dst v') w'):wpList Tryz.prog ops Q (o::rest) a wr:=by
 obtain⟨i0,hi0,hz0,hz1,hz2⟩:=info_parts Tryz.infoByte;have hss:(⟨t.toArray⟩:ByteArray).size=t.length:=Lib.size_mk t;refine Lib.wpList_append_own_string _ hgd s x 39 9 ho B 5 i0 Tryz.underlying39 Tryz.underlying9 hi0 hz0 hz1 hz2 v l.length (bV l) hs S.own ⟨t.toArray⟩ hx (by rw[hss];unfold maxLen;omega) (by rw[hss];omega) S.low fun v' w' ho' hg' _=>h v' w' (S.grown ?_ hg')
 rw[bd,kU];rw[hss,show strCells ⟨t.toArray⟩=bV t by simp[strCells,bV]] at ho';exact ho'
theorem bV1(n:Nat)(h:n<256):bV [UInt8.ofNat n]=[.int .u8 (n:Int)]:=by simp[bV,UInt8.toNat_ofNat'];omega
theorem Be(n:Nat):∀(el:El),ex el≤n→SmE el→bK el≤65536→jO cn el→∀(B:Nat) (v:Value) (l:List UInt8) (u:Value) (w:World),w.ownsRow B 5 1 v l.length (bV l)→bf (fun g=>g<B) w u el.kids→B≤w.heap.size→l.length+bK el≤100000→
  Calls Tryz.prog 89 #[v,.agg (elA el u)] w fun e w'=>(∃v',e=.returned v'∧w'.ownsRow B 5 1 v' (l++eJ el).length (bV (l++eJ el)))∧Below B w w'∧KpE w w':=by
 induction n with
 |zero=>intro el hd;rw[eu] at hd;omega
 |succ n ih=>
 intro el hd hs hz6 ht B v l u w hW h hBw hll;obtain⟨a,c,hf⟩:=h.shape;subst hf;obtain⟨sb,sl,sk⟩:=dV hs;obtain⟨tg,tk⟩:=pd ht;have hde:fT el.kids≤n:=by have:=eu el;omega
 obtain⟨ec,et,ek,eb,es⟩:=el;simp only[El.kids,El.bytes] at*;simp only[cn,aI,aT] at tg;obtain⟨⟨⟨t1,t2⟩,t3⟩,t4⟩:=tg;obtain⟨C,rfl⟩:∃C:Nat,ec=(C:Int):=⟨ec.toNat,by omega⟩;obtain⟨Tg,rfl⟩:∃C:Nat,et=(C:Int):=⟨et.toNat,by omega⟩;obtain⟨Z,hZ⟩:=nmm (bK (.mk (C:Int) (Tg:Int) ek eb es));have hsum:eb.length+bR es≤Z:=by
  have h1:=ix (.mk (C:Int) (Tg:Int) ek eb es);simp only[El.kids,El.bytes] at h1;rw[hZ] at h1 hz6;have h2:=gW es eb.length (by omega)
  omega
 have hZT:1+(cd (eb.length+bR es)).length+(eb.length+bR es)=Z:=by
  have h1:=iw (.mk (C:Int) (Tg:Int) ek eb es);simp only[El.kids,El.bytes] at h1;rw[hZ] at h1 hz6;have h2:=gW es eb.length (by omega);rw[h2] at h1;rw[show min (eb.length+bR es) 65537=eb.length+bR es by omega] at h1
  omega
 rw[hZ] at hz6 hll;have HP:=hid (show eJ (.mk (C:Int) (Tg:Int) ek eb es)=UInt8.ofNat (C*64+Tg+(if ek then 32 else 0))::cd (eb.length+bR es)++eb++dq es from by rw[ou];rfl);obtain⟨FB,hFB⟩:=nmm (C*64+Tg+(if ek then 32 else 0));have hFB2:FB<256:=by rw[←hFB];split<;>omega
 have hsz:∀(j:Nat) (e:El),es[j]?=some e→bK e≤Z:=fun j e he=>by
  have h1:=gP es eb.length j e he;have h2:=ix (.mk (C:Int) (Tg:Int) ek eb es);simp only[El.kids,El.bytes] at h2;rw[hZ] at h2
  omega
 rw[hFB] at HP;obtain⟨NN,hNN⟩:=nmm (eb.length+bR es);rw[hNN] at HP hsum hZT;have hlen:=zc NN;have hNN6:NN≤65532:=by
  rw[hlen] at hZT
  split at hZT
  ·omega
  ·split at hZT
   ·omega
   ·split at hZT<;>omega
 have hlnl:(cd NN).length≤4:=(jW NN).2;obtain⟨LN,hLN⟩:=nmm (cd NN);obtain⟨L1,hL1⟩:=nmm (l++[UInt8.ofNat FB]++LN++eb);have hput:l++eJ (.mk (C:Int) (Tg:Int) ek eb es)=L1++dq es:=by rw[HP.out,hLN,←hL1];simp
 rw[hput];have hL1l:L1.length+bR es≤100000:=by
  rw[←hL1];rw[hLN] at hZT;simp;omega
 have hL2l:l.length+1+LN.length+eb.length≤100000:=by
  rw[hLN] at hZT;omega
 rw[hLN] at hlnl;obtain⟨HLN,HL1,HSZ,IH,HS,HDE,HT,HNN⟩:=Cx hLN hL1 hsz ih sk hde tk hNN;have S0:PuS B w.heap.size #[.int .i64 (C:Int),.int .i64 (Tg:Int),.bool ek,.string ⟨eb.toArray⟩,.slice a es.length c] w v l (w.alloc (.cells #[.int .i64 (C:Int),.int .i64 (Tg:Int),.bool ek,.string ⟨eb.toArray⟩,.slice a es.length c] 45)):=
  ⟨ge hW ((ar _ _).alloc (ah _) _),bi _ _ _ rfl,((ar _ _).alloc (ah _) _).mono hBw,by simp;omega,KpE.below ((ar _ _).alloc (ah _) _)⟩
 have HK:=hid h;have hZ6:=hz6;have hCl:C≤3:=by omega
 have hTl:Tg≤30:=by omega
 have HF:=hid hFB;clear ih sk hd hs hz6 ht hZ HP hsz hde tk hW h hput hNN t1 t2 t3 t4 hFB hZT hlen hLN hL1;simp only[elA,El.cls,El.tag,El.cons,El.bytes]
 go_enter Tryz.func89,Tryz.ntmps89
 go_upto_region 1 with fail
 generalize w.alloc (.cells #[.int .i64 (C:Int),.int .i64 (Tg:Int),.bool ek,.string ⟨eb.toArray⟩,.slice a es.length c] 45)=w1 at S0⊢;have q0:=cval S0.box 0 (.int .i64 (C:Int));have q1:=cval S0.box 1 (.int .i64 (Tg:Int));have q2:=cval S0.box 2 (.bool ek);have q3:=cval S0.box 3 (.string ⟨eb.toArray⟩);have hm1:IntKind.i64.wrap (64*(C:Int))=64*(C:Int):=by rw[aK];omega
 have hm2:IntKind.i64.wrap (64*(C:Int)+(Tg:Int))=64*(C:Int)+(Tg:Int):=by rw[aK];omega
 have hm3:IntKind.i64.wrap (64*(C:Int)+(Tg:Int)+32)=64*(C:Int)+(Tg:Int)+32:=by rw[aK];omega
 have HW1:=hid S0;clear S0
 go_upto_if 16 with fail
 go_cut [5] from 17 to 18 (fun s5 wx=>s5=.int .i64 (FB:Int)∧wx=w1)
 case first=>
  have hF:=HF.out;cases ek
  ·simp only[aW,if_false] at hF
   have HFF:=hid hF;clear hF
   go_wp2_with fail
   go_meet
   exact⟨congrArg _ (by have:=HFF.out;omega),rfl⟩
  ·simp only[if_true] at hF
   have HFF:=hid hF;clear hF
   go_wp2_with fail
   go_meet
   exact⟨congrArg _ (by have:=HFF.out;omega),rfl⟩
 case rest=>
  obtain⟨rfl,hwc⟩:=hcut;obtain rfl:=hwc.symm;clear q0 q1 q2 hm1 hm2 hm3 HF;have S0:=HW1.out;have q4:=cval S0.box 4 (.slice a es.length c);clear S0
  go_wp2_with fail
  go_loopw [6,7] (fun s6 i wr=>∃k m:Nat,i=.int .i64 (k:Int)∧s6=.int .i64 (m:Int)∧k≤es.length∧Below w1.heap.size w1 wr∧m+bR (es.drop k)=NN) (fun _ i _=>es.length -(RowKit.intOf i).toNat)
  case atStart=>exact⟨0,eb.length,rfl,rfl,Nat.zero_le _,ar _ _,HNN.out⟩
  case round=>
   obtain⟨k,m,rfl,rfl,hk,hbe,hans⟩:=hrel;have s4:=(hbe.cell (bj q4)).trans q4;clear q4 q3
   by_cases hkl:k<es.length
   ·have hbw:=HW1.out.bel.trans (hbe.mono HW1.out.low)
    obtain⟨e,he⟩:∃e,es[k]?=some e:=⟨es[k],bp hkl⟩;obtain⟨a',cap',e',_,hsrc⟩:=HK.out.kept (Q:=fun g=>g<B) fun g hg _=>⟨hbw.block g hg,hg⟩
    cases e';obtain⟨g,o,ha,_,hcells⟩:=hsrc (by intro h0;rw[h0] at hkl;simp at hkl);subst ha;obtain⟨p0,p1,p2,p3,u,p4,hu⟩:=(cE.get es g o k e hcells he).cells;obtain⟨au,cu,hfu⟩:=hu.shape;subst hfu;have hdep:ex e≤n:=by have h1:=eK es k e he;have:=HDE.out;omega
    have hze:=HSZ.out k e he;have i1:(k:Int)<(es.length:Int):=by omega
    have i3:decide ((k:Int)<(es.length:Int))=true:=aL i1;rw[gv he] at hans;simp only[bR] at hans;have kr:=yJ n e hdep (eV es k e HS.out he) _ wr (hu.mono (fun _ _ _=>trivial));rw[Bd (by have:=hll;omega)] at kr;obtain⟨z,hzz⟩:=nmm (bK e);rw[hzz] at kr hans hze;obtain⟨HANS,HB4⟩:=Cg hans hbe;have hm9:m+z≤65536:=by omega
    have hsz:=hbe.size;have hw1:IntKind.i64.wrap ((m:Int)+(z:Int))=(m:Int)+(z:Int):=by rw[aK];omega
    clear hsrc hcells he hu hzz hans hbe hbw hze;unfold elA at kr
    go_wp2_with fail
    refine ag kr ?_;rintro e5 w5 ⟨rfl,hb5⟩;have HB5:=hid (HB4.out.trans (hb5.mono (by omega)));clear hb5 kr
    go_wp2_with fail
    exact⟨⟨k+1,m+z,by go_num,by go_num,by omega,HB5.out,by have:=HANS.out;omega⟩,by simp[RowKit.intOf];omega⟩
   ·obtain rfl:k=es.length:=by omega
    rw[List.drop_of_length_le (ah _)] at hans;simp only[bR,Nat.add_zero] at hans;subst hans;have i3:decide ((es.length:Int)<(es.length:Int))=false:=an (by omega);have hf8:IntKind.u8.wrap (FB:Int)=(FB:Int):=by rw[IntKind.wrap_u8];omega
    have S1:=HW1.out.below hbe;have hcs:=bV1 FB hFB2;clear HW1 hbe hkl hk;have three:(m<128∧LN=[UInt8.ofNat m])∨(¬m<128∧m<256∧LN=[129,UInt8.ofNat m])∨(¬m<128∧¬m<256∧LN=[130,UInt8.ofNat (m/256),UInt8.ofNat m]):=by
     rw[←HLN.out];unfold cd
     by_cases h1:m<128
     ·exact .inl ⟨h1,if_pos h1⟩
     ·by_cases h2:m<256
      ·exact .inr (.inl ⟨h1,h2,by rw[if_neg h1,if_pos h2]⟩)
      ·exact .inr (.inr ⟨h1,h2,by rw[if_neg h1,if_neg h2,if_pos (by omega)]⟩)
    clear HLN;rcases three with⟨c1,c3⟩|⟨c1,c2,c3⟩|⟨c1,c2,c3⟩
    case' inl=>
     have d1:decide ((m:Int)<128)=true:=aL (by omega);have hm8:IntKind.u8.wrap (m:Int)=(m:Int):=by rw[IntKind.wrap_u8];omega
     have hc2:bV [UInt8.ofNat m]=[.int .u8 (m:Int)]:=bV1 m (by omega);have HC3:=hid c3;clear c3 c1
     go_wp2_with (first
      |(at_builtin;refine wN S1 [UInt8.ofNat FB] _ rfl (.tmp 37) (.tmp 40) rfl hcs.symm rfl rfl (by simp;omega) ?_;intro v2 w2 S2;clear S1)
      |(at_builtin;refine wN S2 [UInt8.ofNat m] _ rfl (.tmp 58) (.tmp 61) rfl hc2.symm rfl rfl (by simp;omega) ?_;intro v3 w3 S3;clear S2;rw[←HC3.out] at S3;clear HC3 d1 hm8 hc2;have q3:=cval S3.box 3 (.string ⟨eb.toArray⟩))
      |(at_builtin;refine yC S3 eb rfl (.tmp 83) (.tmp 85) rfl rfl rfl (by simp;omega) ?_;intro v4 w4 S4;clear S3 q3))
    case' inr.inl=>
     have d1:decide ((m:Int)<128)=false:=an (by omega);have d2:decide ((m:Int)<256)=true:=aL (by omega);have hm8:IntKind.u8.wrap (m:Int)=(m:Int):=by rw[IntKind.wrap_u8];omega
     have hc2:bV [129,UInt8.ofNat m]=[.int .u8 129,.int .u8 (m:Int)]:=by have:=bV1 m (by omega);simp only[bV,List.map_cons,List.map_nil] at this⊢;rw[this];rfl
     have HC3:=hid c3;clear c3 c1 c2
     go_wp2_with (first
      |(at_builtin;refine wN S1 [UInt8.ofNat FB] _ rfl (.tmp 37) (.tmp 40) rfl hcs.symm rfl rfl (by simp;omega) ?_;intro v2 w2 S2;clear S1)
      |(at_builtin;refine wN S2 [129,UInt8.ofNat m] _ rfl (.tmp 66) (.tmp 69) rfl hc2.symm rfl rfl (by simp;omega) ?_;intro v3 w3 S3;clear S2;rw[←HC3.out] at S3;clear HC3 d1 d2 hm8 hc2;have q3:=cval S3.box 3 (.string ⟨eb.toArray⟩))
      |(at_builtin;refine yC S3 eb rfl (.tmp 83) (.tmp 85) rfl rfl rfl (by simp;omega) ?_;intro v4 w4 S4;clear S3 q3))
    case' inr.inr=>
     have d1:decide ((m:Int)<128)=false:=an (by omega);have d2:decide ((m:Int)<256)=false:=an (by omega);have d3:decide ((m:Int)<65536)=true:=aL (by omega);have hm8:IntKind.u8.wrap ((m:Int)/256)=(m:Int)/256:=by rw[IntKind.wrap_u8];omega
     have hm9:IntKind.u8.wrap ((m:Int)% 256)=(m:Int)% 256:=by rw[IntKind.wrap_u8];omega
     have hc2:bV [130,UInt8.ofNat (m/256),UInt8.ofNat m]=[.int .u8 130,.int .u8 ((m:Int)/256),.int .u8 ((m:Int)% 256)]:=by
      have h1:m/256% 256=m/256:=by omega
      simp[bV,UInt8.toNat_ofNat',h1]
     have HC3:=hid c3;clear c3 c1 c2
     go_wp2_with (first
      |(at_builtin;refine wN S1 [UInt8.ofNat FB] _ rfl (.tmp 37) (.tmp 40) rfl hcs.symm rfl rfl (by simp;omega) ?_;intro v2 w2 S2;clear S1)
      |(at_builtin;refine wN S2 [130,UInt8.ofNat (m/256),UInt8.ofNat m] _ rfl (.tmp 74) (.tmp 81) rfl hc2.symm rfl rfl (by simp;omega) ?_;intro v3 w3 S3;clear S2;rw[←HC3.out] at S3;clear HC3 d1 d2 d3 hm8 hm9 hc2;have q3:=cval S3.box 3 (.string ⟨eb.toArray⟩))
      |(at_builtin;refine yC S3 eb rfl (.tmp 83) (.tmp 85) rfl rfl rfl (by simp;omega) ?_;intro v4 w4 S4;clear S3 q3))
    all_goals
     rw[HL1.out] at S4;have HS4:=hid S4;clear S4
     go_loopw [0,8] (fun s0 i wr=>∃k:Nat,i=.int .i64 (k:Int)∧k≤es.length∧PuS B w.heap.size #[.int .i64 (C:Int),.int .i64 (Tg:Int),.bool ek,.string ⟨eb.toArray⟩,.slice a es.length c] w s0 (L1++dq (es.take k)) wr) (fun _ i _=>es.length -(RowKit.intOf i).toNat)
     case atStart=>exact⟨0,rfl,Nat.zero_le _,by simpa[dq] using HS4.out⟩
     case round=>
      clear HS4;obtain⟨k,rfl,hk,SK⟩:=hrel;have s4:=cval SK.box 4 (.slice a es.length c)
      by_cases hkl:k<es.length
      ·obtain⟨e,he⟩:∃e,es[k]?=some e:=⟨es[k],bp hkl⟩
       obtain⟨a',cap',e',_,hsrc⟩:=HK.out.kept (Q:=fun g=>g<B) fun g hg _=>⟨SK.bel.block g hg,hg⟩
       cases e';obtain⟨g,o,ha,_,hcells⟩:=hsrc (by intro h0;rw[h0] at hkl;simp at hkl);subst ha;obtain⟨p0,p1,p2,p3,u,p4,hu⟩:=(cE.get es g o k e hcells he).cells;obtain⟨au,cu,hfu⟩:=hu.shape;subst hfu;have hdep:ex e≤n:=by have h1:=eK es k e he;have:=HDE.out;omega
       have hze:=HSZ.out k e he;have i1:(k:Int)<(es.length:Int):=by omega
       have i3:decide ((k:Int)<(es.length:Int))=true:=aL i1;have hts:=ll he;have hsum2:bR (es.take k)+bK e≤bR es:=by have:=jf es (k+1);rw[hts,jg] at this;exact this
       have hpl:=iJ (es.take k) (fun j x hj=>by
        have h1:es[j]?=some x:=by
         have hjl:=(List.getElem?_eq_some_iff.1 hj).1;rw[List.length_take] at hjl;rw[List.getElem?_take_of_lt (by omega)] at hj;exact hj
        have:=HSZ.out j x h1;omega)
       have hT:=HT.out;have kr:=IH.out e hdep (eV es k e HS.out he) (by omega) (jP es k e HT.out he) B _ (L1++dq (es.take k)) _ wr SK.own hu SK.low (by simp[hpl];omega);obtain⟨HSK,HTS⟩:=Cg SK hts;clear hsrc hcells he hu hpl hsum2 hT hts hze SK;unfold elA at kr
       go_wp2_with fail
       refine ag kr ?_;rintro e5 w5 ⟨⟨v5,rfl,ho5⟩,hb5,hk5⟩;have S5:=HSK.out.call ho5 hb5 hk5;rw[List.append_assoc,←jh,←HTS.out] at S5;have HS5:=hid S5;clear hb5 hk5 kr S5 ho5 HSK
       go_wp2_with fail
       exact⟨⟨k+1,by go_num,by omega,HS5.out⟩,by simp[RowKit.intOf];omega⟩
      ·obtain rfl:k=es.length:=by omega
       rw[List.take_of_length_le (ah _)] at SK;have i3:decide ((es.length:Int)<(es.length:Int))=false:=an (by omega)
       go_wp2_with fail
       go_ret
       exact⟨⟨_,rfl,SK.own⟩,SK.bel,SK.kp⟩
theorem xZ(el:El)(hs:SmE el)(u:Value)(w:World)(h:bf (fun _=>True) w u el.kids):
  Cr 38 #[.agg (elA el u)] w (.tuple #[.string ⟨(dD el).1.toArray⟩,.int .i64 (dD el).2]):=by
 obtain⟨s,n,hsn⟩:∃s n,dD el=(s,n):=⟨_,_,rfl⟩;rw[hsn];simp only;obtain⟨HSN,HS⟩:=Cg hsn hs;obtain⟨a,c,hf⟩:=h.shape;subst hf;obtain⟨R,hR⟩:=nmm (elA el (.slice a el.kids.length c));have hsz:R.size=5:=by rw[←hR];rfl
 have b1:=alb w R 45;have r1:=alz w R 45;obtain⟨H1,KF,KZ,KP⟩:=Ci (h.below b1) (fun W (hW:bf (fun _=>True) W (.slice a el.kids.length c) el.kids)=>Ae (ex el) el (ah _) hs 0 (by omega) _ W hW) (fun W (hW:bf (fun _=>True) W (.slice a el.kids.length c) el.kids)=>yJ (ex el) el (ah _) hs _ W hW) (fun(hz:bK el≤65536) (ht:jO cn el) W (hW:bf (fun _=>True) W (.slice a el.kids.length c) el.kids)=>Be (ex el) el (ah _) hs hz ht W.heap.size (Sn) [] _ W (World.ownsRow_nil _ _ _ _) (hW.kept (Q:=fun g=>g<W.heap.size) fun g _ hg=>⟨rfl,hg⟩) (ah _) (by simp;omega));rw[hR] at KF KZ KP⊢;have HZ:=hid hsz;clear h hsn hs hR hsz
 go_enter Tryz.func38,Tryz.ntmps38
 go_upto_region 1 with fail
 generalize w.alloc (.cells R 45)=w1 at b1 r1 H1⊢;have k1:=KF.out w1 H1.out;obtain⟨B1,h1⟩:=nmm (faT 0 el);obtain⟨B2,h2⟩:=nmm (faF 0 el);obtain⟨B3,h3⟩:=nmm (eW 0 el);rw[h1,h2,h3] at k1;have hr:=HSN.out;have g1:qs cn 0 el=!B1:=by rw[←h1,faT];simp
 have g2:qs cB 0 el=!B2:=by rw[←h2,faF];simp
 simp only[dD,g1,g2,h3] at hr;obtain⟨HR,HG1,HG3⟩:=Ch hr g1 h3;clear h1 h2 h3 g1 g2 hr KF
 go_wp2_with (refine bg rfl 45 (.tmp 1) rfl w.heap.size 45 _ (0,0) (by rfl) r1 _ Tryz.underlying45 rfl (by rw[HZ.out];rfl) ?_)
 refine ag k1 ?_;rintro e2 w2 ⟨rfl,hb2⟩;have r2:=bkk hb2 r1;have b2:=btt b1 hb2;have H2:=hid (H1.out.below hb2);clear k1 b1 r1 H1 hb2;cases B1 with
 |true=>
  have hr:=HR.out;simp only[Bool.not_true,if_true] at hr;cases hr
  go_wp2_with fail
  go_ret2
  exact⟨rfl,b2⟩
 |false=>
  cases B2 with
  |true=>
   have hr:=HR.out
   simp[Bool.not_true,Bool.not_false] at hr
   obtain⟨rfl,rfl⟩:=hr
   go_wp2_with fail
   go_ret2
   exact⟨rfl,b2⟩
  |false=>
   cases B3 with
   |true=>
    have hr:=HR.out
    simp[Bool.not_false] at hr
    obtain⟨rfl,rfl⟩:=hr
    go_wp2_with fail
    go_ret2
    exact⟨rfl,b2⟩
   |false=>
    have k4:=KZ.out w2 H2.out;have hrs:=yB el
    go_wp2_with (refine bg rfl 45 (.tmp 1) rfl w.heap.size 45 _ (0,0) (by rfl) r2 _ Tryz.underlying45 rfl (by rw[HZ.out];rfl) ?_)
    refine ag k4 ?_;rintro e5 w5 ⟨rfl,hb5⟩;have r5:=bkk hb5 r2;have b5:=btt b2 hb5;have H5:=hid (H2.out.below hb5);clear k4 b2 r2 H2 hb5
    by_cases h6:65536<bK el
    ·have hr:=HR.out
     simp[Bool.not_false,h6] at hr
     obtain⟨rfl,rfl⟩:=hr;have g6:decide ((rsE el:Int)>65536)=true:=aL (by omega);have g7:decide ((65536:Int)<(rsE el:Int))=true:=g6;clear hrs h6
     go_wp2_with fail
     go_ret2
     exact⟨rfl,b5⟩
    ·have hr:=HR.out
     simp[Bool.not_false,h6] at hr
     obtain⟨rfl,rfl⟩:=hr;have g6:decide ((rsE el:Int)>65536)=false:=an (by omega);have g7:decide ((65536:Int)<(rsE el:Int))=false:=g6;have kp:=KP.out (by omega) (qB cn 0 el (by rw[HG1.out];rfl) HG3.out) w5 H5.out;have hs5:=b5.size;clear hrs h6
     go_wp2_with (refine bg rfl 45 (.tmp 1) rfl w.heap.size 45 _ (0,0) (by rfl) r5 _ Tryz.underlying45 rfl (by rw[HZ.out];rfl) ?_)
     refine ag kp ?_;rintro e7 w7 ⟨⟨v7,rfl,ho7⟩,hb7,_⟩;have b7:=b5.trans (hb7.mono hs5);rw[List.nil_append] at ho7;obtain⟨g,cap,hv7⟩:∃g cap,v7=.slice (some ⟨g,0,none⟩) (eJ el).length cap:=by
      rcases id ho7.2 with⟨_,h0⟩|⟨g,cap',cur,h1,_⟩
      ·exact absurd (List.eq_nil_of_length_eq_zero h0) (sZ el)
      ·exact⟨g,cap',h1⟩
     subst hv7;have hcv:=eI (P:=Tryz.prog) w7 39 9 5 w5.heap.size _ (eJ el) Tryz.underlying39 Tryz.underlying5 Tryz.underlying9 ho7;clear kp ho7 hb7
     go_wp2_with fail
     go_ret2
     exact⟨by simp,b7⟩
section
variable {md:Region.Mode} {ops:Array Oper} {Q:Exit→Act→World→Prop} {S:World→Prop} {st:Nat} {fuel:Nat} {listed:Array Bool} {a a':Act} {w:World} {v:Value} {o ost:Oper}
theorem tg{id:Nat}(S:World→Prop)(st:Nat)(h:∀w',Below w.heap.size w w'→wI Tryz.prog .any ops Q S st ops.size (Array.replicate ops.size false) a w')(hm:Tryz.prog.follows .mixedOrders=true:=by kernel_rfl):(Code.region id ops true).wp Tryz.prog Q a w:=
 lx hm (h _ (ar w.heap.size w).drew)
theorem ta(i:Nat)(p:Addr)(ho:ops[i]?=some o)(T:S w)(h:wI Tryz.prog md ops Q S st fuel (listed.setIfInBounds i true) a' w)(hy:∀w',(execOp a.eval o).run Tryz.prog w'=.ok (.value (.pointer (some p))) w':=by intro w';go_simp)
  (ha:a.put o.dst (.pointer (some p))=a':=by first|(go_simp;rfl)|rfl) (hi:i≠st:=by decide) (hs:Region.noSelect ops=true:=by kernel_rfl) (hf:Region.free md ops listed i=true:=by kernel_rfl) (hr:(Region.ready md ops listed).contains i=true:=by kernel_rfl) (hQ:∀c a w,Q (.panic c) (a.put o.dst (.pointer (some p))) w→Q (.panic c) a w:=by exact fun _ _ _ h=>h)
  (hw:Region.wanted o (yielded ops a.tmps)=true:=by rfl):wI Tryz.prog md ops Q S st (fuel+1) listed a w:=
 d9 i _ ho hi hs hf hr hQ hw hy (.inr T) (fun _ hK=>hK _ _ (ha▸h))
theorem tt(i:Nat)(v:Value)(ho:ops[i]?=some o)(host:ops[st]?=some ost)(T:S w)(hy:∀w',S w'→(execOp a.eval o).run Tryz.prog w'=.ok (.value v) w')(h:wI Tryz.prog md ops Q S st fuel (listed.setIfInBounds i true) a' w)
  (ha:a.put o.dst v=a':=by first|(go_simp;rfl)|rfl) (hi:i≠st:=by decide) (hwait:(ost.after.toList.any fun e=>Region.binds md e&&decide (e.on=i))=true:=by kernel_rfl) (hs:Region.noSelect ops=true:=by kernel_rfl) (hf:Region.free md ops listed i=true:=by kernel_rfl) (hr:(Region.ready md ops listed).contains i=true:=by kernel_rfl) (hQ:∀c a w,Q (.panic c) (a.put o.dst v) w→Q (.panic c) a w:=by exact fun _ _ _ h=>h)
  (hw:Region.wanted o (yielded ops a.tmps)=true:=by rfl) (hst:listed.getD st false=false:=by rfl):wI Tryz.prog md ops Q S st (fuel+1) listed a w:=
 it i v ho hi host hwait hs hf hr hQ hw hy hst T (fun _ hK=>hK _ _ (ha▸h))
theorem tl(i:Nat)(p:Addr)(v:Value)(ho:ops[i]?=some o)(host:ops[st]?=some ost)(T:S w)(hc:∀w',S w'→w'.cell? p=some v)(h:wI Tryz.prog md ops Q S st fuel (listed.setIfInBounds i true) a' w)
  (hy:∀w':World,w'.cell? p=some v→(execOp a.eval o).run Tryz.prog w'=.ok (.value v) w':=by intro w' q;go_simp)
  (ha:a.put o.dst v=a':=by first|(go_simp;rfl)|rfl) (hi:i≠st:=by decide) (hwait:(ost.after.toList.any fun e=>Region.binds md e&&decide (e.on=i))=true:=by kernel_rfl) (hs:Region.noSelect ops=true:=by kernel_rfl) (hf:Region.free md ops listed i=true:=by kernel_rfl) (hr:(Region.ready md ops listed).contains i=true:=by kernel_rfl) (hQ:∀c a w,Q (.panic c) (a.put o.dst v) w→Q (.panic c) a w:=by exact fun _ _ _ h=>h)
  (hw:Region.wanted o (yielded ops a.tmps)=true:=by rfl) (hst:listed.getD st false=false:=by rfl):wI Tryz.prog md ops Q S st (fuel+1) listed a w:=
 tt i v ho host T (fun w' hS=>hy w' (hc w' hS)) h ha hi hwait hs hf hr hQ hw hst
theorem tc(i:Nat){f:FuncId}{args:Array Value}(kc:Calls Tryz.prog f args w fun e w'=>e=.returned v∧Below w.heap.size w w')(ho:ops[i]?=some o)(hT:∀w',Below w.heap.size w w'→S w')
  (h:∀w',Below w.heap.size w w'→wI Tryz.prog md ops Q S st fuel (listed.setIfInBounds i true) a' w')
  (hrun:(execOp a.eval o).run Tryz.prog w=.ok (.enter f args) w:=by first|rfl|go_simp) (ha:a.put o.dst v=a':=by first|(go_simp;rfl)|rfl) (hr:Region.ready md ops listed=[i]:=by kernel_rfl) (hw:Region.wanted o (yielded ops a.tmps)=true:=by rfl):wI Tryz.prog md ops Q S st (fuel+1) listed a w:=
 cr i hr ho hw fun K hK=>by
  unfold Oper.wp;rw[hrun,Oper.upon_enter];refine kc.mono fun e w' hh=>?_
  obtain⟨rfl,hb⟩:=hh;show K _ _;rw[ha];exact hK _ _ (.inr (hT w' hb)) (h w' hb)
theorem tb(i:Nat)(R:Array Value)(ho:ops[i]?=some o)(hT:∀w',Below w.heap.size w w'→S w')(h:wI Tryz.prog md ops Q S st fuel (listed.setIfInBounds i true) a' (w.alloc (.cells R 45)))
  (hrun:(execOp a.eval o).run Tryz.prog w=.ok (.value (.slice (some ⟨w.heap.size,0,none⟩) 1 1)) (w.alloc (.cells R 45)):=by first|(go_simp;done)|(go_simp;rfl))
  (ha:a.put o.dst (.slice (some ⟨w.heap.size,0,none⟩) 1 1)=a':=by first|(go_simp;rfl)|rfl) (hr:Region.ready md ops listed=[i]:=by kernel_rfl) (hw:Region.wanted o (yielded ops a.tmps)=true:=by rfl):wI Tryz.prog md ops Q S st (fuel+1) listed a w:=
 cr i hr ho hw fun K hK=>by
  unfold Oper.wp;rw[hrun];show K _ _;rw[ha];exact hK _ _ (.inr (hT _ ((ar _ _).alloc (ah _) _))) h
theorem tw(i:Nat)(ho:ops[i]?=some o)(h:∀K':Act→World→Prop,(∀a w,S w→wI Tryz.prog md ops Q S st fuel (listed.setIfInBounds i true) a w→K' a w)→Oper.wp Tryz.prog o a w K' Q)(hr:Region.ready md ops listed=[i]:=by kernel_rfl)(hw:Region.wanted o (yielded ops a.tmps)=true:=by rfl):wI Tryz.prog md ops Q S st (fuel+1) listed a w:=
 cr i hr ho hw fun K hK=>h K fun a w s k=>hK a w (.inr s) k
theorem tf(h:wI Tryz.prog md ops Q S st fuel listed a' w)(ha:a=a':=by first|(go_simp;rfl)|rfl):wI Tryz.prog md ops Q S st fuel listed a w:=ha▸h
theorem tz(i:Nat)(w2:World)(ho:ops[i]?=some o)(h:Q .normal a' w2)(hrun:∀K:Act→World→Prop,K a' w2→Oper.wp Tryz.prog o a w K Q:=by intro K hK;go_simp;exact hK)
  (hr:Region.ready md ops listed=[i]:=by kernel_rfl) (hw:Region.wanted o (yielded ops a.tmps)=true:=by rfl) (hd:Region.ready md ops (listed.setIfInBounds i true)=[]:=by kernel_rfl) (hst:(listed.setIfInBounds i true).getD st false=true:=by rfl):wI Tryz.prog md ops Q S st (fuel+1) listed a w:=
 cr i hr ho hw fun K hK=>hrun K (hK _ _ (.inl hst) (nP hd h _))
end
abbrev AtK(w0:World)(A:Array Value)(wx:World)(K:Value):World→Prop:=fun w'=>w'.heap[w0.heap.size]?=some (.cells A 28 (0,0))∧w'.cell? ⟨wx.heap.size,4,none⟩=some K
theorem OxS.k{w wx W:World}{A C:Array Value}{u K:Value}{L:List El}(h:OxS w A wx)(S:EaS wx.heap.size C wx u L W)(hv:C[4]?=some K:=by rfl):AtK w A wx K W:=⟨h.m S.bel,(ap S.box 4).trans hv⟩
end Go.Proofs.YthjaiigijbjloaaGreatDoor
